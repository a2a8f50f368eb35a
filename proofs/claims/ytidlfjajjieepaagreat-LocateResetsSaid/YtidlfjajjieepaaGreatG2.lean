/- Parts of the proof: walks and plain facts. Conditions: as each theorem states. -/
import Derived.Test.YtidlfjajjieepaaGreatG1
import Derived.WideShapes
import Derived.ChangeArms
import Derived.Deep.Fields
import Derived.Test.YtidlfjajjieepaaGreatRows
import Derived.ProofKit
import Derived.OpenShut
import Derived.ShutString
import Derived.ChangeOld
import Derived.Lib.SmallJoins
import Derived.Shelf.Small.Bits
import Derived.Shelf.Strconv.Itoa0
import Derived.Shelf.SlSortCmp.WholeK
import Derived.Shelf.SlGeneric
import Derived.Ground.SlsfProg
import Derived.Test.YtidlfjajjieepaaGreatProg
import Derived.Lib.SortBridge
import Derived.Lib.RowBridge
namespace Go.Proofs.YtidlfjajjieepaaGreat
set_option linter.unusedSimpArgs false
set_option linter.unusedVariables false
open Go.RowKit

mutual
def AV.mv (σ : Nat → Nat) : AV → AV
 | .any => .any
 | .int k n => .int k n
 | .bool b => .bool b
 | .str s => .str s
 | .ptr none => .ptr none
 | .ptr (some (b, o)) => .ptr (some (σ b, o))
 | .sl none n c => .sl none n c
 | .sl (some (b, o)) n c => .sl (some (σ b, o)) n c
 | .mp none => .mp none
 | .mp (some b) => .mp (some (σ b))
 | .fn f caps => .fn f (AV.mvs σ caps)
 | .nilfn => .nilfn
 | .agg cs => .agg (AV.mvs σ cs)
 | .tup vs => .tup (AV.mvs σ vs)
def AV.mvs (σ : Nat → Nat) : List AV → List AV
 | [] => []
 | x :: r => x.mv σ :: AV.mvs σ r
end
mutual
def AV.bel (n : Nat) : AV → Bool
 | .ptr (some (b, _)) => decide (b < n)
 | .sl (some (b, _)) _ _ => decide (b < n)
 | .mp (some b) => decide (b < n)
 | .fn _ caps => AV.bels n caps
 | .agg cs => AV.bels n cs
 | .tup vs => AV.bels n vs
 | _ => true
def AV.bels (n : Nat) : List AV → Bool
 | [] => true
 | x :: r => x.bel n && AV.bels n r
end
theorem AV.mvs_eq (σ : Nat → Nat) : ∀ xs : List AV, AV.mvs σ xs = xs.map (AV.mv σ)
 | [] => rfl
 | x :: r => by simp [AV.mvs, AV.mvs_eq σ r]
theorem AV.bels_eq (n : Nat) : ∀ xs : List AV, AV.bels n xs = xs.all (AV.bel n)
 | [] => rfl
 | x :: r => by simp [AV.bels, AV.bels_eq n r]
mutual
theorem mv_id {n : Nat} {σ : Nat → Nat} (h : ∀ b, b < n → σ b = b) : ∀ x : AV, x.bel n = true → x.mv σ = x
 | .any, _ => rfl
 | .int _ _, _ => rfl
 | .bool _, _ => rfl
 | .str _, _ => rfl
 | .ptr none, _ => rfl
 | .ptr (some (b, o)), hb => by simp [AV.bel] at hb; simp [AV.mv, h b hb]
 | .sl none _ _, _ => rfl
 | .sl (some (b, o)) _ _, hb => by simp [AV.bel] at hb; simp [AV.mv, h b hb]
 | .mp none, _ => rfl
 | .mp (some b), hb => by simp [AV.bel] at hb; simp [AV.mv, h b hb]
 | .nilfn, _ => rfl
 | .fn f caps, hb => by simp only [AV.bel] at hb; simp only [AV.mv, gW h caps hb]
 | .agg cs, hb => by simp only [AV.bel] at hb; simp only [AV.mv, gW h cs hb]
 | .tup cs, hb => by simp only [AV.bel] at hb; simp only [AV.mv, gW h cs hb]
theorem gW {n : Nat} {σ : Nat → Nat} (h : ∀ b, b < n → σ b = b) : ∀ xs : List AV, AV.bels n xs = true → AV.mvs σ xs = xs
 | [], _ => rfl
 | x :: r, hb => by
  simp only [AV.bels, Bool.and_eq_true] at hb
  simp only [AV.mvs, mv_id h x hb.1, gW h r hb.2]
end
mutual
theorem rel_mv {E E' : Env} {σ : Nat → Nat} (hl : ∀ b, E'.loc b = E.loc (σ b)) (hn : ∀ b, σ b < E.n → b < E'.n) : ∀ (x : AV) (v : Value), Rel E (x.mv σ) v → Rel E' x v
 | .any, v, _ => .any v
 | .int _ _, v, h => by simp only [AV.mv] at h; cases h; exact .int _ _
 | .bool _, v, h => by simp only [AV.mv] at h; cases h; exact .bool _
 | .str _, v, h => by simp only [AV.mv] at h; cases h; exact .str _
 | .ptr none, v, h => by simp only [AV.mv] at h; cases h; exact .nilptr
 | .ptr (some (b, o)), v, h => by
  simp only [AV.mv] at h
  cases h with
  | ptr _ _ hb => rw [← hl]; exact .ptr b o (hn b hb)
 | .sl none _ _, v, h => by simp only [AV.mv] at h; cases h; exact .nilsl
 | .sl (some (b, o)) n c, v, h => by
  simp only [AV.mv] at h
  cases h with
  | nils _ _ hb hc => exact .nils b c (hn b hb) hc
  | sl _ _ _ _ q a hb h1 h2 h3 h4 h5 => exact .sl b o n c q a (hn b hb) h1 h2 h3 (by rw [hl]; exact h4) (by rw [hl]; exact h5)
 | .mp none, v, h => by simp only [AV.mv] at h; cases h; exact .nilmp
 | .mp (some b), v, h => by
  simp only [AV.mv] at h
  cases h with
  | mp _ hb => rw [← hl]; exact .mp b (hn b hb)
 | .nilfn, v, h => by simp only [AV.mv] at h; cases h; exact .nilfn
 | .fn f caps, v, h => by
  simp only [AV.mv] at h
  cases h with
  | fn _ _ cs h1 h2 =>
   have := gb hl hn caps cs.toList ⟨by simpa using h1, fun i x v hx hv => h2 i x v hx (by simpa using hv)⟩
   have := this.fn (f := f)
   simpa using this
 | .agg xs, v, h => by
  simp only [AV.mv] at h
  obtain ⟨vs, rfl, hr⟩ := cQ h
  exact (gb hl hn xs vs hr).agg
 | .tup xs, v, h => by
  simp only [AV.mv] at h
  cases h with
  | tup _ cs h1 h2 =>
   have := (gb hl hn xs cs.toList ⟨by simpa using h1, fun i x v hx hv => h2 i x v hx (by simpa using hv)⟩).tup
   simpa using this
theorem gb {E E' : Env} {σ : Nat → Nat} (hl : ∀ b, E'.loc b = E.loc (σ b)) (hn : ∀ b, σ b < E.n → b < E'.n) : ∀ (xs : List AV) (vs : List Value), RelL E (AV.mvs σ xs) vs → RelL E' xs vs
 | [], vs, h => by
  have : vs = [] := List.length_eq_zero_iff.1 (by have := h.1; simpa [AV.mvs] using this.symm)
  subst this
  exact RelL.nil E'
 | x :: r, [], h => by have := h.1; simp [AV.mvs] at this
 | x :: r, v :: vs, h => by
  simp only [AV.mvs] at h
  obtain ⟨h1, h2⟩ := h.uncons
  exact .cons (rel_mv hl hn x v h1) (gb hl hn r vs h2)
end
mutual
theorem rel_bel {E : Env} : ∀ (x : AV) (v : Value), Rel E x v → x.bel E.n = true
 | .any, v, _ => rfl
 | .int _ _, v, h => rfl
 | .bool _, v, h => rfl
 | .str _, v, h => rfl
 | .ptr none, v, h => rfl
 | .ptr (some (b, o)), v, h => by cases h with | ptr _ _ hb => simp [AV.bel, hb]
 | .sl none _ _, v, h => rfl
 | .sl (some (b, o)) n c, v, h => by cases h with | nils _ _ hb => simp [AV.bel, hb] | sl _ _ _ _ q a hb => simp [AV.bel, hb]
 | .mp none, v, h => rfl
 | .mp (some b), v, h => by cases h with | mp _ hb => simp [AV.bel, hb]
 | .nilfn, v, h => rfl
 | .fn f caps, v, h => by
  cases h with
  | fn _ _ cs h1 h2 =>
   simp only [AV.bel]
   exact fa caps cs.toList ⟨by simpa using h1, fun i x v hx hv => h2 i x v hx (by simpa using hv)⟩
 | .agg xs, v, h => by
  obtain ⟨vs, rfl, hr⟩ := cQ h
  simp only [AV.bel]
  exact fa xs vs hr
 | .tup xs, v, h => by
  cases h with
  | tup _ cs h1 h2 =>
   simp only [AV.bel]
   exact fa xs cs.toList ⟨by simpa using h1, fun i x v hx hv => h2 i x v hx (by simpa using hv)⟩
theorem fa {E : Env} : ∀ (xs : List AV) (vs : List Value), RelL E xs vs → AV.bels E.n xs = true
 | [], vs, h => rfl
 | x :: r, [], h => by have := h.1; simp at this
 | x :: r, v :: vs, h => by
  obtain ⟨h1, h2⟩ := h.uncons
  simp only [AV.bels, Bool.and_eq_true]
  exact ⟨rel_bel x v h1, fa r vs h2⟩
end
def ABlk.bel (n : Nat) : ABlk → Bool
 | .dead => true
 | .cells _ _ xs => AV.bels n xs
 | .map es => AV.bels n (es.map (·.1)) && AV.bels n (es.map (·.2))
def ABlk.mv (σ : Nat → Nat) : ABlk → ABlk
 | .dead => .dead
 | .cells o e xs => .cells o e (AV.mvs σ xs)
 | .map es => .map (es.map fun p => (p.1.mv σ, p.2.mv σ))
def HBel (n : Nat) (H : ac) : Prop := ∀ (b : Nat) (x : ABlk), H[b]? = some x → x.bel n = true
theorem Emb.bel {E : Env} {H : ac} {w : World} (h : Emb E H w) : HBel H.length H := fun b x hx => by
 rw [← h.n]
 have hk := h.blk b x hx
 cases x with
 | dead => rfl
 | cells own es xs =>
  simp only [ABlk.bel]
  rw [AV.bels_eq, List.all_eq_true]
  intro y hy
  obtain ⟨j, hj⟩ := List.mem_iff_getElem?.1 hy
  obtain ⟨-, v, -, hr⟩ := hk.1 j y hj
  exact rel_bel y v hr
 | map es =>
  obtain ⟨-, -, ents, clock, -, h4, h5⟩ := hk
  simp only [ABlk.bel, Bool.and_eq_true]
  exact ⟨fa _ _ h4, fa _ _ h5⟩
theorem kP {E E' : Env} {σ : Nat → Nat} (hB : E'.B = E.B) (hl : ∀ b, E'.loc b = E.loc (σ b)) (hn : ∀ b, σ b < E.n → b < E'.n) {w : World} {L : Loc} : ∀ {x : ABlk}, BlkOk E w L (x.mv σ) → BlkOk E' w L x
 | .dead, _ => trivial
 | .cells own es xs, h => by
  simp only [ABlk.mv] at h
  obtain ⟨h1, h2, h3, h4⟩ := h
  refine ⟨fun j y hj => ?_, fun ho => ?_, fun ho hlen => ?_, h4⟩
  ·obtain ⟨a1, v, a2, a3⟩ := h1 j (y.mv σ) (by rw [AV.mvs_eq, List.getElem?_map, hj]; rfl)
   exact ⟨by cases y <;> simp [AV.mv, AV.one] at a1 ⊢, v, a2, rel_mv hl hn y v a3⟩
  ·rw [hB]
   have := h2 ho
   rw [AV.mvs_eq, List.length_map] at this
   exact this
  ·rw [hB]
   exact h3 ho (by rw [AV.mvs_eq, List.length_map]; exact hlen)
 | .map es, h => by
  simp only [ABlk.mv] at h
  obtain ⟨h1, h2, ents, clock, h3, h4, h5⟩ := h
  refine ⟨by rw [hB]; exact h1, h2, ents, clock, h3, gb hl hn _ _ ?_, gb hl hn _ _ ?_⟩
  ·rw [AV.mvs_eq]; simpa [Function.comp_def] using h4
  ·rw [AV.mvs_eq]; simpa [Function.comp_def] using h5
def Wc (m : Nat) (x y : AV) : Prop := x = y ∨ (∃ b c, x = .sl none 0 (some 0) ∧ y = .sl (some (b, 0)) 0 c ∧ b < m ∧ (c = none ∨ c = some 0)) ∨ ∃ p n c, x = .sl (some p) n c ∧ y = .sl (some p) n none
theorem Wc.rel {E : Env} {m : Nat} {x y : AV} {v : Value} (hm : m ≤ E.n) (h : Wc m x y) (hx : Rel E x v) : Rel E y v := by
 rcases h with rfl | ⟨b, c, rfl, rfl, hb, hc⟩ | ⟨p, n, c, rfl, rfl⟩
 ·exact hx
 ·cases hx; exact .nils _ _ (by omega) hc
 ·cases hx with
  | nils _ _ hb hc => exact .nils _ none hb (.inl rfl)
  | sl _ _ _ _ q a hb h1 h2 h3 h4 h5 => exact .sl _ _ _ none q a hb h1 h2 (.inl rfl) h4 h5
theorem Wc.one {m : Nat} {x y : AV} (h : Wc m x y) (hx : x.one = true) : y.one = true := by
 rcases h with rfl | ⟨b, c, rfl, rfl, hb, hc⟩ | ⟨p, n, c, rfl, rfl⟩
 ·exact hx
 ·rfl
 ·rfl
def Wcs (m : Nat) : List AV → List AV → Prop
 | [], [] => True
 | x :: xs, y :: ys => Wc m x y ∧ Wcs m xs ys
 | _, _ => False
theorem Wcs.get {m : Nat} : ∀ {xs ys : List AV}, Wcs m xs ys → xs.length = ys.length ∧ ∀ (i : Nat) (y : AV), ys[i]? = some y → ∃ x, xs[i]? = some x ∧ Wc m x y
 | [], [], _ => ⟨rfl, fun i y h => by simp at h⟩
 | x :: xs, y :: ys, h => by
  obtain ⟨h1, h2⟩ := Wcs.get h.2
  refine ⟨by simp [h1], fun i u hu => ?_⟩
  cases i with
  | zero => simp at hu; subst hu; exact ⟨x, rfl, h.1⟩
  | succ i => exact h2 i u (by simpa using hu)
 | [], _ :: _, h => h.elim
 | _ :: _, [], h => h.elim
mutual
def W (m : Nat) : AV → AV → Prop
 | .agg xs, y => y = .any ∨ (match y with | .agg ys => Ws m xs ys | _ => False)
 | .tup xs, y => y = .any ∨ (match y with | .tup ys => Ws m xs ys | _ => False)
 | x, y => y = .any ∨ Wc m x y
def Ws (m : Nat) : List AV → List AV → Prop
 | [], ys => (match ys with | [] => True | _ => False)
 | x :: xs, ys => (match ys with | y :: ys => W m x y ∧ Ws m xs ys | [] => False)
end
mutual
theorem W.refl {m : Nat} : ∀ (x : AV), W m x x
 | .agg xs => .inr (Ws.refl xs)
 | .tup xs => .inr (Ws.refl xs)
 | .any => .inl rfl
 | .int _ _ => .inr (.inl rfl)
 | .bool _ => .inr (.inl rfl)
 | .str _ => .inr (.inl rfl)
 | .ptr _ => .inr (.inl rfl)
 | .sl _ _ _ => .inr (.inl rfl)
 | .mp _ => .inr (.inl rfl)
 | .fn _ _ => .inr (.inl rfl)
 | .nilfn => .inr (.inl rfl)
theorem Ws.refl {m : Nat} : ∀ (xs : List AV), Ws m xs xs
 | [] => trivial
 | x :: xs => ⟨W.refl x, Ws.refl xs⟩
end
theorem W_any {m : Nat} : ∀ (x : AV), W m x .any
 | .agg _ | .tup _ | .any | .int _ _ | .bool _ | .str _ | .ptr _ | .sl _ _ _ | .mp _ | .fn _ _ | .nilfn => .inl rfl
theorem ii {m : Nat} {xs ys : List AV} : W m (.agg xs) (.agg ys) = Ws m xs ys := by
 show (AV.agg ys = .any ∨ Ws m xs ys) = _
 simp
theorem jm {m : Nat} {xs ys : List AV} : W m (.tup xs) (.tup ys) = Ws m xs ys := by
 show (AV.tup ys = .any ∨ Ws m xs ys) = _
 simp
theorem gc {m : Nat} {x y : AV} {xs ys : List AV} : Ws m (x :: xs) (y :: ys) = (W m x y ∧ Ws m xs ys) := rfl
theorem ge {m : Nat} {x : AV} : W m x x = True := eq_true (W.refl x)
theorem fc {m : Nat} {xs : List AV} : Ws m xs xs = True := eq_true (Ws.refl xs)
theorem gX {m : Nat} {x : AV} : W m x .any = True := eq_true (W_any x)
theorem dj {m b : Nat} {c : Option Nat} (hb : b < m) (hc : c = none ∨ c = some 0) : W m (.sl none 0 (some 0)) (.sl (some (b, 0)) 0 c) := .inr (.inr (.inl ⟨b, c, rfl, rfl, hb, hc⟩))
theorem ij {m n : Nat} {p : Nat × Nat} {c : Option Nat} : W m (.sl (some p) n c) (.sl (some p) n none) := .inr (.inr (.inr ⟨p, n, c, rfl, rfl⟩))
theorem de {m b : Nat} {c : Option Nat} (hb : b < m) (hc : c = none ∨ c = some 0) : Wc m (.sl none 0 (some 0)) (.sl (some (b, 0)) 0 c) := .inr (.inl ⟨b, c, rfl, rfl, hb, hc⟩)
theorem gw {m n : Nat} {p : Nat × Nat} {c : Option Nat} : Wc m (.sl (some p) n c) (.sl (some p) n none) := .inr (.inr ⟨p, n, c, rfl, rfl⟩)
theorem fe {m : Nat} {x : AV} : Wc m x x = True := eq_true (.inl rfl)
theorem ff {m : Nat} {x y : AV} {xs ys : List AV} : Wcs m (x :: xs) (y :: ys) = (Wc m x y ∧ Wcs m xs ys) := rfl
theorem gf {m : Nat} : Wcs m [] [] = True := rfl
mutual
theorem rel_W {E : Env} {m : Nat} (hm : m ≤ E.n) : ∀ (x y : AV) (v : Value), W m x y → Rel E x v → Rel E y v
 | .agg xs, y, v, h, hx => by
  rcases h with rfl | h
  ·exact .any v
  ·cases y <;> first | exact h.elim | skip
   obtain ⟨vs, rfl, hr⟩ := cQ hx
   exact (kQ hm xs _ vs h hr).agg
 | .tup xs, y, v, h, hx => by
  rcases h with rfl | h
  ·exact .any v
  ·cases y <;> first | exact h.elim | skip
   cases hx with
   | tup _ cs h1 h2 =>
    have := (kQ hm xs _ cs.toList h ⟨by simpa using h1, fun i x v hx hv => h2 i x v hx (by simpa using hv)⟩).tup
    simpa using this
 | .any, y, v, h, hx => by rcases h with rfl | h; exact .any v; exact h.rel hm hx
 | .int _ _, y, v, h, hx => by rcases h with rfl | h; exact .any v; exact h.rel hm hx
 | .bool _, y, v, h, hx => by rcases h with rfl | h; exact .any v; exact h.rel hm hx
 | .str _, y, v, h, hx => by rcases h with rfl | h; exact .any v; exact h.rel hm hx
 | .ptr _, y, v, h, hx => by rcases h with rfl | h; exact .any v; exact h.rel hm hx
 | .sl _ _ _, y, v, h, hx => by rcases h with rfl | h; exact .any v; exact h.rel hm hx
 | .mp _, y, v, h, hx => by rcases h with rfl | h; exact .any v; exact h.rel hm hx
 | .fn _ _, y, v, h, hx => by rcases h with rfl | h; exact .any v; exact h.rel hm hx
 | .nilfn, y, v, h, hx => by rcases h with rfl | h; exact .any v; exact h.rel hm hx
theorem kQ {E : Env} {m : Nat} (hm : m ≤ E.n) : ∀ (xs ys : List AV) (vs : List Value), Ws m xs ys → RelL E xs vs → RelL E ys vs
 | [], ys, vs, h, hr => by cases ys <;> first | exact hr | exact h.elim
 | x :: xs, ys, vs, h, hr => by
  cases ys with
  | nil => exact h.elim
  | cons y ys =>
   cases vs with
   | nil => have := hr.1; simp at this
   | cons v vs =>
    obtain ⟨h1, h2⟩ := hr.uncons
    exact .cons (rel_W hm x y v h.1 h1) (kQ hm xs ys vs h.2 h2)
end
def BW (m : Nat) (a : Option ABlk) (x : ABlk) : Prop :=
 match a, x with
 | some (.cells o e xs), .cells o' e' ys => e = e' ∧ ((xs = [] ∧ ys = [] ∧ o' = false) ∨ (o = o' ∧ Wcs m xs ys) ∨ (o = o' ∧ ∃ zs, xs = ys ++ zs))
 | _, _ => False
theorem BW.ok {E : Env} {m : Nat} (hm : m ≤ E.n) {w : World} {L : Loc} {a : ABlk} {x : ABlk} (h : BW m (some a) x) (ha : BlkOk E w L a) : BlkOk E w L x := by
 unfold BW at h
 split at h
 ·rename_i o e xs o' e' ys e1
  injection e1 with e1; subst e1
  obtain ⟨rfl, h⟩ := h
  obtain ⟨k1, k2, k3, k4⟩ := ha
  rcases h with ⟨rfl, rfl, rfl⟩ | ⟨rfl, h⟩ | ⟨rfl, zs, rfl⟩
  ·exact ⟨fun j y hj => by simp at hj, (fun h => by cases h), fun _ h0 => by simp at h0, k4⟩
  rotate_left
  ·refine ⟨fun j y hj => k1 j y (by rw [List.getElem?_append_left (getElem?_lt hj)]; exact hj), fun ho => ?_, fun ho hl => k3 ho (by rw [List.length_append]; omega), k4⟩
   obtain ⟨a1, a2, a3, a4, a5⟩ := k2 ho
   rw [List.length_append] at a4
   exact ⟨a1, a2, a3, by omega, a5⟩
  ·obtain ⟨q1, q2⟩ := h.get
   refine ⟨fun j y hj => ?_, fun ho => ?_, fun ho hl => k3 ho (by omega), k4⟩
   ·obtain ⟨x, hx, hw⟩ := q2 j y hj
    obtain ⟨a1, v, a2, a3⟩ := k1 j x hx
    exact ⟨hw.one a1, v, a2, hw.rel hm a3⟩
   ·rw [← q1]; exact k2 ho
 ·exact h.elim
theorem BW.own {m : Nat} {a : Option ABlk} {x : ABlk} (h : BW m a x) (ho : x.owned = true) : ∃ y, a = some y ∧ y.owned = true := by
 unfold BW at h
 split at h
 ·obtain ⟨rfl, h⟩ := h
  rcases h with ⟨rfl, rfl, rfl⟩ | ⟨rfl, h⟩ | ⟨rfl, h⟩
  ·cases ho
  ·exact ⟨_, rfl, ho⟩
  ·exact ⟨_, rfl, ho⟩
 ·exact h.elim
theorem BW.emp {m e : Nat} {o : Bool} : BW m (some (.cells o e [])) (.cells false e []) := ⟨rfl, .inl ⟨rfl, rfl, rfl⟩⟩
theorem BW.cells {m e : Nat} {o : Bool} {xs ys : List AV} (h : Wcs m xs ys) : BW m (some (.cells o e xs)) (.cells o e ys) := ⟨rfl, .inr (.inl ⟨rfl, h⟩)⟩
theorem BW.pre {m e : Nat} {o : Bool} {ys zs : List AV} : BW m (some (.cells o e (ys ++ zs))) (.cells o e ys) := ⟨rfl, .inr (.inr ⟨rfl, zs, rfl⟩)⟩
def sig (n m : Nat) (sel : List Nat) (b : Nat) : Nat := if b < n then b else match sel[b - n]? with | some i => n + i | none => b + (n + m)
theorem Abs0.of {n : Nat} {H0 l1 l2 : ac} {F1 F2 : Fr} (hlen : H0.length = n) (hsc : HBel n H0) (sel : List Nat) (hnd : sel.Nodup)
  (hF : ∀ p ∈ F2, W (n + l1.length) (look F1 p.1) (p.2.mv (sig n l1.length sel))) (hl : l2.length = sel.length) (hH : ∀ (i b : Nat) (x : ABlk), sel[i]? = some b → l2[i]? = some x → x = .dead ∨ l1[b]? = some (x.mv (sig n l1.length sel)) ∨ BW (n + l1.length) (l1[b]?) (x.mv (sig n l1.length sel))) :
  Abs0 n (sig n l1.length sel) F1 (H0 ++ l1) F2 (H0 ++ l2) := by
 have small : ∀ b, b < n → sig n l1.length sel b = b := fun b hb => by simp [sig, hb]
 have inr : ∀ E E' : Env, E.n = (H0 ++ l1).length → E'.n = (H0 ++ l2).length → ∀ b, sig n l1.length sel b < E.n → b < E'.n := fun E E' e1 e2 b hb => by
  rw [e1] at hb
  rw [e2]
  simp only [List.length_append, hlen, hl] at hb ⊢
  unfold sig at hb
  split at hb
  ·omega
  ·split at hb
   ·rename_i h; have := getElem?_lt h; omega
   ·omega
 have new : ∀ (b : Nat) (x : ABlk), ¬ b < n → (H0 ++ l2)[b]? = some x → ∃ i, sel[b - n]? = some i ∧ sig n l1.length sel b = n + i ∧ l2[b - n]? = some x := fun b x hb hx => by
  rw [List.getElem?_append_right (by omega), hlen] at hx
  have := getElem?_lt hx
  have h1 : sel[b - n]? = some (sel[b - n]'(by omega)) := List.getElem?_eq_getElem _
  exact ⟨_, h1, by unfold sig; rw [if_neg hb, h1], hx⟩
 refine ⟨small, by simp [hlen], fun E E' e1 e2 e3 t v hv => ?_, fun E E' e1 e2 eB e3 w hw b x hx => ?_, fun b c x y hx hy ox oy hbc => ?_⟩
 ·have hlook : look F2 t = .any ∨ ∃ p ∈ F2, p.1 = t ∧ look F2 t = p.2 := by
   clear hF
   induction F2 with
   | nil => exact .inl rfl
   | cons p F2 ih =>
    obtain ⟨s, y⟩ := p
    unfold look
    by_cases e : s = t
    ·subst e; simp
    ·have : (s == t) = false := by simp [e]
     rw [this]
     simp only [cond_false]
     rcases ih with h | ⟨p, h1, h2, h3⟩
     ·exact .inl h
     ·exact .inr ⟨p, by simp [h1], h2, h3⟩
  rcases hlook with h | ⟨p, h1, rfl, h3⟩
  ·rw [h]; exact .any v
  ·rw [h3]
   exact rel_mv e3 (inr E E' e1 e2) _ v (rel_W (by rw [e1, List.length_append, hlen]; exact Nat.le_refl _) _ _ v (hF p h1) hv)
 ·by_cases hb : b < n
  ·rw [List.getElem?_append_left (by omega)] at hx
   have h1 := hw b x (by rw [List.getElem?_append_left (by omega)]; exact hx)
   have hbel := hsc b x hx
   have hmv : x.mv (sig n l1.length sel) = x := by
    cases x with
    | dead => rfl
    | cells o e xs => simp only [ABlk.bel] at hbel; simp only [ABlk.mv, gW small xs hbel]
    | map es =>
     simp only [ABlk.bel, Bool.and_eq_true] at hbel
     simp only [ABlk.mv]
     congr 1
     obtain ⟨q1, q2⟩ := hbel
     rw [AV.bels_eq, List.all_eq_true] at q1 q2
     have : es.map (fun p => (p.1.mv (sig n l1.length sel), p.2.mv (sig n l1.length sel))) = es.map id := List.map_congr_left fun p hp => by
      rw [mv_id small p.1 (q1 _ (List.mem_map_of_mem hp)), mv_id small p.2 (q2 _ (List.mem_map_of_mem hp))]
      rfl
     rw [this, List.map_id]
   rw [e3 b, small b hb]
   exact kP eB e3 (inr E E' e1 e2) (by rw [hmv]; exact h1)
  ·obtain ⟨i, h1, h2, h3⟩ := new b x hb hx
   rcases hH _ i x h1 h3 with rfl | h4 | h4
   ·trivial
   ·have h5 := hw (n + i) _ (by rw [List.getElem?_append_right (by omega), hlen, show n + i - n = i by omega]; exact h4)
    rw [e3 b, h2]
    exact kP eB e3 (inr E E' e1 e2) h5
   ·cases ha : l1[i]? with
    | none => rw [ha] at h4; exact h4.elim
    | some a =>
    rw [ha] at h4
    have h5 := hw (n + i) a (by rw [List.getElem?_append_right (by omega), hlen, show n + i - n = i by omega]; exact ha)
    rw [e3 b, h2]
    exact kP eB e3 (inr E E' e1 e2) (h4.ok (by rw [e1, List.length_append, hlen]; exact Nat.le_refl _) h5)
 ·have own : ∀ (b : Nat) (x : ABlk), (H0 ++ l2)[b]? = some x → x.owned = true → ∃ x', (H0 ++ l1)[sig n l1.length sel b]? = some x' ∧ x'.owned = true := fun b x hx ho => by
   by_cases hb : b < n
   ·rw [small b hb, List.getElem?_append_left (by omega)]
    rw [List.getElem?_append_left (by omega)] at hx
    exact ⟨x, hx, ho⟩
   ·obtain ⟨i, h1, h2, h3⟩ := new b x hb hx
    rcases hH _ i x h1 h3 with rfl | h4 | h4
    ·cases ho
    rotate_left
    ·rw [h2, List.getElem?_append_right (by omega), hlen, show n + i - n = i by omega]
     exact h4.own (by cases x <;> exact ho)
    ·rw [h2, List.getElem?_append_right (by omega), hlen, show n + i - n = i by omega]
     exact ⟨_, h4, by cases x <;> exact ho⟩
  refine ⟨?_, own b x hx ox, own c y hy oy⟩
  by_cases hb : b < n <;> by_cases hc : c < n
  ·rw [small b hb, small c hc]; exact hbc
  ·obtain ⟨j, -, h2, -⟩ := new c y hc hy
   rw [small b hb, h2]; omega
  ·obtain ⟨i, -, h2, -⟩ := new b x hb hx
   rw [small c hc, h2]; omega
  ·obtain ⟨i, h1, h2, -⟩ := new b x hb hx
   obtain ⟨j, h3, h4, -⟩ := new c y hc hy
   rw [h2, h4]
   intro e
   have hij : i = j := by omega
   subst hij
   have hb1 := getElem?_lt h1
   have := (List.getElem?_inj hb1 hnd).1 (h1.trans h3.symm)
   omega

theorem Abs.of {n : Nat} {H0 l1 l2 : ac} {F1 F2 : Fr} (G : ac) (hG : G.all eV = true) (hlen : H0.length = n) (hsc : HBel n H0) (sel : List Nat) (hnd : sel.Nodup)
  (hF : ∀ p ∈ F2, W (n + (l1 ++ G).length) (look F1 p.1) (p.2.mv (sig n (l1 ++ G).length sel))) (hl : l2.length = sel.length)
  (hH : ∀ (i b : Nat) (x : ABlk), sel[i]? = some b → l2[i]? = some x → x = .dead ∨ (l1 ++ G)[b]? = some (x.mv (sig n (l1 ++ G).length sel)) ∨ BW (n + (l1 ++ G).length) ((l1 ++ G)[b]?) (x.mv (sig n (l1 ++ G).length sel))) :
  Abs n (sig n (l1 ++ G).length sel) F1 (H0 ++ l1) F2 (H0 ++ l2) := ⟨G, hG, by rw [List.append_assoc]; exact Abs0.of hlen hsc sel hnd hF hl hH⟩
section
section
variable {P : Program} {N : Nat} {H : ac}
def argF : Nat → List AV → Fr
 | _, [] => []
 | i, x :: r => (i, x) :: argF (i + 1) r
theorem ml : ∀ (xs : List AV) (i t : Nat), look (argF i xs) t = if i ≤ t then (xs[t - i]?).getD .any else .any
 | [], i, t => by simp [argF, look]
 | x :: r, i, t => by
  unfold argF look
  by_cases e : i = t
  ·subst e; simp
  ·have : (i == t) = false := by simp [e]
   rw [this, cond_false, ml r (i + 1) t]
   by_cases h : i + 1 ≤ t
   ·rw [if_pos h, if_pos (by omega), show t - i = t - (i + 1) + 1 by omega, List.getElem?_cons_succ]
   ·rw [if_neg h, if_neg (by omega)]
def aRes (P : Program) : List ResultVar → Fr → ac → Option (List AV)
 | [], _, _ => some []
 | .tmp t :: rs, F, H => (aRes P rs F H).map fun l => look F t :: l
 | .cell a t :: rs, F, H => (aLoad P t (look F a) H).bind fun x => (aRes P rs F H).map fun l => x.1 :: l
def one1 : List AV → AV
 | [x] => x
 | l => .tup l
def cM (P : Program) (fn : Func) (F : Fr) (H : ac) : Option AV := (aRes P fn.results.toList F H).map one1
theorem run_loadAt_same {E : Env} {w : World} (h : Emb E H w) {t : TypeId} {x : AV} {v : Value} (hv : Rel E x v) {r : AV × ac} (hr : aLoad P t x H = some r) : ∃ u, (do loadVar t (← asAddr v)).run P w = .ok u w ∧ Rel E r.1 u := by
 unfold aLoad at hr
 split at hr
 ·rename_i b o
  cases hv with
  | ptr _ _ hb =>
  obtain ⟨g, hg, hr⟩ := am hr
  cases g
  ·simp only [cond_false, Option.map_eq_some_iff] at hr
   obtain ⟨y, hy, rfl⟩ := hr
   obtain ⟨-, u, hu, hru⟩ := pK h hy
   exact ⟨u, by simp [asAddr, loadVar, run_isAgg hg, hu], hru⟩
  ·simp only [cond_true] at hr
   obtain ⟨n, hn, hr⟩ := am hr
   simp only [Option.map_eq_some_iff] at hr
   obtain ⟨l, hl, rfl⟩ := hr
   obtain ⟨h1, -, vs, h2, h3⟩ := d6 h hl
   have hrun := run_loadCells' (P := P) (w := w) (E.loc b).blk ((E.loc b).off + o) vs h3
   rw [← h2.1, h1] at hrun
   exact ⟨_, by simp [asAddr, loadVar, run_isAgg hg, run_sizeOf' hn, hrun], h2.agg⟩
 ·cases hr
theorem run_aRes {E : Env} {w : World} (h : Emb E H w) {F : Fr} {a : Act} (hF : FrRel E F a) (f : ResultVar → Sem Value) (f1 : ∀ t, f (.tmp t) = Pure.pure (a.tmps.getD t undef)) (f2 : ∀ b t, f (.cell b t) = do loadVar t (← asAddr (a.tmps.getD b undef))) : ∀ (rs : List ResultVar) (l : List AV), aRes P rs F H = some l →
  ∃ vs : List Value, (rs.mapM f).run P w = .ok vs w ∧ RelL E l vs
 | [], l, hl => by
  simp [aRes] at hl; subst hl
  exact ⟨[], by simp, RelL.nil E⟩
 | .tmp t :: rs, l, hl => by
  simp only [aRes, Option.map_eq_some_iff] at hl
  obtain ⟨l', hl', rfl⟩ := hl
  obtain ⟨vs, h1, h2⟩ := run_aRes h hF f f1 f2 rs l' hl'
  exact ⟨_ :: vs, by simp only [List.mapM_cons, f1, Sem.run_bind, Sem.run_pure, Result.andThen_ok, h1], .cons (hF t) h2⟩
 | .cell b t :: rs, l, hl => by
  simp only [aRes] at hl
  obtain ⟨q, hq, hl⟩ := am hl
  simp only [Option.map_eq_some_iff] at hl
  obtain ⟨l', hl', rfl⟩ := hl
  obtain ⟨vs, h1, h2⟩ := run_aRes h hF f f1 f2 rs l' hl'
  obtain ⟨u, hu, hru⟩ := run_loadAt_same h (hF b) hq
  exact ⟨u :: vs, by rw [List.mapM_cons, f2, Sem.run_bind, hu]; simp only [Sem.run_bind, Result.andThen_ok, Sem.run_pure, h1], .cons hru h2⟩
def dr (P : Program) (fn : Func) (n : Nat) (R : AV → ac → Prop) : Exit → Fr → ac → Prop
 | .normal, F, H | .ret, F, H => ∃ x1, cM P fn F H = some x1 ∧ ∃ σ x2 H2, R x2 H2 ∧ Abs n σ [(0, x1)] H [(0, x2)] H2
 | _, _, _ => False
theorem run_results {E : Env} {w : World} (h : Emb E H w) {F : Fr} {a : Act} (hF : FrRel E F a) {fn : Func} {x : AV} (hx : cM P fn F H = some x) : ∃ v, (results fn a.tmps).run P w = .ok v w ∧ Rel E x v := by
 unfold cM at hx
 simp only [Option.map_eq_some_iff] at hx
 obtain ⟨l, hl, rfl⟩ := hx
 have fin : ∀ vs : List Value, RelL E l vs → Rel E (one1 l) (if h : vs.toArray.size = 1 then vs.toArray[0] else .tuple vs.toArray) := fun vs h2 => by
  match l, vs, h2 with
  | [], [], h2 => exact h2.tup
  | [x], [v], h2 => exact h2.uncons.1
  | x :: y :: r, v :: u :: s, h2 => exact h2.tup
 have gen : ∀ f : ResultVar → Sem Value, (∀ t, f (.tmp t) = Pure.pure (a.tmps.getD t undef)) → (∀ b t, f (.cell b t) = do loadVar t (← asAddr (a.tmps.getD b undef))) →
   ∃ v, (do let vs ← fn.results.mapM f; Pure.pure (if h : vs.size = 1 then vs[0] else .tuple vs) : Sem Value).run P w = .ok v w ∧ Rel E (one1 l) v := fun f f1 f2 => by
  obtain ⟨vs, h1, h2⟩ := run_aRes h hF f f1 f2 _ l hl
  refine ⟨_, ?_, fin vs h2⟩
  rw [Array.mapM_eq_mapM_toList]
  simp only [Sem.run_bind, Sem.run_map]
  rw [h1]
  simp
 unfold results
 refine gen _ ?_ ?_
 ·intro t; rfl
 ·intro b t; rfl
theorem iQ {f : FuncId} {fn : Func} {c : Code} {args : List AV} {R : AV → ac → Prop} (hf : P.funcs[f]? = some fn) (hb : fn.body = some c) (hN : fn.ntmps = N) (ha : args.length ≤ N)
  (h : HBel H.length H → AW P N H.length c (dr P fn H.length R) (argF 0 args) H) : ACalls P f args H R := by
 intro E w vs hE hv
 refine calls_of_wp hf hb (wp_mono (h hE.bel E w _ (by rw [hE.n]; exact Nat.le_refl _) (by have := hv.1; simp; omega) rfl (fun t => ?_) hE) ?_)
 ·rw [ml]
  simp only [Nat.zero_le, if_true, Nat.sub_zero]
  cases hx : args[t]? with
  | none => exact .any _
  | some x =>
   obtain ⟨v, hv1, hv2⟩ := hv.get hx
   have hlt := getElem?_lt hv1
   simp only [Option.getD_some]
   rw [Array.getD_eq_getD_getElem?, Array.getElem?_append_left (by simpa using hlt)]
   simp [hv1, hv2]
 ·rintro e a w' ⟨E', F, H1, q, l, k2, k3, k4, k5⟩
  have fin : (∃ x1, cM P fn F H1 = some x1 ∧ ∃ σ x2 H2, R x2 H2 ∧ Abs H.length σ [(0, x1)] H1 [(0, x2)] H2) → ∃ v, (results fn a.tmps).run P w' = .ok v w' ∧ ∃ E' v' H' x, Ending.returned v = .returned v' ∧ R x H' ∧ E.le E' ∧ Rel E' x v' ∧ Emb E' H' w' := by
   rintro ⟨x1, hx1, σ, x2, H2, hR, hab⟩
   obtain ⟨v, hv1, hv2⟩ := run_results k5 k4 hx1
   obtain ⟨E2, l2, f2, e2⟩ := hab.emb (a := ⟨#[v], []⟩) l.n (fun t => by
    unfold look
    cases t with
    | zero => simpa using hv2
    | succ t => simp [look]; exact .any _) k5
   refine ⟨v, hv1, E2, v, H2, x2, rfl, hR, ?_, ?_, e2⟩
   ·have := l.trans l2
    exact ⟨this.B, this.w0, by rw [hE.n]; exact this.n, fun b hb => this.loc b (by rw [← hE.n]; exact hb)⟩
   ·have := f2 0
    simpa [look] using this
  cases e with
  | normal =>
   obtain ⟨v, h1, h2⟩ := fin q
   exact ⟨k3, v, h1, h2⟩
  | ret =>
   obtain ⟨v, h1, h2⟩ := fin q
   exact ⟨k3, v, h1, h2⟩
  | exit id => exact q.elim
  | goto id => exact q.elim
  | panic ch => exact q.elim
  | outgrown => exact q.elim
end
end
set_option linter.unusedSimpArgs false
set_option linter.unusedVariables false
open Go.RowKit

structure LOp where
 dst : Option Tmp
 op : Op
 g : Option (Option Tmp × Bool)
def lightOf (ds : List (Option Tmp)) (o : Oper) : LOp := ⟨o.dst, o.op, o.guard.map fun g => ((ds[g.1]?).getD none, g.2)⟩
def dsts (ops : Array Oper) : List (Option Tmp) := ops.toList.map Oper.dst
def gdL (F : Fr) : Option (Option Tmp × Bool) → Option Bool
 | none => some true
 | some (none, _) => none
 | some (some t, want) => (match look F t with | .bool b => some (b == want) | .tup [] => some false | _ => none)
def AOpsL (P : Program) : List LOp → Fr → ac → (Fr → ac → Prop) → Prop
 | [], F, H, K => K F H
 | o :: os, F, H, K =>
  match gdL F o.g with
  | some true => AOp P o.op F H fun x H' => AOpsL P os (putF o.dst x F) H' K
  | some false => AOpsL P os (putF o.dst (.tup []) F) H K
  | none => False
def AOpsDL (P : Program) (q : Bool) (m : Nat) : List LOp → Fr → ac → (Fr → ac → Prop) → Prop
 | [], F, H, K => K F H
 | o :: os, F, H, K =>
  match gdL F o.g with
  | some true => AOpD P q m o.op F H fun x H' => AOpsDL P q m os (putF o.dst x F) H' K
  | some false => AOpsDL P q m os (putF o.dst (.tup []) F) H K
  | none => False
section
variable {P : Program} {N n m : Nat} {q : Bool}
theorem gdL_eq (ops : Array Oper) (F : Fr) (o : Oper) : gd ops F o = gdL F (lightOf (dsts ops) o).g := by
 unfold gd lightOf
 cases h : o.guard with
 | none => rfl
 | some g =>
  have e : ((dsts ops)[g.1]?).getD none = (ops[g.1]?).bind (·.dst) := by
   unfold dsts
   rw [List.getElem?_map, Array.getElem?_toList]
   cases ops[g.1]? <;> rfl
  simp only [Option.map_some, e]
  cases h2 : (ops[g.1]?).bind (·.dst) with
  | none => rfl
  | some t => rfl
theorem AOp.mono {o : Op} {F : Fr} {H : ac} {K K' : AV → ac → Prop} (h : AOp P o F H K) (hk : ∀ x H', K x H' → K' x H') : AOp P o F H K' := by
 unfold AOp at h ⊢
 split at h
 ·exact ⟨h.1, h.2.mono hk⟩
 ·obtain ⟨r, h1, h2⟩ := h; exact ⟨r, h1, hk _ _ h2⟩
theorem AOpD.mono {o : Op} {F : Fr} {H : ac} {K K' : AV → ac → Prop} (h : AOpD P q m o F H K) (hk : ∀ x H', K x H' → K' x H') : AOpD P q m o F H K' := by
 unfold AOpD at h ⊢
 split at h
 ·obtain ⟨h1, x, H', h2, h2', h3, h4⟩ := h; exact ⟨h1, x, H', h2, h2', h3, hk _ _ h4⟩
 ·obtain ⟨h0, r, h1, h2⟩ := h; exact ⟨h0, r, h1, hk _ _ h2⟩
theorem jo {ops : Array Oper} {K : Fr → ac → Prop} : ∀ (l : List Oper) (F : Fr) (H : ac), AOpsL P (l.map (lightOf (dsts ops))) F H K → AOps P ops l F H K
 | [], _, _, h => h
 | o :: os, F, H, h => by
  simp only [List.map_cons] at h
  unfold AOpsL at h
  unfold AOps
  rw [gdL_eq]
  cases hg : gdL F (lightOf (dsts ops) o).g with
  | none => rw [hg] at h; exact h
  | some b =>
   rw [hg] at h
   cases b
   ·exact jo os _ _ h
   ·exact AOp.mono h fun x H' hh => jo os _ _ hh
theorem gx {ops : Array Oper} {K : Fr → ac → Prop} : ∀ (l : List Oper) (F : Fr) (H : ac), AOpsDL P q m (l.map (lightOf (dsts ops))) F H K → fU P q m ops l F H K
 | [], _, _, h => h
 | o :: os, F, H, h => by
  simp only [List.map_cons] at h
  unfold AOpsDL at h
  unfold fU
  rw [gdL_eq]
  cases hg : gdL F (lightOf (dsts ops) o).g with
  | none => rw [hg] at h; exact h
  | some b =>
   rw [hg] at h
   cases b
   ·exact gx os _ _ h
   ·exact AOpD.mono h fun x H' hh => gx os _ _ hh
def AWr (P : Program) (N n : Nat) (q : Bool) : Code → (Exit → Fr → ac → Prop) → Fr → ac → Prop
 | .skip, Q, F, H => Q .normal F H
 | .label _, Q, F, H => Q .normal F H
 | .seq a b, Q, F, H => AWr P N n q a (eC (fun F H => AWr P N n q b Q F H) Q) F H
 | .cond c a b, Q, F, H => ∃ t, aev F c = .bool t ∧ (t = true → AWr P N n q a Q F H) ∧ (t = false → AWr P N n q b Q F H)
 | .block id c, Q, F, H => AWr P N n q c (d7 id Q) F H
 | .exit id, Q, F, H => Q (.exit id) F H
 | .ret, Q, F, H => Q .ret F H
 | .region _ ops draw, Q, F, H => bif draw then AOpsDL P q H.length (ops.toList.map (lightOf (dsts ops))) F H (Q .normal) else AOpsL P (ops.toList.map (lightOf (dsts ops))) F H (Q .normal)
 | .loop c, Q, F, H => AW P N n (.loop c) Q F H
 | _, _, _, _ => False
theorem AOpsL.mono {K K' : Fr → ac → Prop} (hk : ∀ F H, K F H → K' F H) : ∀ (l : List LOp) (F : Fr) (H : ac), AOpsL P l F H K → AOpsL P l F H K'
 | [], F, H, h => hk F H h
 | o :: os, F, H, h => by
  unfold AOpsL at h ⊢
  cases hg : gdL F o.g with
  | none => rw [hg] at h; exact h
  | some b =>
   rw [hg] at h
   cases b
   ·exact AOpsL.mono hk os _ _ h
   ·exact AOp.mono h fun x H' hh => AOpsL.mono hk os _ _ hh
theorem AOpsDL.mono {K K' : Fr → ac → Prop} (hk : ∀ F H, K F H → K' F H) : ∀ (l : List LOp) (F : Fr) (H : ac), AOpsDL P q m l F H K → AOpsDL P q m l F H K'
 | [], F, H, h => hk F H h
 | o :: os, F, H, h => by
  unfold AOpsDL at h ⊢
  cases hg : gdL F o.g with
  | none => rw [hg] at h; exact h
  | some b =>
   rw [hg] at h
   cases b
   ·exact AOpsDL.mono hk os _ _ h
   ·exact AOpD.mono h fun x H' hh => AOpsDL.mono hk os _ _ hh
theorem AWr.mono : ∀ (c : Code) {Q Q' : Exit → Fr → ac → Prop} {F : Fr} {H : ac}, (∀ e F H, Q e F H → Q' e F H) → AWr P N n q c Q F H → AWr P N n q c Q' F H
 | .skip, _, _, _, _, hq, h => hq _ _ _ h
 | .label _, _, _, _, _, hq, h => hq _ _ _ h
 | .seq a b, _, _, _, _, hq, h => AWr.mono a (fun e F H hh => by cases e <;> first | exact AWr.mono b hq hh | exact hq _ _ _ hh) h
 | .cond c a b, _, _, _, _, hq, h => by
  obtain ⟨t, h1, h2, h3⟩ := h
  exact ⟨t, h1, fun e => AWr.mono a hq (h2 e), fun e => AWr.mono b hq (h3 e)⟩
 | .block id c, _, _, _, _, hq, h => AWr.mono c (fun e F H hh => by
   cases e with
   | exit id' =>
    simp only [d7] at hh ⊢
    split
    ·rename_i e; rw [if_pos e] at hh; exact hq _ _ _ hh
    ·rename_i e; rw [if_neg e] at hh; exact hq _ _ _ hh
   | _ => exact hq _ _ _ hh) h
 | .exit _, _, _, _, _, hq, h => hq _ _ _ h
 | .ret, _, _, _, _, hq, h => hq _ _ _ h
 | .region id ops draw, _, _, _, _, hq, h => by
  cases draw
  ·exact AOpsL.mono (fun F H => hq _ F H) _ _ _ h
  ·exact AOpsDL.mono (fun F H => hq _ F H) _ _ _ h
 | .loop c, _, _, _, _, hq, h => AW.mono h hq
 | .rangeFunc .., _, _, _, _, _, h => h.elim
 | .scope _, _, _, _, _, _, h => h.elim
 | .goto _, _, _, _, _, _, h => h.elim
 | .refuse _, _, _, _, _, _, h => h.elim
def db (N : Nat) (q : Bool) : Code → Bool
 | .seq a b => db N q a && db N q b
 | .cond _ a b => db N q a && db N q b
 | .block _ c => db N q c
 | .loop c => db N q c
 | .scope c => db N q c
 | .region _ ops draw => bif draw then gu q N ops else iK N ops
 | _ => true
theorem fX (hm : P.follows .mixedOrders = true) : ∀ (c : Code), db N q c = true → ∀ (Q : Exit → Fr → ac → Prop) (F : Fr) (H : ac), AWr P N n q c Q F H → AW P N n c Q F H
 | .skip, _, _, _, _, h => AW_skip h
 | .label _, _, _, _, _, h => pN h
 | .seq a b, hc, Q, F, H, h => by
  simp only [db, Bool.and_eq_true] at hc
  refine gV (AW.mono (fX hm a hc.1 _ F H h) fun e F H hq => ?_)
  cases e with
  | normal => exact fX hm b hc.2 _ F H hq
  | _ => exact hq
 | .cond c a b, hc, Q, F, H, h => by
  simp only [db, Bool.and_eq_true] at hc
  obtain ⟨t, h1, h2, h3⟩ := h
  exact f0 t h1 (fun e => fX hm a hc.1 _ F H (h2 e)) (fun e => fX hm b hc.2 _ F H (h3 e))
 | .block id c, hc, Q, F, H, h => j9 (fX hm c hc _ F H h)
 | .exit _, _, _, _, _, h => AW_exit h
 | .ret, _, _, _, _, h => AW_ret h
 | .region id ops draw, hc, Q, F, H, h => by
  cases draw
  ·exact mh hc (jo _ _ _ h)
  ·exact AW_draw q hm hc (gx _ _ _ h)
 | .loop c, _, _, _, _, h => h
 | .rangeFunc .., _, _, _, _, h => h.elim
 | .scope _, _, _, _, _, h => h.elim
 | .goto _, _, _, _, _, h => h.elim
 | .refuse _, _, _, _, _, h => h.elim
inductive It where
 | code (c : Code)
 | ops (l : List LOp)
 | opsD (m : Nat) (l : List LOp)
 | endB (id : Nat)
 | inv (J : Fr → ac → Prop)
def St (P : Program) (N n : Nat) (q : Bool) (Q : Exit → Fr → ac → Prop) : List It → Exit → Fr → ac → Prop
 | [], e, F, H => Q e F H
 | .code c :: r, e, F, H => (match e with | .normal => AWr P N n q c (St P N n q Q r) F H | e => St P N n q Q r e F H)
 | .ops l :: r, e, F, H => (match e with | .normal => AOpsL P l F H (fun F H => St P N n q Q r .normal F H) | e => St P N n q Q r e F H)
 | .opsD m l :: r, e, F, H => (match e with | .normal => AOpsDL P q m l F H (fun F H => St P N n q Q r .normal F H) | e => St P N n q Q r e F H)
 | .endB id :: r, e, F, H => (match e with | .exit id' => if id' = id then St P N n q Q r .normal F H else St P N n q Q r (.exit id') F H | e => St P N n q Q r e F H)
 | .inv J :: r, e, F, H => (match e with | .normal => J F H | e => St P N n q Q r e F H)
def AGo (P : Program) (N n : Nat) (q : Bool) (Q : Exit → Fr → ac → Prop) (r : List It) (F : Fr) (H : ac) : Prop := St P N n q Q r .normal F H
def gJ (P : Program) (N n : Nat) (q : Bool) (Q : Exit → Fr → ac → Prop) (id : Nat) (r : List It) (F : Fr) (H : ac) : Prop := St P N n q Q r (.exit id) F H
def eG (Q : Exit → Fr → ac → Prop) (F : Fr) (H : ac) : Prop := Q .ret F H
def itOf (d : Option Nat) (os : List LOp) : It :=
 match d with
 | some m => .opsD m os
 | none => .ops os
theorem mm {os : List LOp} : itOf none os = .ops os := rfl
theorem mo {m : Nat} {os : List LOp} : itOf (some m) os = .opsD m os := rfl
def AK (P : Program) (N n : Nat) (q : Bool) (Q : Exit → Fr → ac → Prop) (d : Option Nat) (x : Option (AV × ac)) (dst : Option Tmp) (os : List LOp) (r : List It) (F : Fr) : Prop :=
 match x with
 | some p => AGo P N n q Q (itOf d os :: r) (putF dst p.1 F) p.2
 | none => False
def iR (P : Program) (N n : Nat) (q : Bool) (Q : Exit → Fr → ac → Prop) (d : Option Nat) (f : FuncId) (args : List AV) (dst : Option Tmp) (os : List LOp) (r : List It) (F : Fr) (H : ac) : Prop :=
 dz P f = true ∧ match d with
  | some m => ∃ x H', (q = true → H' = H) ∧ (H.length ≤ H'.length ∧ ∀ b, b < m → b < H.length → H'[b]? = H[b]?) ∧ ACalls P f args H (fun y H1 => y = x ∧ H1 = H') ∧ AGo P N n q Q (.opsD m os :: r) (putF dst x F) H'
  | none => ACalls P f args H fun x H' => AGo P N n q Q (.ops os :: r) (putF dst x F) H'
def lateD (d : Option Nat) (o : Op) (F : Fr) : Prop :=
 match d with
 | some m => az m o F
 | none => True
theorem mq {o : Op} {F : Fr} : lateD none o F = True := rfl
theorem mr {m : Nat} {o : Op} {F : Fr} : lateD (some m) o F = az m o F := rfl
theorem pS {b m : Nat} {p : Prop} (h : b < m) : (b < m ∧ p) = p := by simp [h]
def ADo (P : Program) (N n : Nat) (q : Bool) (Q : Exit → Fr → ac → Prop) (d : Option Nat) (o : Op) (dst : Option Tmp) (os : List LOp) (r : List It) (F : Fr) (H : ac) : Prop :=
 match ap o F with
 | some p => iR P N n q Q d p.1 p.2 dst os r F H
 | none => lateD d o F ∧ AK P N n q Q d (aop P o F H) dst os r F
def AGd (P : Program) (N n : Nat) (q : Bool) (Q : Exit → Fr → ac → Prop) (d : Option Nat) (b : Option Bool) (o : Op) (dst : Option Tmp) (os : List LOp) (r : List It) (F : Fr) (H : ac) : Prop :=
 match b with
 | some true => ADo P N n q Q d o dst os r F H
 | some false => AGo P N n q Q (itOf d os :: r) (putF dst (.tup []) F) H
 | none => False
def jp (P : Program) (N n : Nat) (q : Bool) (Q : Exit → Fr → ac → Prop) (x : AV) (a b : Code) (r : List It) (F : Fr) (H : ac) : Prop :=
 ∃ t, x = .bool t ∧ (t = true → AGo P N n q Q (.code a :: r) F H) ∧ (t = false → AGo P N n q Q (.code b :: r) F H)
section
variable {Q : Exit → Fr → ac → Prop} {r : List It} {F : Fr} {H : ac}
theorem go_skip : AGo P N n q Q (.code .skip :: r) F H = AGo P N n q Q r F H := rfl
theorem go_label {l : Nat} : AGo P N n q Q (.code (.label l) :: r) F H = AGo P N n q Q r F H := rfl
theorem st_code (c : Code) : St P N n q Q (.code c :: r) = eC (fun F H => AWr P N n q c (St P N n q Q r) F H) (St P N n q Q r) := by
 funext e F H; cases e <;> rfl
theorem go_seq {a b : Code} : AGo P N n q Q (.code (.seq a b) :: r) F H = AGo P N n q Q (.code a :: .code b :: r) F H := by
 show AWr P N n q a (eC _ _) F H = AWr P N n q a (St P N n q Q (.code b :: r)) F H
 rw [st_code]
theorem go_block {id : Nat} {c : Code} : AGo P N n q Q (.code (.block id c) :: r) F H = AGo P N n q Q (.code c :: .endB id :: r) F H := by
 show AWr P N n q c (d7 id _) F H = AWr P N n q c (St P N n q Q (.endB id :: r)) F H
 congr 1
 funext e F H
 cases e <;> rfl
theorem go_endB {id : Nat} : AGo P N n q Q (.endB id :: r) F H = AGo P N n q Q r F H := rfl
theorem go_exit {id : Nat} : AGo P N n q Q (.code (.exit id) :: r) F H = gJ P N n q Q id r F H := rfl
theorem mu {id : Nat} {c : Code} : gJ P N n q Q id (.code c :: r) F H = gJ P N n q Q id r F H := rfl
theorem mw {id id' : Nat} : gJ P N n q Q id (.endB id' :: r) F H = bif id == id' then AGo P N n q Q r F H else gJ P N n q Q id r F H := by
 show (if id = id' then _ else _) = _
 by_cases e : id = id'
 ·subst e; simp; rfl
 ·have : (id == id') = false := by simp [e]
  rw [if_neg e, this]; rfl
theorem pT {id : Nat} {J : Fr → ac → Prop} : gJ P N n q Q id (.inv J :: r) F H = gJ P N n q Q id r F H := rfl
theorem fg : ∀ r : List It, St P N n q Q r .ret F H = eG Q F H
 | [] => rfl
 | .code _ :: r => fg r
 | .ops _ :: r => fg r
 | .opsD _ _ :: r => fg r
 | .endB _ :: r => fg r
 | .inv _ :: r => fg r
theorem go_ret : AGo P N n q Q (.code .ret :: r) F H = eG Q F H := fg r
theorem go_cond {c : Operand} {a b : Code} : AGo P N n q Q (.code (.cond c a b) :: r) F H = jp P N n q Q (aev F c) a b r F H := rfl
theorem cond_t {a b : Code} : jp P N n q Q (.bool true) a b r F H = AGo P N n q Q (.code a :: r) F H := by simp [jp]
theorem cond_f {a b : Code} : jp P N n q Q (.bool false) a b r F H = AGo P N n q Q (.code b :: r) F H := by simp [jp]
theorem ak {t : Bool} {a b : Code} (h1 : t = true → AGo P N n q Q (.code a :: r) F H) (h2 : t = false → AGo P N n q Q (.code b :: r) F H) : jp P N n q Q (.bool t) a b r F H := ⟨t, rfl, h1, h2⟩
theorem go_region {id : Nat} {ops : Array Oper} : AGo P N n q Q (.code (.region id ops false) :: r) F H = AGo P N n q Q (.ops (ops.toList.map (lightOf (dsts ops))) :: r) F H := rfl
theorem go_regionD {id : Nat} {ops : Array Oper} : AGo P N n q Q (.code (.region id ops true) :: r) F H = AGo P N n q Q (.opsD H.length (ops.toList.map (lightOf (dsts ops))) :: r) F H := rfl
theorem go_ops_nil : AGo P N n q Q (.ops [] :: r) F H = AGo P N n q Q r F H := rfl
theorem go_opsD_nil : AGo P N n q Q (.opsD m [] :: r) F H = AGo P N n q Q r F H := rfl
theorem go_ops {o : LOp} {os : List LOp} : AGo P N n q Q (.ops (o :: os) :: r) F H = AGd P N n q Q none (gdL F o.g) o.op o.dst os r F H := by
 show AOpsL P (o :: os) F H _ = _
 unfold AOpsL AGd
 cases hg : gdL F o.g with
 | none => rfl
 | some b =>
  cases b with
  | false => rfl
  | true =>
   simp only
   unfold AOp ADo
   cases hc : ap o.op F with
   | some p => rfl
   | none =>
    simp only
    unfold AK
    cases hx : aop P o.op F H with
    | none => simp
    | some p => simp [lateD]; rfl
theorem go_opsD {o : LOp} {os : List LOp} : AGo P N n q Q (.opsD m (o :: os) :: r) F H = AGd P N n q Q (some m) (gdL F o.g) o.op o.dst os r F H := by
 show AOpsDL P q m (o :: os) F H _ = _
 unfold AOpsDL AGd
 cases hg : gdL F o.g with
 | none => rfl
 | some b =>
  cases b with
  | false => rfl
  | true =>
   simp only
   unfold AOpD ADo
   cases hc : ap o.op F with
   | some p => rfl
   | none =>
    simp only
    unfold AK
    cases hx : aop P o.op F H with
    | none => simp
    | some p => simp [lateD]; exact fun _ => Iff.rfl
variable {d : Option Nat} {dst : Option Tmp} {os : List LOp} {o : Op}
theorem al {b : Bool} (h1 : b = true → ADo P N n q Q d o dst os r F H) (h2 : b = false → AGo P N n q Q (itOf d os :: r) (putF dst (.tup []) F) H) : AGd P N n q Q d (some b) o dst os r F H := by
 cases b
 ·exact h2 rfl
 ·exact h1 rfl
theorem k_some {x : AV} {H' : ac} : AK P N n q Q d (some (x, H')) dst os r F = AGo P N n q Q (itOf d os :: r) (putF dst x F) H' := rfl
theorem kR : AK P N n q Q d none dst os r F = False := rfl
theorem kS {p : Prop} [Decidable p] {f : Unit → AV × ac} : AK P N n q Q d ((bj p).map f) dst os r F = (p ∧ AK P N n q Q d (some (f ())) dst os r F) := by
 unfold bj; by_cases h : p
 ·simp [h]
 ·simp [h, kR]
theorem jQ {p : Prop} [Decidable p] {f : Unit → Option (AV × ac)} : AK P N n q Q d ((bj p).bind f) dst os r F = (p ∧ AK P N n q Q d (f ()) dst os r F) := by
 unfold bj; by_cases h : p
 ·simp [h]
 ·simp [h, kR]
theorem k_cond {b : Bool} {x y : Option (AV × ac)} : AK P N n q Q d (bif b then x else y) dst os r F = ((b = true → AK P N n q Q d x dst os r F) ∧ (b = false → AK P N n q Q d y dst os r F)) := by
 cases b <;> simp
theorem pU {α : Type} {p : Prop} [Decidable p] {x : α} : (if p then some x else none) = (bj p).map fun _ => x := by
 unfold bj; by_cases h : p <;> simp [h]
theorem call_of {f : FuncId} {args : List AV} {R : AV → ac → Prop} (hok : dz P f = true) (h : ACalls P f args H R) (k : ∀ x H', R x H' → AGo P N n q Q (.ops os :: r) (putF dst x F) H') : iR P N n q Q none f args dst os r F H :=
 ⟨hok, h.mono k⟩
theorem go_loop {c : Code} (hm : P.follows .mixedOrders = true) (hc : db N q c = true) (I : Nat → Fr → ac → Prop) (k0 : Nat) (h0 : ∃ σ F2 H2, I k0 F2 H2 ∧ Abs n σ F H F2 H2)
  (round : ∀ k F H, I k F H → ∀ J : Fr → ac → Prop, (∀ F' H', (∃ k', k' < k ∧ ∃ σ F2 H2, I k' F2 H2 ∧ Abs n σ F' H' F2 H2) → J F' H') → AGo P N n q Q (.code c :: .inv J :: r) F H) : AGo P N n q Q (.code (.loop c) :: r) F H := by
 refine lS I k0 h0 fun k F H hi => fX hm c hc _ F H ?_
 have := round k F H hi _ (fun _ _ h => h)
 have e : St P N n q Q (.inv (fun F' H' => ∃ k', k' < k ∧ ∃ σ F2 H2, I k' F2 H2 ∧ Abs n σ F' H' F2 H2) :: r) = eC (fun F' H' => ∃ k', k' < k ∧ ∃ σ F2 H2, I k' F2 H2 ∧ Abs n σ F' H' F2 H2) (St P N n q Q r) := by
  funext e F H; cases e <;> rfl
 rw [← e]
 exact this
theorem b9 {f : FuncId} {fn : Func} {args : List AV} {R : AV → ac → Prop} (hm : P.follows .mixedOrders = true) (hf : P.funcs[f]? = some fn) (q : Bool) (N : Nat) (hN : fn.ntmps = N) (ha : args.length ≤ N)
  (hc : (fn.body.map (db N q)) = some true) (h : HBel H.length H → ∀ Q, (∀ F H', dr P fn H.length R .ret F H' → eG Q F H') → (∀ F H', dr P fn H.length R .normal F H' → Q .normal F H') → ∀ c, fn.body = some c → AGo P N H.length q Q [.code c] (argF 0 args) H) : ACalls P f args H R := by
 cases hb : fn.body with
 | none => rw [hb] at hc; cases hc
 | some c =>
  rw [hb] at hc
  simp at hc
  exact iQ hf hb hN ha fun hbel => fX hm c hc _ _ _ (h hbel (dr P fn H.length R) (fun _ _ k => k) (fun _ _ k => k) c hb)
end
end
set_option linter.unusedSimpArgs false
set_option linter.unusedVariables false
open Go.RowKit
section
variable {α : Type} {H l : List α} {x y : α}
theorem ag : (H ++ l)[H.length]? = l[0]? := by rw [List.getElem?_append_right (Nat.le_refl _), Nat.sub_self]
theorem aj {k : Nat} : (H ++ l)[H.length + k]? = l[k]? := by rw [List.getElem?_append_right (by omega)]; congr 1; omega
theorem pV : (H ++ l).set H.length x = H ++ l.set 0 x := by rw [List.set_append_right _ _ (Nat.le_refl _), Nat.sub_self]
theorem ik {k : Nat} : (H ++ l).set (H.length + k) x = H ++ l.set k x := by
 rw [List.set_append_right _ _ (by omega)]; congr 2; omega
theorem get_old {b : Nat} (h : H[b]? = some x) (l : List α) : (H ++ l)[b]? = some x := by rw [List.getElem?_append_left (getElem?_lt h)]; exact h
theorem pW : (H ++ [x]).length = H.length + 1 := by simp
theorem len_lit : (H ++ l).length = H.length + l.length := by simp
end
theorem lV {x : Int} (h1 : -9223372036854775808 ≤ x) (h2 : x ≤ 9223372036854775807) : IntKind.i64.wrap x = x := IntWalk.i64_in _ ⟨h1, h2⟩
theorem gy {n m : Nat} {sel : List Nat} {b : Nat} (h : b < n) : sig n m sel b = b := by simp [sig, h]
theorem fh {n m : Nat} {sel : List Nat} : sig n m sel n = match sel[0]? with | some i => n + i | none => n + (n + m) := by
 unfold sig; rw [if_neg (by omega), Nat.sub_self] <;> rfl
theorem fi {n m k : Nat} {sel : List Nat} : sig n m sel (n + k) = match sel[k]? with | some i => n + i | none => n + k + (n + m) := by
 unfold sig; rw [if_neg (by omega), Nat.add_sub_cancel_left] <;> rfl
theorem end_of {P : Program} {fn : Func} {H l1 l2 : ac} {R : AV → ac → Prop} {F : Fr} {e : Exit} (he : e = .ret ∨ e = .normal) (hbel : HBel H.length H) {x1 x2 : AV} (hx : cM P fn F (H ++ l1) = some x1) (sel : List Nat) (hnd : sel.Nodup) (hR : R x2 (H ++ l2))
  (hv : x1 = x2.mv (sig H.length l1.length sel)) (hl : l2.length = sel.length) (hH : ∀ (i b : Nat) (x : ABlk), sel[i]? = some b → l2[i]? = some x → x = .dead ∨ l1[b]? = some (x.mv (sig H.length l1.length sel))) : dr P fn H.length R e F (H ++ l1) := by
 have h := Abs0.abs <| Abs0.of (n := H.length) (H0 := H) (l1 := l1) (l2 := l2) (F1 := [(0, x1)]) (F2 := [(0, x2)]) rfl hbel sel hnd (fun p hp => by simp at hp; subst hp; simp [look, hv, W.refl]) hl (fun i b x h1 h2 => (hH i b x h1 h2).imp id .inl)
 rcases he with rfl | rfl
 ·exact ⟨x1, hx, _, x2, _, hR, h⟩
 ·exact ⟨x1, hx, _, x2, _, hR, h⟩
theorem ae {P : Program} {fn : Func} {H l1 : ac} {R : AV → ac → Prop} {F : Fr} {e : Exit} (he : e = .ret ∨ e = .normal) (hbel : HBel H.length H) {x : AV} (hx : cM P fn F (H ++ l1) = some x) (hp : x.bel 0 = true) (hR : R x H) : dr P fn H.length R e F (H ++ l1) :=
 end_of (l2 := []) he hbel hx [] (by simp) (by simpa using hR) (mv_id (n := 0) (fun b hb => absurd hb (Nat.not_lt_zero b)) x hp).symm rfl (fun i b x h => by simp at h)
theorem ret_of {P : Program} {fn : Func} {F : Fr} {H : ac} {l : List ResultVar} {x : AV} (h1 : fn.results = l.toArray) (h2 : (aRes P l F H).map one1 = some x) : cM P fn F H = some x := by
 unfold cM; rw [h1]; exact h2
theorem aq {α : Type} {H l : List α} {x : α} {b : Nat} (h : H[b]? = some x) : (H ++ l)[b]? = some x := get_old h l
theorem my : bj True = some () := rfl
theorem mz {n : Nat} : (n + 1 == 0) = false := rfl
theorem rng0 : List.range 0 = [] := rfl
theorem rng1 : List.range 1 = [0] := rfl
theorem rng2 : List.range 2 = [0, 1] := rfl
theorem rng3 : List.range 3 = [0, 1, 2] := rfl
theorem rng4 : List.range 4 = [0, 1, 2, 3] := rfl
theorem rng5 : List.range 5 = [0, 1, 2, 3, 4] := rfl
theorem rng6 : List.range 6 = [0, 1, 2, 3, 4, 5] := rfl
theorem rng7 : List.range 7 = [0, 1, 2, 3, 4, 5, 6] := rfl
theorem rng8 : List.range 8 = [0, 1, 2, 3, 4, 5, 6, 7] := rfl
theorem rng9 : List.range 9 = [0, 1, 2, 3, 4, 5, 6, 7, 8] := rfl
theorem rng10 : List.range 10 = [0, 1, 2, 3, 4, 5, 6, 7, 8, 9] := rfl
theorem rng11 : List.range 11 = [0, 1, 2, 3, 4, 5, 6, 7, 8, 9, 10] := rfl
theorem rng12 : List.range 12 = [0, 1, 2, 3, 4, 5, 6, 7, 8, 9, 10, 11] := rfl
theorem rng16 : List.range 16 = [0, 1, 2, 3, 4, 5, 6, 7, 8, 9, 10, 11, 12, 13, 14, 15] := rfl
def ints (k : IntKind) (xs : List Int) : List AV := xs.map (AV.int k)
theorem dh {k : IntKind} {xs : List Int} {j : Nat} (h : j < xs.length) : (ints k xs)[j]? = some (.int k (gi xs j)) := by
 simp [ints, gi, h, List.getD_eq_getElem?_getD]
theorem ck {k : IntKind} {xs : List Int} : (ints k xs).length = xs.length := by simp [ints]
theorem kd {k : IntKind} {xs : List Int} {j : Nat} {v : Int} : (ints k xs).set j (.int k v) = ints k (xs.set j v) := by simp [ints, List.map_set]
theorem bP {k : IntKind} {n : Nat} {v : Int} : List.replicate n (.int k v) = ints k (List.replicate n v) := by simp [ints]
def cz (xs : List Bool) : List AV := xs.map AV.bool
def bget (bs : List Bool) (k : Nat) : Bool := bs.getD k false
theorem mA {xs : List Bool} {j : Nat} (h : j < xs.length) : (cz xs)[j]? = some (.bool (bget xs j)) := by
 simp [cz, bget, h, List.getD_eq_getElem?_getD]
theorem gK {xs : List Bool} : (cz xs).length = xs.length := by simp [cz]
theorem iS {xs : List Bool} {j : Nat} {v : Bool} : (cz xs).set j (.bool v) = cz (xs.set j v) := by simp [cz, List.map_set]
theorem iT {n : Nat} {v : Bool} : List.replicate n (.bool v) = cz (List.replicate n v) := by simp [cz]
theorem d8 {σ : Nat → Nat} {k : IntKind} : ∀ {xs : List Int}, AV.mvs σ (ints k xs) = ints k xs
 | [] => rfl
 | x :: r => by show AV.mv σ (.int k x) :: AV.mvs σ (ints k r) = _; rw [d8 (xs := r)]; rfl
theorem d9 {σ : Nat → Nat} : ∀ {xs : List Bool}, AV.mvs σ (cz xs) = cz xs
 | [] => rfl
 | x :: r => by show AV.mv σ (.bool x) :: AV.mvs σ (cz r) = _; rw [d9 (xs := r)]; rfl
theorem dN {σ : Nat → Nat} : ∀ {xs ys : List AV}, AV.mvs σ (xs ++ ys) = AV.mvs σ xs ++ AV.mvs σ ys
 | [], _ => rfl
 | x :: r, ys => by show AV.mv σ x :: AV.mvs σ (r ++ ys) = _; rw [dN (xs := r)]; rfl
def prs (l : List (Int × Int)) : List AV := l.flatMap fun p => [.int .i64 p.1, .int .i64 p.2]
theorem gY : prs [] = [] := rfl
theorem cG {p : Int × Int} {l : List (Int × Int)} : prs (p :: l) = .int .i64 p.1 :: .int .i64 p.2 :: prs l := rfl
theorem ah {l m : List (Int × Int)} : prs (l ++ m) = prs l ++ prs m := by simp [prs]
theorem bp : ∀ {l : List (Int × Int)}, (prs l).length = l.length * 2
 | [] => rfl
 | p :: l => by rw [cG]; simp only [List.length_cons, bp (l := l)]; omega
theorem fj {σ : Nat → Nat} : ∀ {l : List (Int × Int)}, AV.mvs σ (prs l) = prs l
 | [] => rfl
 | p :: l => by
  rw [cG]
  show AV.mv σ _ :: AV.mv σ _ :: AV.mvs σ (prs l) = _
  rw [fj (l := l)]; rfl
theorem prs_at : ∀ {l : List (Int × Int)} {j : Nat} (_h : j < l.length), (prs l).drop (j * 2) = .int .i64 (g1 l j) :: .int .i64 (g2 l j) :: (prs l).drop ((j + 1) * 2)
 | [], j, h => by simp at h
 | p :: l, 0, _ => by rw [cG]; simp [g1, g2]
 | p :: l, j + 1, h => by
  rw [cG, show (j + 1) * 2 = j * 2 + 1 + 1 by omega, List.drop_succ_cons, List.drop_succ_cons, prs_at (l := l) (by simpa using h), show (j + 1 + 1) * 2 = (j + 1) * 2 + 1 + 1 by omega, List.drop_succ_cons, List.drop_succ_cons]
  rfl
theorem cA {l : List (Int × Int)} {j : Nat} (h : j < l.length) : ((prs l).drop (j * 2)).take 2 = [.int .i64 (g1 l j), .int .i64 (g2 l j)] := by rw [prs_at h]; rfl
theorem pX {l : List (Int × Int)} {j : Nat} : (prs l).take (j * 2) = prs (l.take j) := by
 induction l generalizing j with
 | nil => simp [gY]
 | cons p l ih =>
  cases j with
  | zero => simp [gY]
  | succ j => rw [cG, show (j + 1) * 2 = j * 2 + 1 + 1 by omega, List.take_succ_cons, List.take_succ_cons, ih]; rfl
def er (m : Nat) (σ : Nat → Nat) (F1 : Fr) : Fr → Prop
 | [] => True
 | p :: r => W m (look F1 p.1) (p.2.mv σ) ∧ er m σ F1 r
def eu (m : Nat) (σ : Nat → Nat) (l1 : ac) : List Nat → ac → Prop
 | i :: s, x :: l2 => (x = .dead ∨ l1[i]? = some (x.mv σ) ∨ BW m (l1[i]?) (x.mv σ)) ∧ eu m σ l1 s l2
 | [], [] => True
 | _, _ => False
theorem ke {m : Nat} {σ : Nat → Nat} {F1 : Fr} : ∀ {F2 : Fr}, er m σ F1 F2 → ∀ p ∈ F2, W m (look F1 p.1) (p.2.mv σ)
 | _ :: _, h, p, hp => by
  rcases List.mem_cons.1 hp with rfl | hp
  ·exact h.1
  ·exact ke h.2 p hp
theorem dO {m : Nat} {σ : Nat → Nat} {l1 : ac} : ∀ {sel : List Nat} {l2 : ac}, eu m σ l1 sel l2 → l2.length = sel.length ∧ ∀ (i b : Nat) (x : ABlk), sel[i]? = some b → l2[i]? = some x → x = .dead ∨ l1[b]? = some (x.mv σ) ∨ BW m (l1[b]?) (x.mv σ)
 | [], [], _ => ⟨rfl, fun i b x h => by simp at h⟩
 | s :: sel, y :: l2, h => by
  obtain ⟨h1, h2⟩ := dO h.2
  refine ⟨by simp [h1], fun i b x hs hl => ?_⟩
  cases i with
  | zero => simp at hs hl; subst hs hl; exact h.1
  | succ i => exact h2 i b x (by simpa using hs) (by simpa using hl)
 | [], _ :: _, h => h.elim
 | _ :: _, [], h => h.elim
theorem Abs.byG {H0 l1 l2 : ac} {F1 F2 : Fr} (hsc : HBel H0.length H0) (G : ac) (hG : G.all eV = true) (sel : List Nat) (hnd : sel.Nodup) (h : er (H0.length + (l1 ++ G).length) (sig H0.length (l1 ++ G).length sel) F1 F2 ∧ eu (H0.length + (l1 ++ G).length) (sig H0.length (l1 ++ G).length sel) (l1 ++ G) sel l2) : Abs H0.length (sig H0.length (l1 ++ G).length sel) F1 (H0 ++ l1) F2 (H0 ++ l2) :=
 Abs.of G hG rfl hsc sel hnd (ke h.1) (dO h.2).1 (dO h.2).2
theorem Abs.by {H0 l1 l2 : ac} {F1 F2 : Fr} (hsc : HBel H0.length H0) (sel : List Nat) (hnd : sel.Nodup) (h : er (H0.length + l1.length) (sig H0.length l1.length sel) F1 F2 ∧ eu (H0.length + l1.length) (sig H0.length l1.length sel) l1 sel l2) : Abs H0.length (sig H0.length l1.length sel) F1 (H0 ++ l1) F2 (H0 ++ l2) := by
 have := Abs.byG (l1 := l1) (l2 := l2) (F1 := F1) (F2 := F2) hsc [] rfl sel hnd (by simpa using h)
 simpa using this
theorem aY {P : Program} {fn : Func} {H l1 l2 : ac} {R : AV → ac → Prop} {F : Fr} {e : Exit} (he : e = .ret ∨ e = .normal) (hbel : HBel H.length H) {x1 : AV} (x2 : AV) (hx : cM P fn F (H ++ l1) = some x1) (G : ac) (hG : G.all eV = true) (sel : List Nat) (hnd : sel.Nodup) (hR : R x2 (H ++ l2))
  (h : W (H.length + (l1 ++ G).length) x1 (x2.mv (sig H.length (l1 ++ G).length sel)) ∧ eu (H.length + (l1 ++ G).length) (sig H.length (l1 ++ G).length sel) (l1 ++ G) sel l2) : dr P fn H.length R e F (H ++ l1) := by
 have h1 := Abs.of (n := H.length) (H0 := H) (l1 := l1) (l2 := l2) (F1 := [(0, x1)]) (F2 := [(0, x2)]) G hG rfl hbel sel hnd (fun p hp => by simp at hp; subst hp; exact h.1) (dO h.2).1 (dO h.2).2
 rcases he with rfl | rfl
 ·exact ⟨x1, hx, _, x2, _, hR, h1⟩
 ·exact ⟨x1, hx, _, x2, _, hR, h1⟩
theorem end_by {P : Program} {fn : Func} {H l1 l2 : ac} {R : AV → ac → Prop} {F : Fr} {e : Exit} (he : e = .ret ∨ e = .normal) (hbel : HBel H.length H) {x1 : AV} (x2 : AV) (hx : cM P fn F (H ++ l1) = some x1) (sel : List Nat) (hnd : sel.Nodup) (hR : R x2 (H ++ l2))
  (h : x1 = x2.mv (sig H.length l1.length sel) ∧ eu (H.length + l1.length) (sig H.length l1.length sel) l1 sel l2) : dr P fn H.length R e F (H ++ l1) :=
 aY he hbel x2 hx [] rfl sel hnd hR ⟨by rw [List.append_nil, h.1]; exact W.refl _, by rw [List.append_nil]; exact h.2⟩
theorem au {P : Program} {fn : Func} {H : ac} {R : AV → ac → Prop} {F : Fr} {e : Exit} (he : e = .ret ∨ e = .normal) (hbel : HBel H.length H) {x : AV} (hx : cM P fn F H = some x) (hp : x.bel 0 = true) (hR : R x H) : dr P fn H.length R e F H := by
 have h := ae (P := P) (fn := fn) (l1 := []) (F := F) (R := R) he hbel (x := x) (by simpa using hx) hp hR
 simpa using h
theorem Abs.by0 {H0 : ac} {F1 F2 : Fr} (hsc : HBel H0.length H0) (h : er H0.length (sig H0.length 0 []) F1 F2) : Abs H0.length (sig H0.length 0 []) F1 H0 F2 H0 := by
 have := Abs.by (l1 := []) (l2 := []) (F1 := F1) (F2 := F2) hsc [] (by simp) ⟨h, trivial⟩
 simpa using this
theorem af {P : Program} {N n : Nat} {q : Bool} {Q : Exit → Fr → ac → Prop} {dst : Option Tmp} {os : List LOp} {r : List It} {F : Fr} {H H1 : ac} {f : FuncId} {args : List AV} {x : AV} (hok : dz P f = true) (h : ACalls P f args H fun v H' => v = x ∧ H' = H1) (k : AGo P N n q Q (.ops os :: r) (putF dst x F) H1) : iR P N n q Q none f args dst os r F H :=
 call_of hok h fun v H' ⟨h1, h2⟩ => by subst h1 h2; exact k
theorem aB {P : Program} {N n m : Nat} {q : Bool} {Q : Exit → Fr → ac → Prop} {dst : Option Tmp} {os : List LOp} {r : List It} {F : Fr} {H : ac} {f : FuncId} {args : List AV} {x : AV} (hok : dz P f = true) (h : ACalls P f args H fun y H1 => y = x ∧ H1 = H) (k : AGo P N n q Q (.opsD m os :: r) (putF dst x F) H) : iR P N n q Q (some m) f args dst os r F H :=
 ⟨hok, x, H, fun _ => rfl, ⟨Nat.le_refl _, fun _ _ _ => rfl⟩, h, k⟩
theorem bV {P : Program} {N n m : Nat} {Q : Exit → Fr → ac → Prop} {dst : Option Tmp} {os : List LOp} {r : List It} {F : Fr} {H l : ac} {f : FuncId} {args : List AV} {x : AV} (hok : dz P f = true) (_ : True) (h : ACalls P f args H fun y H1 => y = x ∧ H1 = H ++ l) (k : AGo P N n false Q (.opsD m os :: r) (putF dst x F) (H ++ l)) : iR P N n false Q (some m) f args dst os r F H :=
 ⟨hok, x, H ++ l, (fun h => by cases h), ⟨by simp, fun b _ hb => List.getElem?_append_left hb⟩, h, k⟩
set_option linter.unusedSimpArgs false
set_option linter.unusedVariables false
open Go.RowKit
section
variable {E : Env} {H : ac} {w w' : World}
theorem Emb.ownLt (h : Emb E H w) {b : Nat} {x : ABlk} (hx : H[b]? = some x) (ho : x.owned = true) : (E.loc b).blk < w.heap.size := by
 have hk := h.blk b x hx
 cases x with
 | dead => cases ho
 | cells own e ys => exact (hk.2.1 ho).2.1
 | map es => exact hk.2.1
theorem Emb.up (h : Emb E H w) (hb : Below w.heap.size w w') : Emb E H w' where
 n := h.n
 below := h.below.trans (hb.mono h.base)
 base := Nat.le_trans h.base hb.size
 blk b x hx := (h.blk b x hx).mono (Env.le.refl E) hb.size (fun ho => hb.block _ (h.ownLt hx ho)) (fun hB => hb.block _ (Nat.lt_of_lt_of_le hB h.base))
 inj := h.inj
theorem Emb.row (h : Emb E H w) (hb : Below w.heap.size w w') {base n sz : Nat} {e : TypeId} {v : Value} {vs : List Value} {xs : List AV} (hown : w'.ownsRow base e sz v n vs) (hB : w.heap.size ≤ base) (hn : 0 < n) (hr : RelL E xs vs) (ho : ∀ x ∈ xs, x.one = true) :
  ∃ E', E.le E' ∧ Rel E' (.sl (some (H.length, 0)) n none) v ∧ Emb E' (H ++ [.cells true sz xs]) w' := by
 have hs := Seg.of_own (gn hown (Nat.le_trans h.base hB))
 obtain ⟨g, off, cap, rfl, h1, h2, h3, h4, h5⟩ := fS hr ho hs hn
 have hg : base ≤ g := by
  rcases hown.2 with ⟨hv, -⟩ | ⟨g', cap', cur, hv, hb', -⟩
  ·cases hv
  ·injection hv with hv; injection hv with hv; injection hv with hv; omega
 have hle := E.le_push ⟨g, off, cap * sz, sz⟩
 refine ⟨E.push ⟨g, off, cap * sz, sz⟩, hle, ?_, h.grow (row := none) ⟨hb.os, hb.tape, hb.output, hb.size, fun k hk _ => hb.block k hk⟩ (fun k hk => by cases hk) rfl (fun c x hx => .inr ⟨hx, fun _ => by simp⟩) _ _ (h5 _ hle) (fun c x hx ho => ?_)⟩
 ·have e1 : (E.push ⟨g, off, cap * sz, sz⟩).loc H.length = ⟨g, off, cap * sz, sz⟩ := by rw [← h.n]; exact Env.push_new _ _
  refine .sl _ _ _ _ _ _ (by simp [Env.push, h.n]) h3 h4 (.inl rfl) (.inr (by rw [e1]; rfl)) ?_
  rw [e1]; simp
 ·have := h.ownLt hx ho
  show (E.loc c).blk ≠ g
  omega
theorem lW {k : IntKind} {n : Int} {v : Value} (h : Rel E (.int k n) v) : v = .int k n := by cases h; rfl
theorem iU {x : AV} {xs : List AV} {vs : List Value} (h : RelL E (x :: xs) vs) : ∃ v us, vs = v :: us ∧ Rel E x v ∧ RelL E xs us := by
 cases vs with
 | nil => have := h.1; simp at this
 | cons v us => exact ⟨v, us, rfl, h.uncons⟩
theorem pY {vs : List Value} (h : RelL E [] vs) : vs = [] := by
 have := h.1
 exact List.eq_nil_of_length_eq_zero (by simpa using this.symm)
end
set_option linter.unusedSimpArgs false
set_option linter.unusedVariables false
open Go.RowKit Go.ChangeShapes Go.WideShapes

def bQ (P : Program) : Nat → TypeId → Option (List TypeId)
 | 0, _ => none
 | n + 1, t =>
  match P.underlying t with
  | some (.int _) => some [t]
  | some .bool => some [t]
  | some (.slice e) => (bQ P n e).bind fun l => if l.length = P.cellsOf e ∧ 0 < l.length then some [t] else none
  | some (.struct fs) => (fs.toList.foldl (fun acc f => acc.bind fun (l : List TypeId) => (bQ P n f.type).bind fun m => if f.offset = l.length ∧ m.length = P.cellsOf f.type then some (l ++ m) else none) (some [])).bind fun l => if l.length = P.cellsOf t then some l else none
  | _ => none
def LTy (P : Program) (H : ac) : Nat → TypeId → AV → Prop
 | 0, _, _ => False
 | n + 1, t, x =>
  match P.underlying t with
  | some .bool => ∃ b, x = .bool b
  | some (.int k) => ∃ z, x = .int k z ∧ (Lit.int k z).wf = true
  | some (.slice e) => ∃ (b : Nat) (rows : List (List AV)) (ls : List TypeId), x = .sl (some (b, 0)) rows.length none ∧ bQ P n e = some ls ∧ rows.length ≤ maxLen ∧ H[b]? = some (.cells false ls.length rows.flatten) ∧
    ∀ r : List AV, r ∈ rows → r.length = ls.length ∧ ∀ (j : Nat) (l : TypeId) (y : AV), ls[j]? = some l → r[j]? = some y → LTy P H n l y
  | _ => False
theorem LTy.app {P : Program} {H : ac} (l' : ac) : ∀ {n : Nat} {t : TypeId} {x : AV}, LTy P H n t x → LTy P (H ++ l') n t x
 | 0, _, _, h => by simp [LTy] at h
 | n + 1, t, x, h => by
  unfold LTy at h ⊢
  split at h
  ·exact h
  ·exact h
  ·obtain ⟨b, rows, ls, h1, h2, h2', h3, h4⟩ := h
   exact ⟨b, rows, ls, h1, h2, h2', aq h3, fun r hr => ⟨(h4 r hr).1, fun j l y hj hy => ((h4 r hr).2 j l y hj hy).app l'⟩⟩
  ·exact h
def RTy (P : Program) (H : ac) (n : Nat) (ls : List TypeId) (r : List AV) : Prop := r.length = ls.length ∧ ∀ (j : Nat) (l : TypeId) (y : AV), ls[j]? = some l → r[j]? = some y → LTy P H n l y
theorem RTy.app {P : Program} {H : ac} (l' : ac) {n : Nat} {ls : List TypeId} {r : List AV} (h : RTy P H n ls r) : RTy P (H ++ l') n ls r := ⟨h.1, fun j l y a b => (h.2 j l y a b).app l'⟩
def ATy (P : Program) (H : ac) (n : Nat) (t : TypeId) (x : AV) : Prop := ∃ ls xs, bQ P n t = some ls ∧ RTy P H n ls xs ∧ ((aT P t = some true ∧ x = .agg xs) ∨ (aT P t = some false ∧ xs = [x]))
theorem ATy.app {P : Program} {H : ac} (l' : ac) {n : Nat} {t : TypeId} {x : AV} (h : ATy P H n t x) : ATy P (H ++ l') n t x := by
 obtain ⟨ls, xs, h1, h2, h3⟩ := h
 exact ⟨ls, xs, h1, h2.app l', h3⟩
section
variable {K : Type} {enc : TypeId × Value → K} {P : Program} {w : World} {base : Nat} {held : Bool}
def Reads (enc : TypeId × Value → K) (P : Program) (w : World) (base : Nat) (held : Bool) (ls : List TypeId) (cs : List Value) : Prop :=
 cs.length = ls.length ∧ ∀ (j : Nat) (l : TypeId) (v : Value), ls[j]? = some l → cs[j]? = some v → ∃ fuel y, DataW.trod enc P w base (fun _ => true) held fuel l [v] = some y
theorem Reads.append {ls ms : List TypeId} {cs ds : List Value} (h : Reads enc P w base held ls cs) (k : Reads enc P w base held ms ds) : Reads enc P w base held (ls ++ ms) (cs ++ ds) := by
 refine ⟨by simp [h.1, k.1], fun j l v hl hv => ?_⟩
 by_cases hj : j < ls.length
 ·rw [List.getElem?_append_left hj] at hl
  rw [List.getElem?_append_left (by rw [h.1]; exact hj)] at hv
  exact h.2 j l v hl hv
 ·rw [List.getElem?_append_right (by omega)] at hl
  rw [List.getElem?_append_right (by rw [h.1]; omega), h.1] at hv
  exact k.2 _ l v hl hv
theorem gR : ∀ (n : Nat) (t : TypeId) (ls : List TypeId), bQ P n t = some ls → ∀ (fuel : Nat) (cs : List Value) (y : DataW K × List MemPlace), DataW.trod enc P w base (fun _ => true) held fuel t cs = some y → Reads enc P w base held ls cs
 | 0, _, _, h => by simp [bQ] at h
 | n + 1, t, ls, h => by
  intro fuel cs y hy
  unfold bQ at h
  split at h
  ·rename_i k ht
   simp at h; subst h
   obtain ⟨z, rfl, -, -⟩ := DataW.trod_int ht hy
   exact ⟨rfl, fun j l v hl hv => by cases j with
    | zero => simp at hl hv; subst hl hv; exact ⟨fuel, y, hy⟩
    | succ j => simp at hl⟩
  ·rename_i ht
   simp at h; subst h
   obtain ⟨z, rfl, -⟩ := DataW.trod_bool ht hy
   exact ⟨rfl, fun j l v hl hv => by cases j with
    | zero => simp at hl hv; subst hl hv; exact ⟨fuel, y, hy⟩
    | succ j => simp at hl⟩
  ·rename_i e ht
   obtain ⟨l, -, h⟩ := am h
   split at h
   ·simp at h; subst h
    have h1 : ∃ v, cs = [v] := by
     rcases DataW.trod_slice ht hy with ⟨rfl, -⟩ | ⟨a, len, cap, _, _, _, -, rfl, -⟩
     ·exact ⟨_, rfl⟩
     ·exact ⟨_, rfl⟩
    obtain ⟨v, rfl⟩ := h1
    exact ⟨rfl, fun j l v hl hv => by cases j with
     | zero => simp at hl hv; subst hl hv; exact ⟨fuel, y, hy⟩
     | succ j => simp at hl⟩
   ·cases h
  ·rename_i fs ht
   obtain ⟨L, hL, h⟩ := am h
   split at h
   ·rename_i hlen
    simp at h; subst h
    obtain ⟨xs, m, -, -, hcl, hxl, hf⟩ := DataW.trod_struct ht hy
    have gen : ∀ (l : List Field) (done : List TypeId), (∀ f ∈ l, ∃ i : Nat, fs[i]? = some f) → done.length ≤ cs.length → Reads enc P w base held done (cs.take done.length) →
      l.foldl (fun acc f => acc.bind fun (l : List TypeId) => (bQ P n f.type).bind fun m => if f.offset = l.length ∧ m.length = P.cellsOf f.type then some (l ++ m) else none) (some done) = some L → Reads enc P w base held L (cs.take L.length) := by
     intro l
     induction l with
     | nil => intro done _ _ hd h; simp at h; subst h; exact hd
     | cons f l ih =>
      intro done hmem hle hd h
      simp only [List.foldl_cons, Option.bind_some] at h
      cases hm : bQ P n f.type with
      | none =>
       rw [hm] at h
       simp only [Option.bind_none] at h
       exfalso
       clear ih hd hmem hL
       induction l with
       | nil => simp at h
       | cons f' l ih => simp only [List.foldl_cons, Option.bind_none] at h; exact ih h
      | some ms =>
       rw [hm] at h
       simp only [Option.bind_some] at h
       by_cases hc : f.offset = done.length ∧ ms.length = P.cellsOf f.type
       ·rw [if_pos hc] at h
        obtain ⟨i, hi⟩ := hmem f (by simp)
        have h1 := hf i f hi
        have hxi : ∃ z, xs[i]? = some z := by
         have : i < xs.length := by
          have a := (Array.getElem?_eq_some_iff.1 hi).1
          have b := hxl
          omega
         exact ⟨_, List.getElem?_eq_getElem this⟩
        obtain ⟨z, hz⟩ := hxi
        rw [hz] at h1
        have hr := gR n f.type ms hm m _ z h1
        have hrl := hr.1
        rw [List.length_take, List.length_drop] at hrl
        have e1 : cs.take (done ++ ms).length = cs.take done.length ++ (cs.drop f.offset).take (P.cellsOf f.type) := by
         rw [List.length_append, hc.1, ← hc.2, List.take_add]
        refine ih (done ++ ms) (fun f' hf' => hmem f' (by simp [hf'])) (by rw [List.length_append]; omega) ?_ h
        rw [e1]
        exact hd.append hr
       ·rw [if_neg hc] at h
        exfalso
        clear ih hd hmem hL
        induction l with
        | nil => simp at h
        | cons f' l ih => simp only [List.foldl_cons, Option.bind_none] at h; exact ih h
    have := gen fs.toList [] (fun f hf => by
     obtain ⟨i, hi⟩ := List.getElem?_of_mem hf
     exact ⟨i, by simpa using hi⟩) (by simp) ⟨by simp, fun j l v hl => by simp at hl⟩ hL
    rwa [List.take_of_length_le (by omega)] at this
   ·cases h
  ·cases h
structure Top (E : Env) (H : ac) (w : World) : Prop where
 emb : Emb E H w
 B : E.B = w.heap.size
 w0 : E.w0 = w
theorem Top.push {E : Env} {H : ac} (h : Top E H w) {a : Addr} {len cap es : Nat} {xs : List AV} (hsp : 0 < cap → a.spot = none) (hes : 0 < es) (hlen : xs.length = len * es) (hlc : len ≤ cap) (hcm : cap ≤ maxLen)
  (hx : ∀ (j : Nat) (x : AV), xs[j]? = some x → x.one = true ∧ ∃ v, w.cell? ⟨a.block, a.off + j, none⟩ = some v ∧ Rel E x v) (hb : 0 < xs.length → a.block < w.heap.size) :
  ∃ E', E.le E' ∧ Top E' (H ++ [.cells false es xs]) w ∧ Rel E' (.sl (some (H.length, 0)) len none) (.slice (some a) len cap) := by
 have hle := E.le_push ⟨a.block, a.off, cap * es, es⟩
 have hn := h.emb.n
 have e1 : (E.push ⟨a.block, a.off, cap * es, es⟩).loc H.length = ⟨a.block, a.off, cap * es, es⟩ := by rw [← hn]; exact Env.push_new _ _
 refine ⟨E.push ⟨a.block, a.off, cap * es, es⟩, hle, ⟨⟨by simp [Env.push, hn], h.emb.below, h.emb.base, fun b x hbx => ?_, fun b c x y hbx hcy ox oy hbc => ?_⟩, h.B, h.w0⟩, ?_⟩
 ·by_cases hbl : b < H.length
  ·rw [List.getElem?_append_left hbl] at hbx
   rw [Env.push_old _ _ (by omega)]
   exact (h.emb.blk b x hbx).mono hle (Nat.le_refl _) (fun _ => rfl) (fun _ => rfl)
  ·have hbe : b = H.length := by have := getElem?_lt hbx; simp at this; omega
   subst hbe
   rw [List.getElem?_append_right (Nat.le_refl _), Nat.sub_self] at hbx
   simp at hbx; subst hbx
   rw [e1]
   refine ⟨fun j x hj => ?_, (fun h => by cases h), fun _ h0 => ?_, rfl⟩
   ·obtain ⟨h1, v, h2, h3⟩ := hx j x hj
    exact ⟨h1, v, h2, h3.mono hle⟩
   ·show a.block < E.B
    rw [h.B]; exact hb h0
 ·by_cases hbl : b < H.length
  ·by_cases hcl : c < H.length
   ·rw [List.getElem?_append_left hbl] at hbx
    rw [List.getElem?_append_left hcl] at hcy
    rw [Env.push_old _ _ (by omega), Env.push_old _ _ (by omega)]
    exact h.emb.inj b c x y hbx hcy ox oy hbc
   ·have hbe : c = H.length := by have := getElem?_lt hcy; simp at this; omega
    subst hbe
    rw [List.getElem?_append_right (Nat.le_refl _), Nat.sub_self] at hcy
    simp at hcy; subst hcy; cases oy
  ·have hbe : b = H.length := by have := getElem?_lt hbx; simp at this; omega
   subst hbe
   rw [List.getElem?_append_right (Nat.le_refl _), Nat.sub_self] at hbx
   simp at hbx; subst hbx; cases ox
 ·refine .sl _ _ _ _ _ _ (by simp [Env.push, hn]) hlc hcm (.inl rfl) ?_ ?_
  ·rcases Nat.eq_zero_or_pos cap with h0 | h0
   ·exact .inl h0
   ·right
    rw [e1]
    obtain ⟨b, o, s⟩ := a
    simp only at hsp
    rw [hsp h0]; rfl
  ·rw [e1]; simp
def eo (P : Program) (t : TypeId) : Bool := match P.underlying t with
 | some (.int _) | some .bool | some (.slice _) => true
 | _ => false
theorem eY {α β : Type} (f : Option β → α → Option β) (hf : ∀ a, f none a = none) : ∀ l : List α, l.foldl f none = none
 | [] => rfl
 | a :: l => by rw [List.foldl_cons, hf]; exact eY f hf l
theorem kT {n : Nat} : ∀ (l : List Field) (done L : List TypeId), l.foldl (fun acc f => acc.bind fun (l : List TypeId) => (bQ P n f.type).bind fun m => if f.offset = l.length ∧ m.length = P.cellsOf f.type then some (l ++ m) else none) (some done) = some L →
  ∀ x ∈ L, x ∈ done ∨ ∃ f ∈ l, ∃ m, bQ P n f.type = some m ∧ x ∈ m
 | [], done, L, h, x, hx => by simp at h; subst h; exact .inl hx
 | f :: l, done, L, h, x, hx => by
  simp only [List.foldl_cons, Option.bind_some] at h
  cases hm : bQ P n f.type with
  | none => rw [hm, Option.bind_none, eY _ (fun _ => rfl)] at h; cases h
  | some m =>
   rw [hm, Option.bind_some] at h
   split at h
   ·rcases kT l _ L h x hx with h1 | ⟨f', h1, h2⟩
    ·rcases List.mem_append.1 h1 with h1 | h1
     ·exact .inl h1
     ·exact .inr ⟨f, by simp, m, hm, h1⟩
    ·exact .inr ⟨f', by simp [h1], h2⟩
   ·rw [eY _ (fun _ => rfl)] at h; cases h
theorem il : ∀ (n : Nat) (t : TypeId) (ls : List TypeId), bQ P n t = some ls → bQ P (n + 1) t = some ls
 | 0, _, _, h => by simp [bQ] at h
 | n + 1, t, ls, h => by
  unfold bQ at h ⊢
  split at h
  ·exact h
  ·exact h
  ·obtain ⟨l, h1, h2⟩ := am h
   rw [il n _ l h1]
   exact h2
  ·rename_i fs ht
   obtain ⟨L, h1, h2⟩ := am h
   have gen : ∀ (l : List Field) (done : List TypeId), l.foldl (fun acc f => acc.bind fun (l : List TypeId) => (bQ P n f.type).bind fun m => if f.offset = l.length ∧ m.length = P.cellsOf f.type then some (l ++ m) else none) (some done) = some L →
     l.foldl (fun acc f => acc.bind fun (l : List TypeId) => (bQ P (n + 1) f.type).bind fun m => if f.offset = l.length ∧ m.length = P.cellsOf f.type then some (l ++ m) else none) (some done) = some L := by
    intro l
    induction l with
    | nil => exact fun _ h => h
    | cons f l ih =>
     intro done h
     simp only [List.foldl_cons, Option.bind_some] at h ⊢
     cases hm : bQ P n f.type with
     | none => rw [hm, Option.bind_none, eY _ (fun _ => rfl)] at h; cases h
     | some m =>
      rw [hm, Option.bind_some] at h
      rw [il n _ m hm, Option.bind_some]
      split at h
      ·rename_i hc; rw [if_pos hc]; exact ih _ h
      ·rw [eY _ (fun _ => rfl)] at h; cases h
   rw [gen _ _ h1]
   exact h2
  ·cases h
theorem im : ∀ (n : Nat) (t : TypeId) (ls : List TypeId), bQ P n t = some ls → ∀ l ∈ ls, eo P l = true ∧ bQ P n l = some [l]
 | 0, _, _, h => by simp [bQ] at h
 | n + 1, t, ls, h => by
  have h0 := h
  unfold bQ at h
  split at h
  ·rename_i k ht
   simp at h; subst h
   exact fun l hl => by simp at hl; subst hl; exact ⟨by unfold eo; rw [ht], h0⟩
  ·rename_i ht
   simp at h; subst h
   exact fun l hl => by simp at hl; subst hl; exact ⟨by unfold eo; rw [ht], h0⟩
  ·rename_i e ht
   obtain ⟨l, h1, h2⟩ := am h
   split at h2
   ·simp at h2; subst h2
    exact fun l hl => by simp at hl; subst hl; exact ⟨by unfold eo; rw [ht], h0⟩
   ·cases h2
  ·rename_i fs ht
   obtain ⟨L, h1, h2⟩ := am h
   split at h2
   ·simp at h2; subst h2
    intro l hl
    rcases kT _ _ _ h1 l hl with h3 | ⟨f, -, m, h4, h5⟩
    ·simp at h3
    ·obtain ⟨k1, k2⟩ := im n f.type m h4 l h5
     exact ⟨k1, il n l _ k2⟩
   ·cases h2
  ·cases h
def OpenAt (K : Type) (enc : TypeId × Value → K) (P : Program) (w : World) (base : Nat) (held : Bool) (n : Nat) : Prop :=
 ∀ (t : TypeId) (v : Value) (fuel : Nat) (y : DataW K × List MemPlace), eo P t = true → bQ P n t = some [t] → DataW.trod enc P w base (fun _ => true) held fuel t [v] = some y → ∀ (E : Env) (H : ac), Top E H w →
  ∃ (E' : Env) (l : ac) (x : AV), E.le E' ∧ Top E' (H ++ l) w ∧ Rel E' x v ∧ x.one = true ∧ LTy P (H ++ l) n t x
theorem kf {n : Nat} (IH : OpenAt K enc P w base held n) : ∀ (ls : List TypeId) (cs : List Value), (∀ l ∈ ls, eo P l = true ∧ bQ P n l = some [l]) → Reads enc P w base held ls cs → ∀ (E : Env) (H : ac), Top E H w →
  ∃ (E' : Env) (l : ac) (xs : List AV), E.le E' ∧ Top E' (H ++ l) w ∧ RelL E' xs cs ∧ (∀ x ∈ xs, x.one = true) ∧ RTy P (H ++ l) n ls xs
 | [], cs, _, hr, E, H, hT => by
  have : cs = [] := List.eq_nil_of_length_eq_zero hr.1
  subst this
  exact ⟨E, [], [], .refl E, by simpa using hT, .nil E, fun x hx => by simp at hx, rfl, fun j l y h => by simp at h⟩
 | t :: ls, cs, hl, hr, E, H, hT => by
  cases cs with
  | nil => have := hr.1; simp at this
  | cons v cs =>
   obtain ⟨fuel, y, hy⟩ := hr.2 0 t v rfl rfl
   obtain ⟨E1, l1, x, e1, t1, r1, o1, y1⟩ := IH t v fuel y (hl t (by simp)).1 (hl t (by simp)).2 hy E H hT
   obtain ⟨E2, l2, xs, e2, t2, r2, o2, y2⟩ := kf IH ls cs (fun l h => hl l (by simp [h])) ⟨by have := hr.1; simpa using this, fun j l u h1 h2 => hr.2 (j + 1) l u (by simpa using h1) (by simpa using h2)⟩ E1 (H ++ l1) t1
   refine ⟨E2, l1 ++ l2, x :: xs, e1.trans e2, by simpa using t2, .cons (r1.mono e2) r2, fun z hz => ?_, by simp [y2.1], fun j l u h1 h2 => ?_⟩
   ·rcases List.mem_cons.1 hz with rfl | hz
    ·exact o1
    ·exact o2 z hz
   ·cases j with
    | zero =>
     simp at h1 h2; subst h1 h2
     have := y1.app l2
     simpa using this
    | succ j => 
     have := y2.2 j l u (by simpa using h1) (by simpa using h2)
     simpa using this
theorem kg {es : Nat} : ∀ (rows : List (List AV)), (∀ r : List AV, r ∈ rows → r.length = es) → rows.flatten.length = rows.length * es
 | [], _ => by simp
 | r :: rows, h => by
  have := kg rows (fun r' h' => h r' (by simp [h']))
  have := h r (by simp)
  simp only [List.flatten_cons, List.length_append, List.length_cons, Nat.add_mul, Nat.one_mul]
  omega
theorem iV : ∀ (n : Nat), OpenAt K enc P w base held n
 | 0 => fun _ _ _ _ _ h => by simp [bQ] at h
 | n + 1 => fun t v fuel y hp h hy E H hT => by
  unfold bQ at h
  split at h
  ·rename_i k ht
   obtain ⟨z, hz, -, hw⟩ := DataW.trod_int ht hy
   simp at hz; subst hz
   exact ⟨E, [], .int k z, .refl E, by simpa using hT, .int k z, rfl, by unfold LTy; rw [ht]; exact ⟨z, rfl, hw⟩⟩
  ·rename_i ht
   obtain ⟨z, hz, -⟩ := DataW.trod_bool ht hy
   simp at hz; subst hz
   exact ⟨E, [], .bool z, .refl E, by simpa using hT, .bool z, rfl, by unfold LTy; rw [ht]; exact ⟨z, rfl⟩⟩
  ·rename_i e ht
   obtain ⟨ls, hls, h⟩ := am h
   split at h
   ·rename_i hc
    rcases DataW.trod_slice ht hy with ⟨hv, -⟩ | ⟨a, len, cap, elems, rest, m, -, hv, -, hb, hlc, hcm, hel, hei, hsp, -⟩
    ·simp at hv; subst hv
     refine ⟨E.push ⟨0, 0, 0, ls.length⟩, [.cells false ls.length []], .sl (some (H.length, 0)) 0 none, E.le_push _, ⟨hT.emb.phantom rfl, hT.B, hT.w0⟩, .nils _ _ (by rw [← hT.emb.n]; exact Nat.lt_succ_self _) (.inl rfl), rfl, ?_⟩
     unfold LTy; rw [ht]
     exact ⟨H.length, [], ls, rfl, hls, by simp, by simp, fun r h => by simp at h⟩
    ·simp at hv; subst hv
     obtain ⟨hrl, hri⟩ := hsp rfl
     have hrow : ∀ i, i < len → ∃ cs, w.cells? base (a.add (i * P.cellsOf e)) (P.cellsOf e) = some cs ∧ Reads enc P w base held ls cs := fun i hi => by
      have h1 := hei i hi
      have hi' : i < elems.length := by omega
      rw [List.getElem?_eq_getElem hi'] at h1
      obtain ⟨cs, h2, h3⟩ := Option.bind_eq_some_iff.1 h1
      exact ⟨cs, h2, gR n e ls hls _ _ _ h3⟩
     have hspot : 0 < cap → a.spot = none := fun h0 => by
      have hz : ∃ cs, w.cells? base (a.add (0 * P.cellsOf e)) (P.cellsOf e) = some cs := by
       rcases Nat.eq_zero_or_pos len with hl0 | hl0
       ·have h1 := hri 0 (by omega)
        have hi' : 0 < rest.length := by omega
        rw [List.getElem?_eq_getElem hi', hl0, Nat.zero_add] at h1
        obtain ⟨cs, h2, -⟩ := Option.bind_eq_some_iff.1 h1
        exact ⟨cs, h2⟩
       ·obtain ⟨cs, h2, -⟩ := hrow 0 hl0
        exact ⟨cs, h2⟩
      obtain ⟨cs, hz⟩ := hz
      obtain ⟨-, hcl, hc0⟩ := World.cells?_some hz
      have := hc0 0 (by omega)
      rw [List.getElem?_eq_getElem (by omega)] at this
      have hs := World.cell?_spot this
      simpa [Addr.add] using hs
     have hrowlt : ∀ i, i < len → a.block < w.heap.size := fun i hi => by
      obtain ⟨cs, h2, -⟩ := hrow i hi
      have := World.cells?_block h2 (by omega)
      rwa [block_add] at this
     -- all rows, one behind the other
     have all : ∀ k, k ≤ len → ∃ (E' : Env) (l : ac) (rows : List (List AV)), E.le E' ∧ Top E' (H ++ l) w ∧ rows.length = k ∧ (∀ r : List AV, r ∈ rows → RTy P (H ++ l) n ls r) ∧
       ∀ (j : Nat) (x : AV), rows.flatten[j]? = some x → x.one = true ∧ ∃ v, w.cell? ⟨a.block, a.off + j, none⟩ = some v ∧ Rel E' x v := by
      intro k
      induction k with
      | zero => exact fun _ => ⟨E, [], [], .refl E, by simpa using hT, rfl, fun r hr => by simp at hr, fun j x h => by simp at h⟩
      | succ k ih =>
       intro hk
       obtain ⟨E1, l1, rows, e1, t1, r1, r2, r3⟩ := ih (by omega)
       obtain ⟨cs, c1, c2⟩ := hrow k (by omega)
       obtain ⟨E2, l2, xs, e2, t2, x1, x2, x3⟩ := kf (iV n) ls cs (fun l hl => im n e ls hls l hl) c2 E1 (H ++ l1) t1
       obtain ⟨-, hcl, hcc⟩ := World.cells?_some c1
       have hfl : rows.flatten.length = k * ls.length := by rw [kg rows (fun r hr => (r2 r hr).1), r1]
       refine ⟨E2, l1 ++ l2, rows ++ [xs], e1.trans e2, by simpa using t2, by simp [r1], fun r hr => ?_, fun j x hj => ?_⟩
       ·rcases List.mem_append.1 hr with hr | hr
        ·have := (r2 r hr).app l2
         simpa using this
        ·simp at hr; subst hr
         simpa using x3
       ·rw [List.flatten_append] at hj
        simp only [List.flatten_cons, List.flatten_nil, List.append_nil] at hj
        by_cases hjl : j < rows.flatten.length
        ·rw [List.getElem?_append_left hjl] at hj
         obtain ⟨q1, v, q2, q3⟩ := r3 j x hj
         exact ⟨q1, v, q2, q3.mono e2⟩
        ·rw [List.getElem?_append_right (by omega)] at hj
         have hjx := getElem?_lt hj
         have hxl : xs.length = cs.length := x1.1
         have hcj := hcc (j - rows.flatten.length) (by omega)
         obtain ⟨v, hv, hr⟩ := x1.get hj
         refine ⟨x2 x (List.mem_of_getElem? hj), v, ?_, hr⟩
         rw [hv, hfl] at hcj
         have hs := hspot (by omega)
         obtain ⟨ab, ao, sp⟩ := a
         simp only at hs
         subst hs
         rw [← hc.1] at hcj
         have ea : (({ block := ab, off := ao, spot := none } : Addr).add (k * ls.length)).add (j - k * ls.length) = ⟨ab, ao + j, none⟩ := by
          have : ∀ (m : Nat), ({ block := ab, off := ao, spot := none } : Addr).add m = ⟨ab, ao + m, none⟩ := fun m => dp ab ao m
          rw [this, dp]
          congr 1; omega
         rw [ea] at hcj
         exact hcj
     obtain ⟨E1, l1, rows, e1, t1, r1, r2, r3⟩ := all len (Nat.le_refl _)
     have hfl : rows.flatten.length = len * ls.length := by rw [kg rows (fun r hr => (r2 r hr).1), r1]
     obtain ⟨E2, e2, t2, hrel⟩ := t1.push (a := a) (len := len) (cap := cap) (es := ls.length) (xs := rows.flatten) hspot hc.2 hfl hlc hcm r3 (fun h0 => hrowlt 0 (by
      rcases Nat.eq_zero_or_pos len with hl0 | hl0
      ·rw [hfl, hl0] at h0; simp at h0
      ·exact hl0))
     refine ⟨E2, l1 ++ [.cells false ls.length rows.flatten], .sl (some ((H ++ l1).length, 0)) len none, e1.trans e2, by simpa using t2, hrel, rfl, ?_⟩
     unfold LTy
     rw [ht]
     refine ⟨(H ++ l1).length, rows, ls, by rw [r1], hls, by omega, ?_, fun r hr => ?_⟩
     ·rw [← List.append_assoc, List.getElem?_append_right (Nat.le_refl _), Nat.sub_self]; rfl
     ·have := (r2 r hr).app [.cells false ls.length rows.flatten]
      rw [List.append_assoc] at this
      exact this
   ·cases h
  ·rename_i fs ht
   unfold eo at hp; rw [ht] at hp; cases hp
  ·cases h
theorem tAgg_leaf {t : TypeId} (h : eo P t = true) : aT P t = some false := by
 unfold eo at h
 unfold aT
 split at h <;> first | (rename_i h1; rw [h1]) | cases h
theorem open_arg {r : Reach} {b0 : Nat} {n : Nat} {t : TypeId} {v : Value} {d : DataW K} {p : List MemPlace} {ls : List TypeId} (hl : bQ P n t = some ls) (hok : Value.okWide P w r b0 t v) (h : DataW.Trod enc P w base (fun _ => true) held t v d p) {E : Env} {H : ac} (hT : Top E H w) :
  ∃ (E' : Env) (l : ac) (x : AV), E.le E' ∧ Top E' (H ++ l) w ∧ Rel E' x v ∧ ATy P (H ++ l) n t x := by
 obtain ⟨fuel, hf⟩ := h
 cases n with
 | zero => simp [bQ] at hl
 | succ n =>
  have hl0 := hl
  have leaf : ∀ (hp : eo P t = true) (hs : bQ P (n + 1) t = some [t]) (hv : v.cells.toList = [v]), ∃ (E' : Env) (l : ac) (x : AV), E.le E' ∧ Top E' (H ++ l) w ∧ Rel E' x v ∧ ATy P (H ++ l) (n + 1) t x := fun hp hs hv => by
   rw [hv] at hf
   obtain ⟨E', l, x, e1, t1, r1, o1, y1⟩ := iV (n + 1) t v fuel _ hp hs hf E H hT
   exact ⟨E', l, x, e1, t1, r1, [t], [x], hs, ⟨rfl, fun j l y hj hy => by cases j with
    | zero => simp at hj hy; subst hj hy; exact y1
    | succ j => simp at hj⟩, .inr ⟨tAgg_leaf hp, rfl⟩⟩
  unfold bQ at hl
  split at hl
  ·rename_i k ht
   simp at hl; subst hl
   obtain ⟨z, rfl⟩ := okWide_int ht hok
   exact leaf (by unfold eo; rw [ht]) hl0 rfl
  ·rename_i ht
   simp at hl; subst hl
   obtain ⟨z, rfl⟩ := okWide_bool ht hok
   exact leaf (by unfold eo; rw [ht]) hl0 rfl
  ·rename_i e ht
   obtain ⟨l, h1, h2⟩ := am hl
   split at h2
   ·simp at h2; subst h2
    obtain ⟨a, b, c, rfl⟩ := okWide_slice ht hok
    exact leaf (by unfold eo; rw [ht]) hl0 rfl
   ·cases h2
  ·rename_i fs ht
   obtain ⟨cs, rfl, hsz⟩ := okWide_struct ht hok
   have hr := gR (n + 1) t ls hl0 fuel _ _ hf
   obtain ⟨E', l, xs, e1, t1, r1, o1, y1⟩ := kf (iV (n + 1)) ls _ (fun l hl => im _ _ _ hl0 l hl) hr E H hT
   refine ⟨E', l, .agg xs, e1, t1, ?_, ls, xs, hl0, y1, .inl ⟨by unfold aT; rw [ht], rfl⟩⟩
   have := RelL.agg r1
   simpa [Value.cells] using this
  ·cases hl
theorem mB {r : Reach} {b0 n : Nat} : ∀ (ts : List TypeId) (vs : List Value) (ds : List (DataW K)) (p : List MemPlace), DataW.TrodAll enc P w base (fun _ => true) held ts vs ds p →
  (∀ (j : Nat) (t : TypeId) (v : Value), ts[j]? = some t → vs[j]? = some v → Value.okWide P w r b0 t v) → (ts.all fun t => (bQ P n t).isSome) = true → ∀ (E : Env) (H : ac), Top E H w →
  ∃ (E' : Env) (l : ac) (xs : List AV), E.le E' ∧ Top E' (H ++ l) w ∧ RelL E' xs vs ∧ xs.length = ts.length ∧ ∀ (j : Nat) (t : TypeId) (x : AV), ts[j]? = some t → xs[j]? = some x → ATy P (H ++ l) n t x
 | [], [], [], _, _, _, _, E, H, hT => ⟨E, [], [], .refl E, by simpa using hT, .nil E, rfl, fun j t x h => by simp at h⟩
 | t :: ts, v :: vs, d :: ds, _, h, hok, hl, E, H, hT => by
  obtain ⟨p, q, h1, h2, -⟩ := h
  simp only [List.all_cons, Bool.and_eq_true] at hl
  obtain ⟨ls, hls⟩ := Option.isSome_iff_exists.1 hl.1
  obtain ⟨E1, l1, x, e1, t1, r1, y1⟩ := open_arg hls (hok 0 t v rfl rfl) h1 hT
  obtain ⟨E2, l2, xs, e2, t2, r2, n2, y2⟩ := mB ts vs ds q h2 (fun j t v a b => hok (j + 1) t v (by simpa using a) (by simpa using b)) hl.2 E1 (H ++ l1) t1
  refine ⟨E2, l1 ++ l2, x :: xs, e1.trans e2, by simpa using t2, .cons (r1.mono e2) r2, by simp [n2], fun j t' x' a b => ?_⟩
  cases j with
  | zero =>
   simp at a b; subst a b
   have := y1.app l2
   simpa using this
  | succ j =>
   have := y2 j t' x' (by simpa using a) (by simpa using b)
   simpa using this
 | [], _ :: _, _, _, h, _, _, _, _, _ => by simp [DataW.TrodAll] at h
 | [], [], _ :: _, _, h, _, _, _, _, _ => by simp [DataW.TrodAll] at h
 | _ :: _, [], _, _, h, _, _, _, _, _ => by simp [DataW.TrodAll] at h
 | _ :: _, _ :: _, [], _, h, _, _, _, _, _ => by simp [DataW.TrodAll] at h
theorem calls_top {r : Reach} {b0 n : Nat} {f : FuncId} {ts : List TypeId} {vs : List Value} {ds : List (DataW K)} {p : List MemPlace} (hA : DataW.TrodAll enc P w base (fun _ => true) held ts vs ds p)
  (hok : ∀ (j : Nat) (t : TypeId) (v : Value), ts[j]? = some t → vs[j]? = some v → Value.okWide P w r b0 t v) (hl : (ts.all fun t => (bQ P n t).isSome) = true)
  (hc : ∀ (H : ac) (xs : List AV), xs.length = ts.length → (∀ (j : Nat) (t : TypeId) (x : AV), ts[j]? = some t → xs[j]? = some x → ATy P H n t x) → ACalls P f xs H (fun v H' => v = .bool true ∧ H' = H)) :
  Calls P f vs.toArray w fun e w' => e = .returned (.bool true) ∧ Below w.heap.size w w' := by
 have hT0 : Top ⟨w.heap.size, w, 0, fun _ => ⟨0, 0, 0, 0⟩⟩ [] w := ⟨⟨rfl, .refl _ _, Nat.le_refl _, fun b x h => by simp at h, fun b c x y h => by simp at h⟩, rfl, rfl⟩
 obtain ⟨E, l, xs, -, hT, hr, hn, hy⟩ := mB ts vs ds p hA hok hl _ [] hT0
 refine (hc ([] ++ l) xs hn hy E w vs hT.emb hr).mono fun e w' ⟨E', v, H', x, he, ⟨hx, _⟩, hle, hrel, hemb⟩ => ⟨?_, ?_⟩
 ·subst hx; cases hrel; exact he
 ·have := hemb.below
  rw [hle.B, hle.w0, hT.B, hT.w0] at this
  exact this
end
section
variable {P : Program} {H : ac} {n : Nat}
def IsP (H : ac) (s : AV) (l : List (Int × Int)) : Prop := (l = [] ∧ s = .sl none 0 (some 0)) ∨ ∃ b own cap, s = .sl (some (b, 0)) l.length cap ∧ H[b]? = some (.cells own 2 (prs l))
theorem IsP.app {s : AV} {l : List (Int × Int)} (h : IsP H s l) (l' : ac) : IsP (H ++ l') s l := by
 rcases h with h | ⟨b, own, cap, h1, h2⟩
 ·exact .inl h
 ·exact .inr ⟨b, own, cap, h1, aq h2⟩
def IsI (H : ac) (k : IntKind) (s : AV) (l : List Int) : Prop := (l = [] ∧ s = .sl none 0 (some 0)) ∨ ∃ b own cap, s = .sl (some (b, 0)) l.length cap ∧ H[b]? = some (.cells own 1 (ints k l))
theorem IsI.app {k : IntKind} {s : AV} {l : List Int} (h : IsI H k s l) (l' : ac) : IsI (H ++ l') k s l := by
 rcases h with h | ⟨b, own, cap, h1, h2⟩
 ·exact .inl h
 ·exact .inr ⟨b, own, cap, h1, aq h2⟩
theorem RTy.cons {t : TypeId} {ls : List TypeId} {r : List AV} (h : RTy P H n (t :: ls) r) : ∃ y r', r = y :: r' ∧ LTy P H n t y ∧ RTy P H n ls r' := by
 cases r with
 | nil => have := h.1; simp at this
 | cons y r => exact ⟨y, r, rfl, h.2 0 t y rfl rfl, by have := h.1; simpa using this, fun j l u a b => h.2 (j + 1) l u (by simpa using a) (by simpa using b)⟩
theorem RTy.nil {r : List AV} (h : RTy P H n [] r) : r = [] := List.eq_nil_of_length_eq_zero h.1
theorem LTy.int {t : TypeId} {k : IntKind} {x : AV} (ht : P.underlying t = some (.int k)) (h : LTy P H (n + 1) t x) : ∃ z, x = .int k z ∧ (Lit.int k z).wf = true := by
 unfold LTy at h; rw [ht] at h; exact h
theorem LTy.bool {t : TypeId} {x : AV} (ht : P.underlying t = some .bool) (h : LTy P H (n + 1) t x) : ∃ b, x = .bool b := by
 unfold LTy at h; rw [ht] at h; exact h
theorem LTy.slice {t e : TypeId} {x : AV} {ls : List TypeId} (ht : P.underlying t = some (.slice e)) (hl : bQ P n e = some ls) (h : LTy P H (n + 1) t x) :
  ∃ (b : Nat) (rows : List (List AV)), x = .sl (some (b, 0)) rows.length none ∧ rows.length ≤ maxLen ∧ H[b]? = some (.cells false ls.length rows.flatten) ∧ ∀ r : List AV, r ∈ rows → RTy P H n ls r := by
 unfold LTy at h; rw [ht] at h
 obtain ⟨b, rows, ls', h1, h2, h3, h4, h5⟩ := h
 rw [hl] at h2; simp at h2; subst h2
 exact ⟨b, rows, h1, h3, h4, h5⟩
theorem ATy.agg {t : TypeId} {x : AV} {ls : List TypeId} (hl : bQ P n t = some ls) (ha : aT P t = some true) (h : ATy P H n t x) : ∃ xs, x = .agg xs ∧ RTy P H n ls xs := by
 obtain ⟨ls', xs, h1, h2, h3⟩ := h
 rw [hl] at h1; simp at h1; subst h1
 rcases h3 with ⟨-, h3⟩ | ⟨h3, -⟩
 ·exact ⟨xs, h3, h2⟩
 ·rw [ha] at h3; cases h3
theorem ATy.one {t : TypeId} {x : AV} (hl : bQ P n t = some [t]) (ha : aT P t = some false) (h : ATy P H n t x) : LTy P H n t x := by
 obtain ⟨ls', xs, h1, h2, h3⟩ := h
 rw [hl] at h1; simp at h1; subst h1
 rcases h3 with ⟨h3, -⟩ | ⟨-, h3⟩
 ·rw [ha] at h3; cases h3
 ·subst h3; exact h2.2 0 t x rfl rfl
theorem iW {k : IntKind} {t : TypeId} (ht : P.underlying t = some (.int k)) : ∀ rows : List (List AV), (∀ r : List AV, r ∈ rows → RTy P H (n + 1) [t] r) → ∃ l : List Int, l.length = rows.length ∧ rows.flatten = ints k l ∧ ∀ z ∈ l, (Lit.int k z).wf = true
 | [], _ => ⟨[], rfl, rfl, fun z h => by simp at h⟩
 | r :: rows, h => by
  obtain ⟨l, h1, h2, h3⟩ := iW ht rows fun r' hr => h r' (by simp [hr])
  obtain ⟨y, r', rfl, hy, hr⟩ := (h r (by simp)).cons
  obtain rfl := hr.nil
  obtain ⟨z, rfl, hz⟩ := hy.int ht
  exact ⟨z :: l, by simp [h1], by simp [h2, ints], fun z' h' => by
   rcases List.mem_cons.1 h' with rfl | h'
   ·exact hz
   ·exact h3 _ h'⟩
theorem LTy.ints {t e : TypeId} {k : IntKind} {x : AV} (ht : P.underlying t = some (.slice e)) (he : P.underlying e = some (.int k)) (hl : bQ P (n + 1) e = some [e]) (h : LTy P H (n + 2) t x) : ∃ l : List Int, IsI H k x l ∧ l.length ≤ maxLen ∧ ∀ z ∈ l, (Lit.int k z).wf = true := by
 obtain ⟨b, rows, rfl, h1, h2, h3⟩ := h.slice ht hl
 obtain ⟨l, k1, k2, k3⟩ := iW he rows h3
 exact ⟨l, .inr ⟨b, false, none, by rw [k1], by rw [← k2]; exact h2⟩, by omega, k3⟩
end
set_option linter.unusedSimpArgs false
set_option linter.unusedVariables false
open Go.RowKit
theorem amset0 : type_of% (aiX @Int.natCast_zero <| And.intro (@gt_iff_lt.{0}) <| And.intro (@ge_iff_le.{0}) <| aiX @go_skip <| aiX @go_label <| aiX @go_seq <| aiX @go_block <| aiX @go_endB <| aiX @go_exit <| aiX @mu <| aiX @mw <| aiX @pT <| aiX @go_ret <| aiX @go_cond <| aiX @cond_t <| aiX @cond_f <| aiX @go_region <| aiX @go_regionD <| aiX @go_ops_nil <| aiX @go_opsD_nil <| aiX @go_ops <| aiX @go_opsD <| And.intro (@Option.getD_some.{0}) <| (@mm)) :=
 aiX @Int.natCast_zero <| And.intro (@gt_iff_lt.{0}) <| And.intro (@ge_iff_le.{0}) <| aiX @go_skip <| aiX @go_label <| aiX @go_seq <| aiX @go_block <| aiX @go_endB <| aiX @go_exit <| aiX @mu <| aiX @mw <| aiX @pT <| aiX @go_ret <| aiX @go_cond <| aiX @cond_t <| aiX @cond_f <| aiX @go_region <| aiX @go_regionD <| aiX @go_ops_nil <| aiX @go_opsD_nil <| aiX @go_ops <| aiX @go_opsD <| And.intro (@Option.getD_some.{0}) <| (@mm)
theorem amset1 : type_of% (aiX @mo <| aiX @mq <| aiX @mr <| aiX @pS <| aiX @k_some <| aiX @kR <| aiX @kS <| aiX @jQ <| aiX @k_cond <| And.intro (@bne_self_eq_false.{0}) <| aiX @Nat.add_sub_cancel <| aiX @my <| aiX @mz <| And.intro (@if_true.{1}) <| And.intro (@if_false.{1}) <| aiX @pU <| aiX @Int.toNat_natCast <| aiX @ag <| aiX @aj <| aiX @pV <| aiX @ik <| aiX @len_lit <| aiX @pW <| (@cond_true.{1})) :=
 aiX @mo <| aiX @mq <| aiX @mr <| aiX @pS <| aiX @k_some <| aiX @kR <| aiX @kS <| aiX @jQ <| aiX @k_cond <| And.intro (@bne_self_eq_false.{0}) <| aiX @Nat.add_sub_cancel <| aiX @my <| aiX @mz <| And.intro (@if_true.{1}) <| And.intro (@if_false.{1}) <| aiX @pU <| aiX @Int.toNat_natCast <| aiX @ag <| aiX @aj <| aiX @pV <| aiX @ik <| aiX @len_lit <| aiX @pW <| (@cond_true.{1})
theorem amset2 : type_of% (And.intro (@cond_false.{1}) <| And.intro (@List.map_cons.{0, 0}) <| And.intro (@List.map_nil.{0, 0}) <| And.intro (@Option.map_some.{0, 0}) <| And.intro (@Option.map_none.{0, 0}) <| And.intro (@Option.bind_some.{0, 0}) <| And.intro (@Option.bind_none.{0, 0}) <| And.intro (@Option.map_map.{0, 0, 0}) <| And.intro (@Option.map_bind.{0, 0, 0}) <| And.intro (@Option.bind_map.{0, 0, 0}) <| And.intro (@Function.comp_apply.{1, 1, 1}) <| And.intro (@List.cons_append.{0}) <| And.intro (@List.nil_append.{0}) <| And.intro (@List.append_assoc.{0}) <| And.intro (@List.append_nil.{0}) <| And.intro (@List.length_cons.{0}) <| And.intro (@List.length_nil.{0}) <| aiX @Nat.zero_add <| aiX @Nat.add_zero <| And.intro (@List.getElem?_cons_zero.{0}) <| And.intro (@List.getElem?_cons_succ.{0}) <| And.intro (@List.set_cons_zero.{0}) <| And.intro (@List.set_cons_succ.{0}) <| (@List.all_cons.{0})) :=
 And.intro (@cond_false.{1}) <| And.intro (@List.map_cons.{0, 0}) <| And.intro (@List.map_nil.{0, 0}) <| And.intro (@Option.map_some.{0, 0}) <| And.intro (@Option.map_none.{0, 0}) <| And.intro (@Option.bind_some.{0, 0}) <| And.intro (@Option.bind_none.{0, 0}) <| And.intro (@Option.map_map.{0, 0, 0}) <| And.intro (@Option.map_bind.{0, 0, 0}) <| And.intro (@Option.bind_map.{0, 0, 0}) <| And.intro (@Function.comp_apply.{1, 1, 1}) <| And.intro (@List.cons_append.{0}) <| And.intro (@List.nil_append.{0}) <| And.intro (@List.append_assoc.{0}) <| And.intro (@List.append_nil.{0}) <| And.intro (@List.length_cons.{0}) <| And.intro (@List.length_nil.{0}) <| aiX @Nat.zero_add <| aiX @Nat.add_zero <| And.intro (@List.getElem?_cons_zero.{0}) <| And.intro (@List.getElem?_cons_succ.{0}) <| And.intro (@List.set_cons_zero.{0}) <| And.intro (@List.set_cons_succ.{0}) <| (@List.all_cons.{0})
theorem amset3 : type_of% (And.intro (@List.all_nil.{0}) <| aiX @Bool.and_true <| aiX @Bool.true_and <| aiX @Bool.and_self <| And.intro (@List.drop_zero.{0}) <| And.intro (@List.drop_succ_cons.{0}) <| And.intro (@List.take_succ_cons.{0}) <| And.intro (@List.take_zero.{0}) <| And.intro (@List.drop_nil.{0}) <| And.intro (@List.take_nil.{0}) <| And.intro (@beq_self_eq_true.{0}) <| aiX @true_and <| aiX @and_true <| aiX @Nat.lt_add_one <| aiX @decide_true <| aiX @decide_false <| aiX @Bool.not_true <| aiX @Bool.not_false <| aiX @Bool.or_true <| aiX @Bool.or_false <| aiX @Bool.false_or <| aiX @Bool.true_or <| aiX @beq_true <| (@beq_false)) :=
 And.intro (@List.all_nil.{0}) <| aiX @Bool.and_true <| aiX @Bool.true_and <| aiX @Bool.and_self <| And.intro (@List.drop_zero.{0}) <| And.intro (@List.drop_succ_cons.{0}) <| And.intro (@List.take_succ_cons.{0}) <| And.intro (@List.take_zero.{0}) <| And.intro (@List.drop_nil.{0}) <| And.intro (@List.take_nil.{0}) <| And.intro (@beq_self_eq_true.{0}) <| aiX @true_and <| aiX @and_true <| aiX @Nat.lt_add_one <| aiX @decide_true <| aiX @decide_false <| aiX @Bool.not_true <| aiX @Bool.not_false <| aiX @Bool.or_true <| aiX @Bool.or_false <| aiX @Bool.false_or <| aiX @Bool.true_or <| aiX @beq_true <| (@beq_false)
theorem amset4 : type_of% (aiX @lV <| aiX @rng0 <| aiX @rng1 <| aiX @rng2 <| aiX @rng3 <| aiX @rng4 <| aiX @rng5 <| aiX @rng6 <| aiX @rng7 <| aiX @rng8 <| aiX @rng9 <| aiX @rng10 <| aiX @rng11 <| aiX @rng12 <| aiX @rng16 <| aiX @ck <| aiX @kd <| aiX @bP <| aiX @gK <| aiX @iS <| aiX @iT <| aiX @bp <| And.intro (@List.length_append.{0}) <| (@Option.getD_none.{0})) :=
 aiX @lV <| aiX @rng0 <| aiX @rng1 <| aiX @rng2 <| aiX @rng3 <| aiX @rng4 <| aiX @rng5 <| aiX @rng6 <| aiX @rng7 <| aiX @rng8 <| aiX @rng9 <| aiX @rng10 <| aiX @rng11 <| aiX @rng12 <| aiX @rng16 <| aiX @ck <| aiX @kd <| aiX @bP <| aiX @gK <| aiX @iS <| aiX @iT <| aiX @bp <| And.intro (@List.length_append.{0}) <| (@Option.getD_none.{0})
theorem amset5 : type_of% (And.intro (@List.length_set.{0}) <| And.intro (@List.length_replicate.{0}) <| And.intro (@List.getD_cons_zero.{0}) <| And.intro (@List.getD_cons_succ.{0}) <| aiX @Nat.mul_one <| aiX @Nat.one_mul <| aiX @Nat.zero_mul <| (@Nat.mul_zero)) :=
 And.intro (@List.length_set.{0}) <| And.intro (@List.length_replicate.{0}) <| And.intro (@List.getD_cons_zero.{0}) <| And.intro (@List.getD_cons_succ.{0}) <| aiX @Nat.mul_one <| aiX @Nat.one_mul <| aiX @Nat.zero_mul <| (@Nat.mul_zero)
theorem amdef0 : type_of% (aiX @AGd.eq_1 <| aiX @AGd.eq_2 <| aiX @gdL.eq_1 <| aiX @gdL.eq_2 <| aiX @gdL.eq_3 <| aiX @lightOf.eq_1 <| aiX @dsts.eq_1 <| aiX @ADo.eq_1 <| aiX @lenV.eq_1 <| aiX @lenV.eq_2 <| aiX @aev.eq_1 <| aiX @aev.eq_2 <| aiX @aev.eq_3 <| aiX @aev.eq_4 <| aiX @look.eq_1 <| aiX @look.eq_2 <| aiX @putF.eq_1 <| aiX @putF.eq_2 <| aiX @AV.cells.eq_1 <| aiX @AV.cells.eq_2 <| aiX @AV.flat.eq_1 <| aiX @AV.flat.eq_2 <| aiX @AV.flat.eq_3 <| (@AV.flat.eq_4)) :=
 aiX @AGd.eq_1 <| aiX @AGd.eq_2 <| aiX @gdL.eq_1 <| aiX @gdL.eq_2 <| aiX @gdL.eq_3 <| aiX @lightOf.eq_1 <| aiX @dsts.eq_1 <| aiX @ADo.eq_1 <| aiX @lenV.eq_1 <| aiX @lenV.eq_2 <| aiX @aev.eq_1 <| aiX @aev.eq_2 <| aiX @aev.eq_3 <| aiX @aev.eq_4 <| aiX @look.eq_1 <| aiX @look.eq_2 <| aiX @putF.eq_1 <| aiX @putF.eq_2 <| aiX @AV.cells.eq_1 <| aiX @AV.cells.eq_2 <| aiX @AV.flat.eq_1 <| aiX @AV.flat.eq_2 <| aiX @AV.flat.eq_3 <| (@AV.flat.eq_4)
theorem amdef1 : type_of% (aiX @aAlloc.eq_1 <| aiX @aNew.eq_1 <| aiX @aBox.eq_1 <| aiX @aBuild.eq_1 <| aiX @afill.eq_1 <| aiX @afill.eq_2 <| aiX @splice.eq_1 <| aiX @splice.eq_2 <| aiX @aBuildSlice.eq_1 <| aiX @arep.eq_1 <| aiX @arep.eq_2 <| aiX @aLoad.eq_1 <| aiX @aLoad.eq_2 <| aiX @ard.eq_1 <| aiX @ards.eq_1 <| aiX @aStore.eq_1 <| aiX @aStore.eq_2 <| aiX @awrite.eq_1 <| aiX @aFieldAddr.eq_1 <| aiX @aFieldAddr.eq_2 <| aiX @aField.eq_1 <| aiX @aField.eq_2 <| aiX @aIndexAddr.eq_1 <| (@aIndexAddr.eq_2)) :=
 aiX @aAlloc.eq_1 <| aiX @aNew.eq_1 <| aiX @aBox.eq_1 <| aiX @aBuild.eq_1 <| aiX @afill.eq_1 <| aiX @afill.eq_2 <| aiX @splice.eq_1 <| aiX @splice.eq_2 <| aiX @aBuildSlice.eq_1 <| aiX @arep.eq_1 <| aiX @arep.eq_2 <| aiX @aLoad.eq_1 <| aiX @aLoad.eq_2 <| aiX @ard.eq_1 <| aiX @ards.eq_1 <| aiX @aStore.eq_1 <| aiX @aStore.eq_2 <| aiX @awrite.eq_1 <| aiX @aFieldAddr.eq_1 <| aiX @aFieldAddr.eq_2 <| aiX @aField.eq_1 <| aiX @aField.eq_2 <| aiX @aIndexAddr.eq_1 <| (@aIndexAddr.eq_2)
theorem amdef2 : type_of% (aiX @aIndexAddr.eq_3 <| aiX @aIndex.eq_1 <| aiX @aIndex.eq_2 <| aiX @aExtract.eq_1 <| aiX @aExtract.eq_2 <| aiX @aBound.eq_1 <| aiX @aBound.eq_2 <| aiX @aBound.eq_3 <| aiX @aSlice.eq_1 <| aiX @aSlice.eq_2 <| aiX @aSlice.eq_3 <| aiX @aInt.eq_1 <| aiX @aInt.eq_2 <| aiX @aInt.eq_3 <| aiX @aInt.eq_4 <| aiX @aInt.eq_5 <| aiX @aInt.eq_6 <| aiX @aInt.eq_7 <| aiX @aInt.eq_8 <| aiX @aInt.eq_9 <| aiX @aInt.eq_10 <| aiX @aInt.eq_11 <| aiX @aInt.eq_12 <| (@aInt.eq_13)) :=
 aiX @aIndexAddr.eq_3 <| aiX @aIndex.eq_1 <| aiX @aIndex.eq_2 <| aiX @aExtract.eq_1 <| aiX @aExtract.eq_2 <| aiX @aBound.eq_1 <| aiX @aBound.eq_2 <| aiX @aBound.eq_3 <| aiX @aSlice.eq_1 <| aiX @aSlice.eq_2 <| aiX @aSlice.eq_3 <| aiX @aInt.eq_1 <| aiX @aInt.eq_2 <| aiX @aInt.eq_3 <| aiX @aInt.eq_4 <| aiX @aInt.eq_5 <| aiX @aInt.eq_6 <| aiX @aInt.eq_7 <| aiX @aInt.eq_8 <| aiX @aInt.eq_9 <| aiX @aInt.eq_10 <| aiX @aInt.eq_11 <| aiX @aInt.eq_12 <| (@aInt.eq_13)
theorem amdef3 : type_of% (aiX @aInt.eq_14 <| aiX @aInt.eq_15 <| aiX @aInt.eq_16 <| aiX @aInt.eq_17 <| aiX @aUn.eq_1 <| aiX @aUn.eq_2 <| aiX @aUn.eq_3 <| aiX @aLen.eq_1 <| aiX @aLen.eq_2 <| aiX @aLen.eq_3 <| aiX @aLen.eq_4 <| aiX @aElems.eq_1 <| aiX @aElems.eq_2 <| aiX @aElems.eq_3 <| aiX @aCopy.eq_1 <| aiX @aMin2.eq_1 <| aiX @aMin2.eq_2 <| aiX @aMax2.eq_1 <| aiX @aMax2.eq_2 <| aiX @aFold.eq_1 <| aiX @aFold.eq_2 <| aiX @aBuiltin.eq_1 <| aiX @aBuiltin.eq_2 <| (@aBuiltin.eq_3)) :=
 aiX @aInt.eq_14 <| aiX @aInt.eq_15 <| aiX @aInt.eq_16 <| aiX @aInt.eq_17 <| aiX @aUn.eq_1 <| aiX @aUn.eq_2 <| aiX @aUn.eq_3 <| aiX @aLen.eq_1 <| aiX @aLen.eq_2 <| aiX @aLen.eq_3 <| aiX @aLen.eq_4 <| aiX @aElems.eq_1 <| aiX @aElems.eq_2 <| aiX @aElems.eq_3 <| aiX @aCopy.eq_1 <| aiX @aMin2.eq_1 <| aiX @aMin2.eq_2 <| aiX @aMax2.eq_1 <| aiX @aMax2.eq_2 <| aiX @aFold.eq_1 <| aiX @aFold.eq_2 <| aiX @aBuiltin.eq_1 <| aiX @aBuiltin.eq_2 <| (@aBuiltin.eq_3)
theorem amdef4 : type_of% (aiX @aBuiltin.eq_4 <| aiX @aBuiltin.eq_5 <| aiX @aBuiltin.eq_6 <| aiX @aBuiltin.eq_7 <| aiX @aBuiltin.eq_8 <| aiX @aClear.eq_1 <| aiX @aMakeSlice.eq_1 <| aiX @aMakeSlice.eq_2 <| aiX @aMapUpdate.eq_1 <| aiX @aMapUpdate.eq_2 <| aiX @aDelete.eq_1 <| aiX @aDelete.eq_2 <| aiX @aLookup.eq_1 <| aiX @argF.eq_1 <| aiX @argF.eq_2 <| aiX @isSh.eq_1 <| aiX @isSh.eq_2 <| aiX @isSh.eq_3 <| aiX @aRes.eq_1 <| aiX @aRes.eq_2 <| aiX @aRes.eq_3 <| aiX @one1.eq_1 <| aiX @one1.eq_2 <| (@or_false)) :=
 aiX @aBuiltin.eq_4 <| aiX @aBuiltin.eq_5 <| aiX @aBuiltin.eq_6 <| aiX @aBuiltin.eq_7 <| aiX @aBuiltin.eq_8 <| aiX @aClear.eq_1 <| aiX @aMakeSlice.eq_1 <| aiX @aMakeSlice.eq_2 <| aiX @aMapUpdate.eq_1 <| aiX @aMapUpdate.eq_2 <| aiX @aDelete.eq_1 <| aiX @aDelete.eq_2 <| aiX @aLookup.eq_1 <| aiX @argF.eq_1 <| aiX @argF.eq_2 <| aiX @isSh.eq_1 <| aiX @isSh.eq_2 <| aiX @isSh.eq_3 <| aiX @aRes.eq_1 <| aiX @aRes.eq_2 <| aiX @aRes.eq_3 <| aiX @one1.eq_1 <| aiX @one1.eq_2 <| (@or_false)
theorem amdef5 : type_of% (aiX @or_true <| (@true_or)) :=
 aiX @or_true <| (@true_or)
theorem amdef : type_of% (aiX @amdef0 <| aiX @amdef1 <| aiX @amdef2 <| aiX @amdef3 <| aiX @amdef4 <| (@amdef5)) :=
 aiX @amdef0 <| aiX @amdef1 <| aiX @amdef2 <| aiX @amdef3 <| aiX @amdef4 <| (@amdef5)
theorem pZ : type_of% (aiX @Bool.not_eq_true' <| aiX @Bool.not_eq_false' <| aiX @decide_eq_true_eq <| aiX @decide_eq_false_iff_not <| And.intro (@beq_iff_eq Int _ _) <| And.intro (@bne_iff_ne Int _ _) <| aiX @Bool.not_eq_true <| aiX @Bool.not_eq_false <| And.intro (@beq_eq_false_iff_ne Int _ _) <| And.intro (@bne_eq_false_iff_eq Int _ _) <| aiX @Classical.not_not <| aiX @Bool.and_eq_true <| (@Bool.and_eq_false_imp)) :=
 aiX @Bool.not_eq_true' <| aiX @Bool.not_eq_false' <| aiX @decide_eq_true_eq <| aiX @decide_eq_false_iff_not <| And.intro (@beq_iff_eq Int _ _) <| And.intro (@bne_iff_ne Int _ _) <| aiX @Bool.not_eq_true <| aiX @Bool.not_eq_false <| And.intro (@beq_eq_false_iff_ne Int _ _) <| And.intro (@bne_eq_false_iff_eq Int _ _) <| aiX @Classical.not_not <| aiX @Bool.and_eq_true <| (@Bool.and_eq_false_imp)
theorem boolset : type_of% ((@pZ)) :=
 (@pZ)
theorem aF : type_of% (aiX @amset0 <| aiX @amset1 <| aiX @amset2 <| aiX @amset3 <| aiX @amset4 <| aiX @amset5 <| (@amdef)) :=
 aiX @amset0 <| aiX @amset1 <| aiX @amset2 <| aiX @amset3 <| aiX @amset4 <| aiX @amset5 <| (@amdef)
theorem jn {a b : Prop} (x : a) (y : b) : a ∧ b := ⟨x, y⟩
theorem ai {P : Program} {fn : Func} {F : Fr} {H : ac} {l : List ResultVar} {x : AV} (h1 : fn.results = l.toArray) (h2 : (aRes P l F H).map one1 = some x := by simp -implicitDefEqProofs (disch := omega) only [simprocAttr, aF, aG, Function.comp_apply, one1, lenV, ap, az, aA, aop, AV.ofValue, AV.ofCell, AV.cells, AV.flat, AV.one, arep, aP, av, aE]) : cM P fn F H = some x := ret_of h1 h2
theorem resTf {r : Prop} (f : r) {P : Program} {fn : Func} {F : Fr} {H : ac} {l : List ResultVar} {x : AV} (h1 : fn.results = l.toArray) (h2 : r → (aRes P l F H).map one1 = some x := by intro hs; simp -implicitDefEqProofs (disch := omega) only [hs, simprocAttr, aF, aG, Function.comp_apply, one1, lenV, ap, az, aA, aop, AV.ofValue, AV.ofCell, AV.cells, AV.flat, AV.one, arep, aP, av, aE]) : cM P fn F H = some x := ret_of h1 (h2 f)
theorem absT {p : Prop} (h : p := by
 simp -implicitDefEqProofs (disch := omega) only [er, eu, ge, gX, ii, jm, gc, fc, fe, ff, gf, look, List.cons_append, List.nil_append, List.append_nil, List.length_cons, List.length_nil, Nat.zero_add, Nat.reduceAdd, AV.mv, AV.mvs, ABlk.mv, fh, fi, gy, List.getElem?_cons_zero, List.getElem?_cons_succ, d8, d9, fj, dN, cond_true, cond_false, beq_self_eq_true, Nat.reduceBEq, true_and, and_true, or_true, true_or, and_self, decide_true, Nat.add_zero, reduceCtorEq, false_or, or_false]
 repeat' (first | exact True.intro | exact Nat.add_lt_add_left (by decide) _ | exact Nat.lt_add_of_pos_right (by decide) | refine dj ?_ (Or.inr rfl) | refine dj ?_ (Or.inl rfl) | refine de ?_ (Or.inr rfl) | refine de ?_ (Or.inl rfl) | exact ij | rfl | refine And.intro ?_ ?_ | exact Or.inl rfl | exact Or.inr rfl | exact Or.inr (Or.inl rfl) | exact Or.inr (Or.inr BW.emp) | exact Or.inr BW.emp | exact BW.emp | exact Or.inr (Or.inr BW.pre) | exact Or.inr BW.pre | exact BW.pre | refine Or.inr (BW.cells ?_) | refine BW.cells ?_ | refine Or.inr (Or.inr (BW.cells ?_)) | exact gw)) : p := h
theorem absTf {p r : Prop} (f : r) (h : r → p := by
 intro hs
 simp -implicitDefEqProofs (disch := omega) only [hs, er, eu, ge, gX, ii, jm, gc, fc, fe, ff, gf, look, List.cons_append, List.nil_append, List.append_nil, List.length_cons, List.length_nil, Nat.zero_add, Nat.reduceAdd, AV.mv, AV.mvs, ABlk.mv, fh, fi, gy, List.getElem?_cons_zero, List.getElem?_cons_succ, d8, d9, fj, dN, cond_true, cond_false, beq_self_eq_true, Nat.reduceBEq, true_and, and_true, or_true, true_or, and_self, decide_true, Nat.add_zero, reduceCtorEq, false_or, or_false]
 repeat' (first | exact True.intro | exact Nat.add_lt_add_left (by decide) _ | exact Nat.lt_add_of_pos_right (by decide) | refine dj ?_ (Or.inr rfl) | refine dj ?_ (Or.inl rfl) | refine de ?_ (Or.inr rfl) | refine de ?_ (Or.inl rfl) | exact ij | rfl | refine And.intro ?_ ?_ | exact Or.inl rfl | exact Or.inr rfl | exact Or.inr (Or.inl rfl) | exact Or.inr (Or.inr BW.emp) | exact Or.inr BW.emp | exact BW.emp | exact Or.inr (Or.inr BW.pre) | exact Or.inr BW.pre | exact BW.pre | refine Or.inr (BW.cells ?_) | refine BW.cells ?_ | refine Or.inr (Or.inr (BW.cells ?_)) | exact gw)) : p := h f
theorem aW {p : Prop} (h : p := by
 simp -implicitDefEqProofs (disch := omega) only [lw, lx, ly, js, jt, ju, er, eu, ge, gX, ii, jm, gc, fc, fe, ff, gf, look, List.cons_append, List.nil_append, List.append_nil, List.length_cons, List.length_nil, Nat.zero_add, Nat.reduceAdd, AV.mv, AV.mvs, ABlk.mv, fh, fi, gy, List.getElem?_cons_zero, List.getElem?_cons_succ, d8, d9, fj, dN, cond_true, cond_false, beq_self_eq_true, Nat.reduceBEq, true_and, and_true, or_true, true_or, and_self, decide_true, Nat.add_zero, reduceCtorEq, false_or, or_false]
 repeat' (first | exact True.intro | exact Nat.add_lt_add_left (by decide) _ | exact Nat.lt_add_of_pos_right (by decide) | refine dj ?_ (Or.inr rfl) | refine dj ?_ (Or.inl rfl) | refine de ?_ (Or.inr rfl) | refine de ?_ (Or.inl rfl) | exact ij | rfl | refine And.intro ?_ ?_ | exact Or.inl rfl | exact Or.inr rfl | exact Or.inr (Or.inl rfl) | exact Or.inr (Or.inr BW.emp) | exact Or.inr BW.emp | exact BW.emp | exact Or.inr (Or.inr BW.pre) | exact Or.inr BW.pre | exact BW.pre | refine Or.inr (BW.cells ?_) | refine BW.cells ?_ | refine Or.inr (Or.inr (BW.cells ?_)) | exact gw)) : p := h
theorem aV {p r : Prop} (f : r) (h : r → p := by
 intro hs
 simp -implicitDefEqProofs (disch := omega) only [hs, lw, lx, ly, js, jt, ju, er, eu, ge, gX, ii, jm, gc, fc, fe, ff, gf, look, List.cons_append, List.nil_append, List.append_nil, List.length_cons, List.length_nil, Nat.zero_add, Nat.reduceAdd, AV.mv, AV.mvs, ABlk.mv, fh, fi, gy, List.getElem?_cons_zero, List.getElem?_cons_succ, d8, d9, fj, dN, cond_true, cond_false, beq_self_eq_true, Nat.reduceBEq, true_and, and_true, or_true, true_or, and_self, decide_true, Nat.add_zero, reduceCtorEq, false_or, or_false]
 repeat' (first | exact True.intro | exact Nat.add_lt_add_left (by decide) _ | exact Nat.lt_add_of_pos_right (by decide) | refine dj ?_ (Or.inr rfl) | refine dj ?_ (Or.inl rfl) | refine de ?_ (Or.inr rfl) | refine de ?_ (Or.inl rfl) | exact ij | rfl | refine And.intro ?_ ?_ | exact Or.inl rfl | exact Or.inr rfl | exact Or.inr (Or.inl rfl) | exact Or.inr (Or.inr BW.emp) | exact Or.inr BW.emp | exact BW.emp | exact Or.inr (Or.inr BW.pre) | exact Or.inr BW.pre | exact BW.pre | refine Or.inr (BW.cells ?_) | refine BW.cells ?_ | refine Or.inr (Or.inr (BW.cells ?_)) | exact gw)) : p := h f
theorem eZ {p : Prop} (h : p := by
 simp -implicitDefEqProofs (disch := omega) only [List.length_append, List.length_cons, List.length_nil, dU, ownG_s, lq, lr, ah, cG, gY, sM, o7, kh, o8, lu, o9, lw, lx, ly, js, jt, ju, er, eu, ge, gX, ii, jm, gc, fc, fe, ff, gf, look, List.cons_append, List.nil_append, List.append_nil, List.length_cons, List.length_nil, Nat.zero_add, Nat.reduceAdd, AV.mv, AV.mvs, ABlk.mv, fh, fi, gy, List.getElem?_cons_zero, List.getElem?_cons_succ, d8, d9, fj, dN, cond_true, cond_false, beq_self_eq_true, Nat.reduceBEq, true_and, and_true, or_true, true_or, and_self, decide_true, Nat.add_zero, reduceCtorEq, false_or, or_false]
 repeat' (first | exact True.intro | exact Nat.add_lt_add_left (by decide) _ | exact Nat.lt_add_of_pos_right (by decide) | refine dj ?_ (Or.inr rfl) | refine dj ?_ (Or.inl rfl) | refine de ?_ (Or.inr rfl) | refine de ?_ (Or.inl rfl) | exact ij | rfl | refine And.intro ?_ ?_ | exact Or.inl rfl | exact Or.inr rfl | exact Or.inr (Or.inl rfl) | exact Or.inr (Or.inr BW.emp) | exact Or.inr BW.emp | exact BW.emp | exact Or.inr (Or.inr BW.pre) | exact Or.inr BW.pre | exact BW.pre | refine Or.inr (BW.cells ?_) | refine BW.cells ?_ | refine Or.inr (Or.inr (BW.cells ?_)) | exact gw)) : p := h
theorem aD {p r : Prop} (f : r) (h : r → p := by
 intro hs
 simp -implicitDefEqProofs (disch := omega) only [hs, List.length_append, List.length_cons, List.length_nil, dU, ownG_s, lq, lr, ah, cG, gY, sM, o7, kh, o8, lu, o9, lw, lx, ly, js, jt, ju, er, eu, ge, gX, ii, jm, gc, fc, fe, ff, gf, look, List.cons_append, List.nil_append, List.append_nil, List.length_cons, List.length_nil, Nat.zero_add, Nat.reduceAdd, AV.mv, AV.mvs, ABlk.mv, fh, fi, gy, List.getElem?_cons_zero, List.getElem?_cons_succ, d8, d9, fj, dN, cond_true, cond_false, beq_self_eq_true, Nat.reduceBEq, true_and, and_true, or_true, true_or, and_self, decide_true, Nat.add_zero, reduceCtorEq, false_or, or_false]
 repeat' (first | exact True.intro | exact Nat.add_lt_add_left (by decide) _ | exact Nat.lt_add_of_pos_right (by decide) | refine dj ?_ (Or.inr rfl) | refine dj ?_ (Or.inl rfl) | refine de ?_ (Or.inr rfl) | refine de ?_ (Or.inl rfl) | exact ij | rfl | refine And.intro ?_ ?_ | exact Or.inl rfl | exact Or.inr rfl | exact Or.inr (Or.inl rfl) | exact Or.inr (Or.inr BW.emp) | exact Or.inr BW.emp | exact BW.emp | exact Or.inr (Or.inr BW.pre) | exact Or.inr BW.pre | exact BW.pre | refine Or.inr (BW.cells ?_) | refine BW.cells ?_ | refine Or.inr (Or.inr (BW.cells ?_)) | exact gw)) : p := h f
theorem try_mixed : Tryz.prog.follows .mixedOrders = true := by kernel_rfl
theorem tAgg2 : aT Tryz.prog 2 = some false := by kernel_rfl
theorem tSz2 : tSz Tryz.prog 2 = some 1 := by kernel_rfl
theorem tBytes2 : aK Tryz.prog 2 = some 8 := by kernel_rfl
theorem tZero2 : aO Tryz.prog 2 = some [.int .i64 0] := by kernel_rfl
theorem tInt2 : eF Tryz.prog 2 = some .i64 := by kernel_rfl
theorem tUnd2 : Tryz.prog.underlying 2 = some (.int .i64) := by kernel_rfl
theorem tAgg3 : aT Tryz.prog 3 = some false := by kernel_rfl
theorem tSz3 : tSz Tryz.prog 3 = some 1 := by kernel_rfl
theorem tBytes3 : aK Tryz.prog 3 = some 8 := by kernel_rfl
theorem tZero3 : aO Tryz.prog 3 = some [.int .i64 0] := by kernel_rfl
theorem tInt3 : eF Tryz.prog 3 = some .i64 := by kernel_rfl
theorem tUnd3 : Tryz.prog.underlying 3 = some (.int .i64) := by kernel_rfl
theorem tAgg4 : aT Tryz.prog 4 = some false := by kernel_rfl
theorem tSz4 : tSz Tryz.prog 4 = some 1 := by kernel_rfl
theorem tBytes4 : aK Tryz.prog 4 = some 1 := by kernel_rfl
theorem tZero4 : aO Tryz.prog 4 = some [.bool false] := by kernel_rfl
theorem p6 : jj Tryz.prog 4 = true := by kernel_rfl
theorem tAgg5 : aT Tryz.prog 5 = some false := by kernel_rfl
theorem tSz5 : tSz Tryz.prog 5 = some 1 := by kernel_rfl
theorem tBytes5 : aK Tryz.prog 5 = some 1 := by kernel_rfl
theorem tZero5 : aO Tryz.prog 5 = some [.int .u8 0] := by kernel_rfl
theorem tInt5 : eF Tryz.prog 5 = some .u8 := by kernel_rfl
theorem tUnd5 : Tryz.prog.underlying 5 = some (.int .u8) := by kernel_rfl
theorem tAgg7 : aT Tryz.prog 7 = some true := by kernel_rfl
theorem tSz7 : tSz Tryz.prog 7 = some 4 := by kernel_rfl
theorem tBytes7 : aK Tryz.prog 7 = some 24 := by kernel_rfl
theorem tZero7 : aO Tryz.prog 7 = some [.int .i64 0, .int .i64 0, .bool false, .int .u8 0] := by kernel_rfl
theorem p7 : ba Tryz.prog 7 = some [(0, 1), (1, 1), (2, 1), (3, 1)] := by kernel_rfl
theorem tFld7_0 : aL Tryz.prog 7 0 = some (0, 2) := by kernel_rfl
theorem tFld7_1 : aL Tryz.prog 7 1 = some (1, 3) := by kernel_rfl
theorem tFld7_2 : aL Tryz.prog 7 2 = some (2, 4) := by kernel_rfl
theorem tFld7_3 : aL Tryz.prog 7 3 = some (3, 6) := by kernel_rfl
theorem tGuard7 : Tryz.prog.eqGuardType Tryz.prog.depth 7 = false := by kernel_rfl
theorem tAgg9 : aT Tryz.prog 9 = some false := by kernel_rfl
theorem tSz9 : tSz Tryz.prog 9 = some 1 := by kernel_rfl
theorem tBytes9 : aK Tryz.prog 9 = some 16 := by kernel_rfl
theorem tZero9 : aO Tryz.prog 9 = some [.str []] := by kernel_rfl
theorem tAgg12 : aT Tryz.prog 12 = some false := by kernel_rfl
theorem tSz12 : tSz Tryz.prog 12 = some 1 := by kernel_rfl
theorem p8 : aK Tryz.prog 12 = some 8 := by kernel_rfl
theorem tZero12 : aO Tryz.prog 12 = some [.int .u64 0] := by kernel_rfl
theorem tInt12 : eF Tryz.prog 12 = some .u64 := by kernel_rfl
theorem tUnd12 : Tryz.prog.underlying 12 = some (.int .u64) := by kernel_rfl
theorem tAgg13 : aT Tryz.prog 13 = some true := by kernel_rfl
theorem tSz13 : tSz Tryz.prog 13 = some 2 := by kernel_rfl
theorem p9 : aK Tryz.prog 13 = some 24 := by kernel_rfl
theorem tZero13 : aO Tryz.prog 13 = some [.str [], .int .u64 0] := by kernel_rfl
theorem mC : ba Tryz.prog 13 = some [(0, 1), (1, 1)] := by kernel_rfl
theorem qa : aL Tryz.prog 13 0 = some (0, 9) := by kernel_rfl
theorem qb : aL Tryz.prog 13 1 = some (1, 12) := by kernel_rfl
theorem qc : Tryz.prog.eqGuardType Tryz.prog.depth 13 = false := by kernel_rfl
theorem tAgg17 : aT Tryz.prog 17 = some false := by kernel_rfl
theorem tSz17 : tSz Tryz.prog 17 = some 1 := by kernel_rfl
theorem qd : aK Tryz.prog 17 = some 8 := by kernel_rfl
theorem tZero17 : aO Tryz.prog 17 = some [.ptr none] := by kernel_rfl
theorem qe : ex Tryz.prog 17 = true := by kernel_rfl
theorem tAgg18 : aT Tryz.prog 18 = some true := by kernel_rfl
theorem tSz18 : tSz Tryz.prog 18 = some 1 := by kernel_rfl
theorem qf : aK Tryz.prog 18 = some 8 := by kernel_rfl
theorem tZero18 : aO Tryz.prog 18 = some [.ptr none] := by kernel_rfl
theorem mD : ba Tryz.prog 18 = some [(0, 1)] := by kernel_rfl
theorem qg : aL Tryz.prog 18 0 = some (0, 17) := by kernel_rfl
theorem qh : Tryz.prog.eqGuardType Tryz.prog.depth 18 = false := by kernel_rfl
theorem tAgg21 : aT Tryz.prog 21 = some false := by kernel_rfl
theorem tSz21 : tSz Tryz.prog 21 = some 1 := by kernel_rfl
theorem qi : aK Tryz.prog 21 = some 4 := by kernel_rfl
theorem tZero21 : aO Tryz.prog 21 = some [.int .i32 0] := by kernel_rfl
theorem tInt21 : eF Tryz.prog 21 = some .i32 := by kernel_rfl
theorem tUnd21 : Tryz.prog.underlying 21 = some (.int .i32) := by kernel_rfl
theorem tAgg22 : aT Tryz.prog 22 = some false := by kernel_rfl
theorem tSz22 : tSz Tryz.prog 22 = some 1 := by kernel_rfl
theorem qj : aK Tryz.prog 22 = some 24 := by kernel_rfl
theorem tZero22 : aO Tryz.prog 22 = some [.sl none 0 (some 0)] := by kernel_rfl
theorem lX : cn Tryz.prog 22 = some 5 := by kernel_rfl
theorem kU : dq Tryz.prog 22 = true := by kernel_rfl
theorem tAgg23 : aT Tryz.prog 23 = some true := by kernel_rfl
theorem tSz23 : tSz Tryz.prog 23 = some 3 := by kernel_rfl
theorem qk : aK Tryz.prog 23 = some 40 := by kernel_rfl
theorem tZero23 : aO Tryz.prog 23 = some [.int .i64 0, .int .i64 0, .sl none 0 (some 0)] := by kernel_rfl
theorem mE : ba Tryz.prog 23 = some [(0, 1), (1, 1), (2, 1)] := by kernel_rfl
theorem ql : aL Tryz.prog 23 0 = some (0, 3) := by kernel_rfl
theorem qm : aL Tryz.prog 23 1 = some (1, 3) := by kernel_rfl
theorem qn : aL Tryz.prog 23 2 = some (2, 22) := by kernel_rfl
theorem qo : Tryz.prog.eqGuardType Tryz.prog.depth 23 = false := by kernel_rfl
theorem tAgg24 : aT Tryz.prog 24 = some true := by kernel_rfl
theorem tSz24 : tSz Tryz.prog 24 = some 3 := by kernel_rfl
theorem qp : aK Tryz.prog 24 = some 40 := by kernel_rfl
theorem tZero24 : aO Tryz.prog 24 = some [.int .i64 0, .int .i64 0, .sl none 0 (some 0)] := by kernel_rfl
theorem mF : ba Tryz.prog 24 = some [(0, 1), (1, 1), (2, 1)] := by kernel_rfl
theorem qq : aL Tryz.prog 24 0 = some (0, 3) := by kernel_rfl
theorem qr : aL Tryz.prog 24 1 = some (1, 3) := by kernel_rfl
theorem qs : aL Tryz.prog 24 2 = some (2, 22) := by kernel_rfl
theorem qt : Tryz.prog.eqGuardType Tryz.prog.depth 24 = false := by kernel_rfl
theorem tAgg25 : aT Tryz.prog 25 = some false := by kernel_rfl
theorem tSz25 : tSz Tryz.prog 25 = some 1 := by kernel_rfl
theorem qu : aK Tryz.prog 25 = some 24 := by kernel_rfl
theorem tZero25 : aO Tryz.prog 25 = some [.sl none 0 (some 0)] := by kernel_rfl
theorem tElem25 : cn Tryz.prog 25 = some 56 := by kernel_rfl
theorem kV : dq Tryz.prog 25 = true := by kernel_rfl
theorem tAgg26 : aT Tryz.prog 26 = some true := by kernel_rfl
theorem tSz26 : tSz Tryz.prog 26 = some 4 := by kernel_rfl
theorem qv : aK Tryz.prog 26 = some 32 := by kernel_rfl
theorem tZero26 : aO Tryz.prog 26 = some [.int .i64 0, .int .i64 0, .int .i64 0, .int .i64 0] := by kernel_rfl
theorem mG : ba Tryz.prog 26 = some [(0, 1), (1, 1), (2, 1), (3, 1)] := by kernel_rfl
theorem qw : aL Tryz.prog 26 0 = some (0, 3) := by kernel_rfl
theorem qx : aL Tryz.prog 26 1 = some (1, 3) := by kernel_rfl
theorem qy : aL Tryz.prog 26 2 = some (2, 3) := by kernel_rfl
theorem qz : aL Tryz.prog 26 3 = some (3, 3) := by kernel_rfl
theorem qA : Tryz.prog.eqGuardType Tryz.prog.depth 26 = false := by kernel_rfl
theorem tEq26 (a0 a1 a2 a3 b0 b1 b2 b3 : Int) : aEq Tryz.prog 20 26 [.int .i64 a0, .int .i64 a1, .int .i64 a2, .int .i64 a3] [.int .i64 b0, .int .i64 b1, .int .i64 b2, .int .i64 b3] = some ((a0 == b0) && ((a1 == b1) && ((a2 == b2) && ((a3 == b3) && true)))) := by kernel_rfl
theorem tAgg27 : aT Tryz.prog 27 = some true := by kernel_rfl
theorem tSz27 : tSz Tryz.prog 27 = some 4 := by kernel_rfl
theorem qB : aK Tryz.prog 27 = some 32 := by kernel_rfl
theorem tZero27 : aO Tryz.prog 27 = some [.int .i64 0, .int .i64 0, .int .i64 0, .int .i64 0] := by kernel_rfl
theorem mH : ba Tryz.prog 27 = some [(0, 1), (1, 1), (2, 1), (3, 1)] := by kernel_rfl
theorem qC : aL Tryz.prog 27 0 = some (0, 3) := by kernel_rfl
theorem qD : aL Tryz.prog 27 1 = some (1, 3) := by kernel_rfl
theorem qE : aL Tryz.prog 27 2 = some (2, 3) := by kernel_rfl
theorem qF : aL Tryz.prog 27 3 = some (3, 3) := by kernel_rfl
theorem qG : Tryz.prog.eqGuardType Tryz.prog.depth 27 = false := by kernel_rfl
theorem tEq27 (a0 a1 a2 a3 b0 b1 b2 b3 : Int) : aEq Tryz.prog 20 27 [.int .i64 a0, .int .i64 a1, .int .i64 a2, .int .i64 a3] [.int .i64 b0, .int .i64 b1, .int .i64 b2, .int .i64 b3] = some ((a0 == b0) && ((a1 == b1) && ((a2 == b2) && ((a3 == b3) && true)))) := by kernel_rfl
theorem tAgg29 : aT Tryz.prog 29 = some false := by kernel_rfl
theorem tSz29 : tSz Tryz.prog 29 = some 1 := by kernel_rfl
theorem qH : aK Tryz.prog 29 = some 8 := by kernel_rfl
theorem tZero29 : aO Tryz.prog 29 = some [.ptr none] := by kernel_rfl
theorem qI : ex Tryz.prog 29 = true := by kernel_rfl
theorem tAgg30 : aT Tryz.prog 30 = some false := by kernel_rfl
theorem tSz30 : tSz Tryz.prog 30 = some 1 := by kernel_rfl
theorem qJ : aK Tryz.prog 30 = some 8 := by kernel_rfl
theorem tZero30 : aO Tryz.prog 30 = some [.int .i64 0] := by kernel_rfl
theorem tInt30 : eF Tryz.prog 30 = some .i64 := by kernel_rfl
theorem tUnd30 : Tryz.prog.underlying 30 = some (.int .i64) := by kernel_rfl
theorem tAgg33 : aT Tryz.prog 33 = some false := by kernel_rfl
theorem tSz33 : tSz Tryz.prog 33 = some 1 := by kernel_rfl
theorem qK : aK Tryz.prog 33 = some 8 := by kernel_rfl
theorem tZero33 : aO Tryz.prog 33 = some [.ptr none] := by kernel_rfl
theorem qL : ex Tryz.prog 33 = true := by kernel_rfl
theorem tAgg48 : aT Tryz.prog 48 = some true := by kernel_rfl
theorem tSz48 : tSz Tryz.prog 48 = some 2 := by kernel_rfl
theorem qM : aK Tryz.prog 48 = some 16 := by kernel_rfl
theorem tZero48 : aO Tryz.prog 48 = some [.int .i64 0, .int .i64 0] := by kernel_rfl
theorem mI : ba Tryz.prog 48 = some [(0, 1), (1, 1)] := by kernel_rfl
theorem qN : aL Tryz.prog 48 0 = some (0, 3) := by kernel_rfl
theorem qO : aL Tryz.prog 48 1 = some (1, 3) := by kernel_rfl
theorem qP : Tryz.prog.eqGuardType Tryz.prog.depth 48 = false := by kernel_rfl
theorem tEq48 (a0 a1 b0 b1 : Int) : aEq Tryz.prog 20 48 [.int .i64 a0, .int .i64 a1] [.int .i64 b0, .int .i64 b1] = some ((a0 == b0) && ((a1 == b1) && true)) := by kernel_rfl
theorem tAgg49 : aT Tryz.prog 49 = some true := by kernel_rfl
theorem tSz49 : tSz Tryz.prog 49 = some 2 := by kernel_rfl
theorem qQ : aK Tryz.prog 49 = some 16 := by kernel_rfl
theorem tZero49 : aO Tryz.prog 49 = some [.int .i64 0, .int .i64 0] := by kernel_rfl
theorem mJ : ba Tryz.prog 49 = some [(0, 1), (1, 1)] := by kernel_rfl
theorem qR : aL Tryz.prog 49 0 = some (0, 3) := by kernel_rfl
theorem qS : aL Tryz.prog 49 1 = some (1, 3) := by kernel_rfl
theorem qT : Tryz.prog.eqGuardType Tryz.prog.depth 49 = false := by kernel_rfl
theorem tEq49 (a0 a1 b0 b1 : Int) : aEq Tryz.prog 20 49 [.int .i64 a0, .int .i64 a1] [.int .i64 b0, .int .i64 b1] = some ((a0 == b0) && ((a1 == b1) && true)) := by kernel_rfl
theorem tAgg50 : aT Tryz.prog 50 = some false := by kernel_rfl
theorem tSz50 : tSz Tryz.prog 50 = some 1 := by kernel_rfl
theorem qU : aK Tryz.prog 50 = some 24 := by kernel_rfl
theorem tZero50 : aO Tryz.prog 50 = some [.sl none 0 (some 0)] := by kernel_rfl
theorem tElem50 : cn Tryz.prog 50 = some 59 := by kernel_rfl
theorem kW : dq Tryz.prog 50 = true := by kernel_rfl
theorem tAgg55 : aT Tryz.prog 55 = some true := by kernel_rfl
theorem tSz55 : tSz Tryz.prog 55 = some 6 := by kernel_rfl
theorem qV : aK Tryz.prog 55 = some 48 := by kernel_rfl
theorem tZero55 : aO Tryz.prog 55 = some [.int .i64 0, .int .i64 0, .int .i64 0, .int .i64 0, .int .i64 0, .int .i64 0] := by kernel_rfl
theorem mK : ba Tryz.prog 55 = some [(0, 1), (1, 1), (2, 1), (3, 1), (4, 1), (5, 1)] := by kernel_rfl
theorem qW : aL Tryz.prog 55 0 = some (0, 3) := by kernel_rfl
theorem qX : aL Tryz.prog 55 1 = some (1, 3) := by kernel_rfl
theorem qY : aL Tryz.prog 55 2 = some (2, 3) := by kernel_rfl
theorem qZ : aL Tryz.prog 55 3 = some (3, 3) := by kernel_rfl
theorem rb : aL Tryz.prog 55 4 = some (4, 3) := by kernel_rfl
theorem rc : aL Tryz.prog 55 5 = some (5, 3) := by kernel_rfl
theorem rd : Tryz.prog.eqGuardType Tryz.prog.depth 55 = false := by kernel_rfl
theorem tEq55 (a0 a1 a2 a3 a4 a5 b0 b1 b2 b3 b4 b5 : Int) : aEq Tryz.prog 20 55 [.int .i64 a0, .int .i64 a1, .int .i64 a2, .int .i64 a3, .int .i64 a4, .int .i64 a5] [.int .i64 b0, .int .i64 b1, .int .i64 b2, .int .i64 b3, .int .i64 b4, .int .i64 b5] = some ((a0 == b0) && ((a1 == b1) && ((a2 == b2) && ((a3 == b3) && ((a4 == b4) && ((a5 == b5) && true)))))) := by kernel_rfl
theorem tAgg56 : aT Tryz.prog 56 = some true := by kernel_rfl
theorem tSz56 : tSz Tryz.prog 56 = some 6 := by kernel_rfl
theorem re : aK Tryz.prog 56 = some 48 := by kernel_rfl
theorem tZero56 : aO Tryz.prog 56 = some [.int .i64 0, .int .i64 0, .int .i64 0, .int .i64 0, .int .i64 0, .int .i64 0] := by kernel_rfl
theorem mL : ba Tryz.prog 56 = some [(0, 1), (1, 1), (2, 1), (3, 1), (4, 1), (5, 1)] := by kernel_rfl
theorem rf : aL Tryz.prog 56 0 = some (0, 3) := by kernel_rfl
theorem rg : aL Tryz.prog 56 1 = some (1, 3) := by kernel_rfl
theorem rh : aL Tryz.prog 56 2 = some (2, 3) := by kernel_rfl
theorem ri : aL Tryz.prog 56 3 = some (3, 3) := by kernel_rfl
theorem rj : aL Tryz.prog 56 4 = some (4, 3) := by kernel_rfl
theorem rl : aL Tryz.prog 56 5 = some (5, 3) := by kernel_rfl
theorem rm : Tryz.prog.eqGuardType Tryz.prog.depth 56 = false := by kernel_rfl
theorem tEq56 (a0 a1 a2 a3 a4 a5 b0 b1 b2 b3 b4 b5 : Int) : aEq Tryz.prog 20 56 [.int .i64 a0, .int .i64 a1, .int .i64 a2, .int .i64 a3, .int .i64 a4, .int .i64 a5] [.int .i64 b0, .int .i64 b1, .int .i64 b2, .int .i64 b3, .int .i64 b4, .int .i64 b5] = some ((a0 == b0) && ((a1 == b1) && ((a2 == b2) && ((a3 == b3) && ((a4 == b4) && ((a5 == b5) && true)))))) := by kernel_rfl
theorem tAgg58 : aT Tryz.prog 58 = some true := by kernel_rfl
theorem tSz58 : tSz Tryz.prog 58 = some 2 := by kernel_rfl
theorem rn : aK Tryz.prog 58 = some 16 := by kernel_rfl
theorem tZero58 : aO Tryz.prog 58 = some [.int .i64 0, .int .i64 0] := by kernel_rfl
theorem mM : ba Tryz.prog 58 = some [(0, 1), (1, 1)] := by kernel_rfl
theorem ro : aL Tryz.prog 58 0 = some (0, 3) := by kernel_rfl
theorem rp : aL Tryz.prog 58 1 = some (1, 3) := by kernel_rfl
theorem rq : Tryz.prog.eqGuardType Tryz.prog.depth 58 = false := by kernel_rfl
theorem tEq58 (a0 a1 b0 b1 : Int) : aEq Tryz.prog 20 58 [.int .i64 a0, .int .i64 a1] [.int .i64 b0, .int .i64 b1] = some ((a0 == b0) && ((a1 == b1) && true)) := by kernel_rfl
theorem tAgg59 : aT Tryz.prog 59 = some true := by kernel_rfl
theorem tSz59 : tSz Tryz.prog 59 = some 2 := by kernel_rfl
theorem rr : aK Tryz.prog 59 = some 16 := by kernel_rfl
theorem tZero59 : aO Tryz.prog 59 = some [.int .i64 0, .int .i64 0] := by kernel_rfl
theorem mN : ba Tryz.prog 59 = some [(0, 1), (1, 1)] := by kernel_rfl
theorem rt : aL Tryz.prog 59 0 = some (0, 3) := by kernel_rfl
theorem ru : aL Tryz.prog 59 1 = some (1, 3) := by kernel_rfl
theorem rv : Tryz.prog.eqGuardType Tryz.prog.depth 59 = false := by kernel_rfl
theorem tEq59 (a0 a1 b0 b1 : Int) : aEq Tryz.prog 20 59 [.int .i64 a0, .int .i64 a1] [.int .i64 b0, .int .i64 b1] = some ((a0 == b0) && ((a1 == b1) && true)) := by kernel_rfl
theorem tAgg67 : aT Tryz.prog 67 = some true := by kernel_rfl
theorem tSz67 : tSz Tryz.prog 67 = some 9 := by kernel_rfl
theorem rx : aK Tryz.prog 67 = some 104 := by kernel_rfl
theorem tZero67 : aO Tryz.prog 67 = some [.int .i64 0, .int .i64 0, .sl none 0 (some 0), .sl none 0 (some 0), .int .i64 0, .int .i64 0, .int .i64 0, .int .i64 0, .bool false] := by kernel_rfl
theorem mO : ba Tryz.prog 67 = some [(0, 3), (3, 1), (4, 4), (8, 1)] := by kernel_rfl
theorem ry : aL Tryz.prog 67 0 = some (0, 24) := by kernel_rfl
theorem rz : aL Tryz.prog 67 1 = some (3, 25) := by kernel_rfl
theorem rA : aL Tryz.prog 67 2 = some (4, 27) := by kernel_rfl
theorem rB : aL Tryz.prog 67 3 = some (8, 4) := by kernel_rfl
theorem rC : Tryz.prog.eqGuardType Tryz.prog.depth 67 = false := by kernel_rfl
theorem tAgg68 : aT Tryz.prog 68 = some true := by kernel_rfl
theorem tSz68 : tSz Tryz.prog 68 = some 9 := by kernel_rfl
theorem rD : aK Tryz.prog 68 = some 104 := by kernel_rfl
theorem tZero68 : aO Tryz.prog 68 = some [.int .i64 0, .int .i64 0, .sl none 0 (some 0), .sl none 0 (some 0), .int .i64 0, .int .i64 0, .int .i64 0, .int .i64 0, .bool false] := by kernel_rfl
theorem mP : ba Tryz.prog 68 = some [(0, 3), (3, 1), (4, 4), (8, 1)] := by kernel_rfl
theorem rE : aL Tryz.prog 68 0 = some (0, 24) := by kernel_rfl
theorem rF : aL Tryz.prog 68 1 = some (3, 25) := by kernel_rfl
theorem rG : aL Tryz.prog 68 2 = some (4, 27) := by kernel_rfl
theorem rH : aL Tryz.prog 68 3 = some (8, 4) := by kernel_rfl
theorem rI : Tryz.prog.eqGuardType Tryz.prog.depth 68 = false := by kernel_rfl
theorem tAgg69 : aT Tryz.prog 69 = some true := by kernel_rfl
theorem tSz69 : tSz Tryz.prog 69 = some 9 := by kernel_rfl
theorem rJ : aK Tryz.prog 69 = some 104 := by kernel_rfl
theorem tZero69 : aO Tryz.prog 69 = some [.int .i64 0, .int .i64 0, .sl none 0 (some 0), .sl none 0 (some 0), .int .i64 0, .int .i64 0, .int .i64 0, .int .i64 0, .bool false] := by kernel_rfl
theorem mQ : ba Tryz.prog 69 = some [(0, 3), (3, 1), (4, 4), (8, 1)] := by kernel_rfl
theorem rK : aL Tryz.prog 69 0 = some (0, 24) := by kernel_rfl
theorem rL : aL Tryz.prog 69 1 = some (3, 25) := by kernel_rfl
theorem rM : aL Tryz.prog 69 2 = some (4, 27) := by kernel_rfl
theorem rN : aL Tryz.prog 69 3 = some (8, 4) := by kernel_rfl
theorem rO : Tryz.prog.eqGuardType Tryz.prog.depth 69 = false := by kernel_rfl
theorem tAgg70 : aT Tryz.prog 70 = some true := by kernel_rfl
theorem tSz70 : tSz Tryz.prog 70 = some 9 := by kernel_rfl
theorem rP : aK Tryz.prog 70 = some 104 := by kernel_rfl
theorem tZero70 : aO Tryz.prog 70 = some [.int .i64 0, .int .i64 0, .sl none 0 (some 0), .sl none 0 (some 0), .int .i64 0, .int .i64 0, .int .i64 0, .int .i64 0, .bool false] := by kernel_rfl
theorem mR : ba Tryz.prog 70 = some [(0, 3), (3, 1), (4, 4), (8, 1)] := by kernel_rfl
theorem rQ : aL Tryz.prog 70 0 = some (0, 24) := by kernel_rfl
theorem rR : aL Tryz.prog 70 1 = some (3, 25) := by kernel_rfl
theorem rS : aL Tryz.prog 70 2 = some (4, 27) := by kernel_rfl
theorem rT : aL Tryz.prog 70 3 = some (8, 4) := by kernel_rfl
theorem rU : Tryz.prog.eqGuardType Tryz.prog.depth 70 = false := by kernel_rfl
theorem tAgg101 : aT Tryz.prog 101 = some false := by kernel_rfl
theorem tSz101 : tSz Tryz.prog 101 = some 1 := by kernel_rfl
theorem mS : aK Tryz.prog 101 = some 24 := by kernel_rfl
theorem rV : aO Tryz.prog 101 = some [.sl none 0 (some 0)] := by kernel_rfl
theorem rW : cn Tryz.prog 101 = some 104 := by kernel_rfl
theorem jR : dq Tryz.prog 101 = true := by kernel_rfl
theorem tAgg103 : aT Tryz.prog 103 = some true := by kernel_rfl
theorem tSz103 : tSz Tryz.prog 103 = some 2 := by kernel_rfl
theorem mT : aK Tryz.prog 103 = some 16 := by kernel_rfl
theorem rX : aO Tryz.prog 103 = some [.int .i64 0, .int .i64 0] := by kernel_rfl
theorem kX : ba Tryz.prog 103 = some [(0, 1), (1, 1)] := by kernel_rfl
theorem mU : aL Tryz.prog 103 0 = some (0, 3) := by kernel_rfl
theorem mV : aL Tryz.prog 103 1 = some (1, 3) := by kernel_rfl
theorem mW : Tryz.prog.eqGuardType Tryz.prog.depth 103 = false := by kernel_rfl
theorem tEq103 (a0 a1 b0 b1 : Int) : aEq Tryz.prog 20 103 [.int .i64 a0, .int .i64 a1] [.int .i64 b0, .int .i64 b1] = some ((a0 == b0) && ((a1 == b1) && true)) := by kernel_rfl
theorem tAgg104 : aT Tryz.prog 104 = some true := by kernel_rfl
theorem tSz104 : tSz Tryz.prog 104 = some 2 := by kernel_rfl
theorem mX : aK Tryz.prog 104 = some 16 := by kernel_rfl
theorem rY : aO Tryz.prog 104 = some [.int .i64 0, .int .i64 0] := by kernel_rfl
theorem kY : ba Tryz.prog 104 = some [(0, 1), (1, 1)] := by kernel_rfl
theorem mY : aL Tryz.prog 104 0 = some (0, 3) := by kernel_rfl
theorem mZ : aL Tryz.prog 104 1 = some (1, 3) := by kernel_rfl
theorem m6 : Tryz.prog.eqGuardType Tryz.prog.depth 104 = false := by kernel_rfl
theorem tEq104 (a0 a1 b0 b1 : Int) : aEq Tryz.prog 20 104 [.int .i64 a0, .int .i64 a1] [.int .i64 b0, .int .i64 b1] = some ((a0 == b0) && ((a1 == b1) && true)) := by kernel_rfl
theorem tAgg105 : aT Tryz.prog 105 = some false := by kernel_rfl
theorem tSz105 : tSz Tryz.prog 105 = some 1 := by kernel_rfl
theorem m7 : aK Tryz.prog 105 = some 8 := by kernel_rfl
theorem rZ : aO Tryz.prog 105 = some [.ptr none] := by kernel_rfl
theorem m8 : ex Tryz.prog 105 = true := by kernel_rfl
theorem tAgg114 : aT Tryz.prog 114 = some true := by kernel_rfl
theorem tSz114 : tSz Tryz.prog 114 = some 2 := by kernel_rfl
theorem m9 : aK Tryz.prog 114 = some 16 := by kernel_rfl
theorem r7 : aO Tryz.prog 114 = some [.int .i64 0, .int .i64 0] := by kernel_rfl
theorem kZ : ba Tryz.prog 114 = some [(0, 1), (1, 1)] := by kernel_rfl
theorem na : aL Tryz.prog 114 0 = some (0, 3) := by kernel_rfl
theorem nb : aL Tryz.prog 114 1 = some (1, 3) := by kernel_rfl
theorem nd : Tryz.prog.eqGuardType Tryz.prog.depth 114 = false := by kernel_rfl
theorem tEq114 (a0 a1 b0 b1 : Int) : aEq Tryz.prog 20 114 [.int .i64 a0, .int .i64 a1] [.int .i64 b0, .int .i64 b1] = some ((a0 == b0) && ((a1 == b1) && true)) := by kernel_rfl
theorem tAgg115 : aT Tryz.prog 115 = some true := by kernel_rfl
theorem tSz115 : tSz Tryz.prog 115 = some 2 := by kernel_rfl
theorem ne : aK Tryz.prog 115 = some 16 := by kernel_rfl
theorem r8 : aO Tryz.prog 115 = some [.int .i64 0, .int .i64 0] := by kernel_rfl
theorem k6 : ba Tryz.prog 115 = some [(0, 1), (1, 1)] := by kernel_rfl
theorem ng : aL Tryz.prog 115 0 = some (0, 3) := by kernel_rfl
theorem nh : aL Tryz.prog 115 1 = some (1, 3) := by kernel_rfl
theorem ni : Tryz.prog.eqGuardType Tryz.prog.depth 115 = false := by kernel_rfl
theorem tEq115 (a0 a1 b0 b1 : Int) : aEq Tryz.prog 20 115 [.int .i64 a0, .int .i64 a1] [.int .i64 b0, .int .i64 b1] = some ((a0 == b0) && ((a1 == b1) && true)) := by kernel_rfl
theorem tAgg120 : aT Tryz.prog 120 = some true := by kernel_rfl
theorem tSz120 : tSz Tryz.prog 120 = some 4 := by kernel_rfl
theorem nj : aK Tryz.prog 120 = some 32 := by kernel_rfl
theorem sa : aO Tryz.prog 120 = some [.int .i64 0, .int .i64 0, .int .i64 0, .int .i64 0] := by kernel_rfl
theorem k7 : ba Tryz.prog 120 = some [(0, 1), (1, 1), (2, 1), (3, 1)] := by kernel_rfl
theorem nk : aL Tryz.prog 120 0 = some (0, 3) := by kernel_rfl
theorem nl : aL Tryz.prog 120 1 = some (1, 3) := by kernel_rfl
theorem nm : aL Tryz.prog 120 2 = some (2, 3) := by kernel_rfl
theorem nn : aL Tryz.prog 120 3 = some (3, 3) := by kernel_rfl
theorem no : Tryz.prog.eqGuardType Tryz.prog.depth 120 = false := by kernel_rfl
theorem tEq120 (a0 a1 a2 a3 b0 b1 b2 b3 : Int) : aEq Tryz.prog 20 120 [.int .i64 a0, .int .i64 a1, .int .i64 a2, .int .i64 a3] [.int .i64 b0, .int .i64 b1, .int .i64 b2, .int .i64 b3] = some ((a0 == b0) && ((a1 == b1) && ((a2 == b2) && ((a3 == b3) && true)))) := by kernel_rfl
theorem tAgg121 : aT Tryz.prog 121 = some true := by kernel_rfl
theorem tSz121 : tSz Tryz.prog 121 = some 4 := by kernel_rfl
theorem np : aK Tryz.prog 121 = some 32 := by kernel_rfl
theorem sb : aO Tryz.prog 121 = some [.int .i64 0, .int .i64 0, .int .i64 0, .int .i64 0] := by kernel_rfl
theorem k8 : ba Tryz.prog 121 = some [(0, 1), (1, 1), (2, 1), (3, 1)] := by kernel_rfl
theorem nq : aL Tryz.prog 121 0 = some (0, 3) := by kernel_rfl
theorem nr : aL Tryz.prog 121 1 = some (1, 3) := by kernel_rfl
theorem nt : aL Tryz.prog 121 2 = some (2, 3) := by kernel_rfl
theorem nu : aL Tryz.prog 121 3 = some (3, 3) := by kernel_rfl
theorem nv : Tryz.prog.eqGuardType Tryz.prog.depth 121 = false := by kernel_rfl
theorem tEq121 (a0 a1 a2 a3 b0 b1 b2 b3 : Int) : aEq Tryz.prog 20 121 [.int .i64 a0, .int .i64 a1, .int .i64 a2, .int .i64 a3] [.int .i64 b0, .int .i64 b1, .int .i64 b2, .int .i64 b3] = some ((a0 == b0) && ((a1 == b1) && ((a2 == b2) && ((a3 == b3) && true)))) := by kernel_rfl
theorem tAgg132 : aT Tryz.prog 132 = some false := by kernel_rfl
theorem tSz132 : tSz Tryz.prog 132 = some 1 := by kernel_rfl
theorem nw : aK Tryz.prog 132 = some 24 := by kernel_rfl
theorem sd : aO Tryz.prog 132 = some [.sl none 0 (some 0)] := by kernel_rfl
theorem se : cn Tryz.prog 132 = some 3 := by kernel_rfl
theorem jS : dq Tryz.prog 132 = true := by kernel_rfl
theorem tAgg141 : aT Tryz.prog 141 = some false := by kernel_rfl
theorem tSz141 : tSz Tryz.prog 141 = some 1 := by kernel_rfl
theorem ny : aK Tryz.prog 141 = some 24 := by kernel_rfl
theorem sf : aO Tryz.prog 141 = some [.sl none 0 (some 0)] := by kernel_rfl
theorem sg : cn Tryz.prog 141 = some 146 := by kernel_rfl
theorem jT : dq Tryz.prog 141 = true := by kernel_rfl
theorem tAgg143 : aT Tryz.prog 143 = some true := by kernel_rfl
theorem tSz143 : tSz Tryz.prog 143 = some 3 := by kernel_rfl
theorem nz : aK Tryz.prog 143 = some 24 := by kernel_rfl
theorem sh : aO Tryz.prog 143 = some [.int .i64 0, .int .i64 0, .int .i64 0] := by kernel_rfl
theorem k9 : ba Tryz.prog 143 = some [(0, 1), (1, 1), (2, 1)] := by kernel_rfl
theorem nA : aL Tryz.prog 143 0 = some (0, 3) := by kernel_rfl
theorem nB : aL Tryz.prog 143 1 = some (1, 3) := by kernel_rfl
theorem nC : aL Tryz.prog 143 2 = some (2, 3) := by kernel_rfl
theorem nD : Tryz.prog.eqGuardType Tryz.prog.depth 143 = false := by kernel_rfl
theorem tEq143 (a0 a1 a2 b0 b1 b2 : Int) : aEq Tryz.prog 20 143 [.int .i64 a0, .int .i64 a1, .int .i64 a2] [.int .i64 b0, .int .i64 b1, .int .i64 b2] = some ((a0 == b0) && ((a1 == b1) && ((a2 == b2) && true))) := by kernel_rfl
theorem tAgg144 : aT Tryz.prog 144 = some true := by kernel_rfl
theorem tSz144 : tSz Tryz.prog 144 = some 3 := by kernel_rfl
theorem nE : aK Tryz.prog 144 = some 24 := by kernel_rfl
theorem si : aO Tryz.prog 144 = some [.int .i64 0, .int .i64 0, .int .i64 0] := by kernel_rfl
theorem la : ba Tryz.prog 144 = some [(0, 1), (1, 1), (2, 1)] := by kernel_rfl
theorem nF : aL Tryz.prog 144 0 = some (0, 3) := by kernel_rfl
theorem nG : aL Tryz.prog 144 1 = some (1, 3) := by kernel_rfl
theorem nH : aL Tryz.prog 144 2 = some (2, 3) := by kernel_rfl
theorem nI : Tryz.prog.eqGuardType Tryz.prog.depth 144 = false := by kernel_rfl
theorem tEq144 (a0 a1 a2 b0 b1 b2 : Int) : aEq Tryz.prog 20 144 [.int .i64 a0, .int .i64 a1, .int .i64 a2] [.int .i64 b0, .int .i64 b1, .int .i64 b2] = some ((a0 == b0) && ((a1 == b1) && ((a2 == b2) && true))) := by kernel_rfl
theorem tAgg145 : aT Tryz.prog 145 = some true := by kernel_rfl
theorem tSz145 : tSz Tryz.prog 145 = some 9 := by kernel_rfl
theorem nJ : aK Tryz.prog 145 = some 72 := by kernel_rfl
theorem sj : aO Tryz.prog 145 = some [.int .i64 0, .int .i64 0, .int .i64 0, .int .i64 0, .int .i64 0, .int .i64 0, .int .i64 0, .int .i64 0, .int .i64 0] := by kernel_rfl
theorem lb : ba Tryz.prog 145 = some [(0, 6), (6, 3)] := by kernel_rfl
theorem nK : aL Tryz.prog 145 0 = some (0, 56) := by kernel_rfl
theorem nL : aL Tryz.prog 145 1 = some (6, 144) := by kernel_rfl
theorem nM : Tryz.prog.eqGuardType Tryz.prog.depth 145 = false := by kernel_rfl
theorem tEq145 (a0 a1 a2 a3 a4 a5 a6 a7 a8 b0 b1 b2 b3 b4 b5 b6 b7 b8 : Int) : aEq Tryz.prog 20 145 [.int .i64 a0, .int .i64 a1, .int .i64 a2, .int .i64 a3, .int .i64 a4, .int .i64 a5, .int .i64 a6, .int .i64 a7, .int .i64 a8] [.int .i64 b0, .int .i64 b1, .int .i64 b2, .int .i64 b3, .int .i64 b4, .int .i64 b5, .int .i64 b6, .int .i64 b7, .int .i64 b8] = some (((a0 == b0) && ((a1 == b1) && ((a2 == b2) && ((a3 == b3) && ((a4 == b4) && ((a5 == b5) && true)))))) && (((a6 == b6) && ((a7 == b7) && ((a8 == b8) && true))) && true)) := by kernel_rfl
theorem tAgg146 : aT Tryz.prog 146 = some true := by kernel_rfl
theorem tSz146 : tSz Tryz.prog 146 = some 9 := by kernel_rfl
theorem nN : aK Tryz.prog 146 = some 72 := by kernel_rfl
theorem sk : aO Tryz.prog 146 = some [.int .i64 0, .int .i64 0, .int .i64 0, .int .i64 0, .int .i64 0, .int .i64 0, .int .i64 0, .int .i64 0, .int .i64 0] := by kernel_rfl
theorem lc : ba Tryz.prog 146 = some [(0, 6), (6, 3)] := by kernel_rfl
theorem nO : aL Tryz.prog 146 0 = some (0, 56) := by kernel_rfl
theorem nP : aL Tryz.prog 146 1 = some (6, 144) := by kernel_rfl
theorem nQ : Tryz.prog.eqGuardType Tryz.prog.depth 146 = false := by kernel_rfl
theorem tEq146 (a0 a1 a2 a3 a4 a5 a6 a7 a8 b0 b1 b2 b3 b4 b5 b6 b7 b8 : Int) : aEq Tryz.prog 20 146 [.int .i64 a0, .int .i64 a1, .int .i64 a2, .int .i64 a3, .int .i64 a4, .int .i64 a5, .int .i64 a6, .int .i64 a7, .int .i64 a8] [.int .i64 b0, .int .i64 b1, .int .i64 b2, .int .i64 b3, .int .i64 b4, .int .i64 b5, .int .i64 b6, .int .i64 b7, .int .i64 b8] = some (((a0 == b0) && ((a1 == b1) && ((a2 == b2) && ((a3 == b3) && ((a4 == b4) && ((a5 == b5) && true)))))) && (((a6 == b6) && ((a7 == b7) && ((a8 == b8) && true))) && true)) := by kernel_rfl
theorem tAgg152 : aT Tryz.prog 152 = some true := by kernel_rfl
theorem tSz152 : tSz Tryz.prog 152 = some 2 := by kernel_rfl
theorem nR : aK Tryz.prog 152 = some 16 := by kernel_rfl
theorem sm : aO Tryz.prog 152 = some [.int .i64 0, .int .i64 0] := by kernel_rfl
theorem tIdx152 : tIdx Tryz.prog 152 = some (some 2, 3) := by kernel_rfl
theorem ld : ba Tryz.prog 152 = some [(0, 1), (1, 1)] := by kernel_rfl
theorem tAgg155 : aT Tryz.prog 155 = some false := by kernel_rfl
theorem tSz155 : tSz Tryz.prog 155 = some 1 := by kernel_rfl
theorem nS : aK Tryz.prog 155 = some 24 := by kernel_rfl
theorem sn : aO Tryz.prog 155 = some [.sl none 0 (some 0)] := by kernel_rfl
theorem so : cn Tryz.prog 155 = some 4 := by kernel_rfl
theorem jU : dq Tryz.prog 155 = true := by kernel_rfl
theorem tAgg165 : aT Tryz.prog 165 = some true := by kernel_rfl
theorem tSz165 : tSz Tryz.prog 165 = some 2 := by kernel_rfl
theorem nT : aK Tryz.prog 165 = some 16 := by kernel_rfl
theorem sq : aO Tryz.prog 165 = some [.int .i64 0, .int .i64 0] := by kernel_rfl
theorem lf : ba Tryz.prog 165 = some [(0, 1), (1, 1)] := by kernel_rfl
theorem nU : aL Tryz.prog 165 0 = some (0, 3) := by kernel_rfl
theorem nV : aL Tryz.prog 165 1 = some (1, 3) := by kernel_rfl
theorem nW : Tryz.prog.eqGuardType Tryz.prog.depth 165 = false := by kernel_rfl
theorem tEq165 (a0 a1 b0 b1 : Int) : aEq Tryz.prog 20 165 [.int .i64 a0, .int .i64 a1] [.int .i64 b0, .int .i64 b1] = some ((a0 == b0) && ((a1 == b1) && true)) := by kernel_rfl
theorem tAgg166 : aT Tryz.prog 166 = some false := by kernel_rfl
theorem tSz166 : tSz Tryz.prog 166 = some 1 := by kernel_rfl
theorem nX : aK Tryz.prog 166 = some 24 := by kernel_rfl
theorem sr : aO Tryz.prog 166 = some [.sl none 0 (some 0)] := by kernel_rfl
theorem ss : cn Tryz.prog 166 = some 165 := by kernel_rfl
theorem jV : dq Tryz.prog 166 = true := by kernel_rfl
theorem tAgg175 : aT Tryz.prog 175 = some false := by kernel_rfl
theorem tSz175 : tSz Tryz.prog 175 = some 1 := by kernel_rfl
theorem nY : aK Tryz.prog 175 = some 8 := by kernel_rfl
theorem su : aO Tryz.prog 175 = some [.int .u64 0] := by kernel_rfl
theorem tInt175 : eF Tryz.prog 175 = some .u64 := by kernel_rfl
theorem tUnd175 : Tryz.prog.underlying 175 = some (.int .u64) := by kernel_rfl
theorem tAgg191 : aT Tryz.prog 191 = some true := by kernel_rfl
theorem tSz191 : tSz Tryz.prog 191 = some 4 := by kernel_rfl
theorem nZ : aK Tryz.prog 191 = some 32 := by kernel_rfl
theorem sw : aO Tryz.prog 191 = some [.int .i64 0, .int .i64 0, .int .i64 0, .int .i64 0] := by kernel_rfl
theorem tIdx191 : tIdx Tryz.prog 191 = some (some 4, 3) := by kernel_rfl
theorem lg : ba Tryz.prog 191 = some [(0, 1), (1, 1), (2, 1), (3, 1)] := by kernel_rfl
theorem tAgg197 : aT Tryz.prog 197 = some false := by kernel_rfl
theorem tSz197 : tSz Tryz.prog 197 = some 1 := by kernel_rfl
theorem n0 : aK Tryz.prog 197 = some 8 := by kernel_rfl
theorem sx : aO Tryz.prog 197 = some [.int .i64 0] := by kernel_rfl
theorem tInt197 : eF Tryz.prog 197 = some .i64 := by kernel_rfl
theorem tUnd197 : Tryz.prog.underlying 197 = some (.int .i64) := by kernel_rfl
theorem tAgg205 : aT Tryz.prog 205 = some false := by kernel_rfl
theorem tSz205 : tSz Tryz.prog 205 = some 1 := by kernel_rfl
theorem n7 : aK Tryz.prog 205 = some 4 := by kernel_rfl
theorem sy : aO Tryz.prog 205 = some [.int .u32 0] := by kernel_rfl
theorem tInt205 : eF Tryz.prog 205 = some .u32 := by kernel_rfl
theorem tUnd205 : Tryz.prog.underlying 205 = some (.int .u32) := by kernel_rfl
theorem tAgg207 : aT Tryz.prog 207 = some false := by kernel_rfl
theorem tSz207 : tSz Tryz.prog 207 = some 1 := by kernel_rfl
theorem n8 : aK Tryz.prog 207 = some 8 := by kernel_rfl
theorem sA : aO Tryz.prog 207 = some [.int .u64 0] := by kernel_rfl
theorem tInt207 : eF Tryz.prog 207 = some .u64 := by kernel_rfl
theorem tUnd207 : Tryz.prog.underlying 207 = some (.int .u64) := by kernel_rfl
theorem tAgg211 : aT Tryz.prog 211 = some true := by kernel_rfl
theorem tSz211 : tSz Tryz.prog 211 = some 2 := by kernel_rfl
theorem n9 : aK Tryz.prog 211 = some 16 := by kernel_rfl
theorem sB : aO Tryz.prog 211 = some [.int .i64 0, .int .i64 0] := by kernel_rfl
theorem lh : ba Tryz.prog 211 = some [(0, 1), (1, 1)] := by kernel_rfl
theorem oa : aL Tryz.prog 211 0 = some (0, 3) := by kernel_rfl
theorem ob : aL Tryz.prog 211 1 = some (1, 3) := by kernel_rfl
theorem oc : Tryz.prog.eqGuardType Tryz.prog.depth 211 = false := by kernel_rfl
theorem tEq211 (a0 a1 b0 b1 : Int) : aEq Tryz.prog 20 211 [.int .i64 a0, .int .i64 a1] [.int .i64 b0, .int .i64 b1] = some ((a0 == b0) && ((a1 == b1) && true)) := by kernel_rfl
theorem tAgg212 : aT Tryz.prog 212 = some true := by kernel_rfl
theorem tSz212 : tSz Tryz.prog 212 = some 2 := by kernel_rfl
theorem od : aK Tryz.prog 212 = some 16 := by kernel_rfl
theorem sC : aO Tryz.prog 212 = some [.int .i64 0, .int .i64 0] := by kernel_rfl
theorem li : ba Tryz.prog 212 = some [(0, 1), (1, 1)] := by kernel_rfl
theorem oe : aL Tryz.prog 212 0 = some (0, 3) := by kernel_rfl
theorem og : aL Tryz.prog 212 1 = some (1, 3) := by kernel_rfl
theorem oh : Tryz.prog.eqGuardType Tryz.prog.depth 212 = false := by kernel_rfl
theorem tEq212 (a0 a1 b0 b1 : Int) : aEq Tryz.prog 20 212 [.int .i64 a0, .int .i64 a1] [.int .i64 b0, .int .i64 b1] = some ((a0 == b0) && ((a1 == b1) && true)) := by kernel_rfl
theorem tAgg216 : aT Tryz.prog 216 = some true := by kernel_rfl
theorem tSz216 : tSz Tryz.prog 216 = some 8 := by kernel_rfl
theorem oi : aK Tryz.prog 216 = some 64 := by kernel_rfl
theorem sD : aO Tryz.prog 216 = some [.int .i64 0, .int .i64 0, .int .i64 0, .int .i64 0, .int .i64 0, .int .i64 0, .int .i64 0, .int .i64 0] := by kernel_rfl
theorem tIdx216 : tIdx Tryz.prog 216 = some (some 4, 165) := by kernel_rfl
theorem lj : ba Tryz.prog 216 = some [(0, 2), (2, 2), (4, 2), (6, 2)] := by kernel_rfl
theorem tAgg217 : aT Tryz.prog 217 = some true := by kernel_rfl
theorem tSz217 : tSz Tryz.prog 217 = some 4 := by kernel_rfl
theorem oj : aK Tryz.prog 217 = some 32 := by kernel_rfl
theorem sE : aO Tryz.prog 217 = some [.int .i64 0, .int .i64 0, .int .i64 0, .int .i64 0] := by kernel_rfl
theorem lk : ba Tryz.prog 217 = some [(0, 2), (2, 2)] := by kernel_rfl
theorem ol : aL Tryz.prog 217 0 = some (0, 212) := by kernel_rfl
theorem om : aL Tryz.prog 217 1 = some (2, 212) := by kernel_rfl
theorem oo : Tryz.prog.eqGuardType Tryz.prog.depth 217 = false := by kernel_rfl
theorem tEq217 (a0 a1 a2 a3 b0 b1 b2 b3 : Int) : aEq Tryz.prog 20 217 [.int .i64 a0, .int .i64 a1, .int .i64 a2, .int .i64 a3] [.int .i64 b0, .int .i64 b1, .int .i64 b2, .int .i64 b3] = some (((a0 == b0) && ((a1 == b1) && true)) && (((a2 == b2) && ((a3 == b3) && true)) && true)) := by kernel_rfl
theorem tAgg218 : aT Tryz.prog 218 = some true := by kernel_rfl
theorem tSz218 : tSz Tryz.prog 218 = some 4 := by kernel_rfl
theorem ot : aK Tryz.prog 218 = some 32 := by kernel_rfl
theorem sF : aO Tryz.prog 218 = some [.int .i64 0, .int .i64 0, .int .i64 0, .int .i64 0] := by kernel_rfl
theorem ll : ba Tryz.prog 218 = some [(0, 2), (2, 2)] := by kernel_rfl
theorem ov : aL Tryz.prog 218 0 = some (0, 212) := by kernel_rfl
theorem oA : aL Tryz.prog 218 1 = some (2, 212) := by kernel_rfl
theorem oB : Tryz.prog.eqGuardType Tryz.prog.depth 218 = false := by kernel_rfl
theorem tEq218 (a0 a1 a2 a3 b0 b1 b2 b3 : Int) : aEq Tryz.prog 20 218 [.int .i64 a0, .int .i64 a1, .int .i64 a2, .int .i64 a3] [.int .i64 b0, .int .i64 b1, .int .i64 b2, .int .i64 b3] = some (((a0 == b0) && ((a1 == b1) && true)) && (((a2 == b2) && ((a3 == b3) && true)) && true)) := by kernel_rfl
theorem tAgg221 : aT Tryz.prog 221 = some false := by kernel_rfl
theorem tSz221 : tSz Tryz.prog 221 = some 1 := by kernel_rfl
theorem oC : aK Tryz.prog 221 = some 8 := by kernel_rfl
theorem sG : aO Tryz.prog 221 = some [.int .u64 0] := by kernel_rfl
theorem tInt221 : eF Tryz.prog 221 = some .u64 := by kernel_rfl
theorem tUnd221 : Tryz.prog.underlying 221 = some (.int .u64) := by kernel_rfl
theorem tAgg225 : aT Tryz.prog 225 = some false := by kernel_rfl
theorem tSz225 : tSz Tryz.prog 225 = some 1 := by kernel_rfl
theorem oD : aK Tryz.prog 225 = some 8 := by kernel_rfl
theorem sH : aO Tryz.prog 225 = some [.ptr none] := by kernel_rfl
theorem oE : ex Tryz.prog 225 = true := by kernel_rfl
theorem tAgg234 : aT Tryz.prog 234 = some false := by kernel_rfl
theorem tSz234 : tSz Tryz.prog 234 = some 1 := by kernel_rfl
theorem oF : aK Tryz.prog 234 = some 8 := by kernel_rfl
theorem sI : aO Tryz.prog 234 = some [.ptr none] := by kernel_rfl
theorem oG : ex Tryz.prog 234 = true := by kernel_rfl
theorem tAgg237 : aT Tryz.prog 237 = some false := by kernel_rfl
theorem tSz237 : tSz Tryz.prog 237 = some 1 := by kernel_rfl
theorem oH : aK Tryz.prog 237 = some 8 := by kernel_rfl
theorem sJ : aO Tryz.prog 237 = some [.ptr none] := by kernel_rfl
theorem oI : ex Tryz.prog 237 = true := by kernel_rfl
theorem tAgg240 : aT Tryz.prog 240 = some true := by kernel_rfl
theorem tSz240 : tSz Tryz.prog 240 = some 4 := by kernel_rfl
theorem oJ : aK Tryz.prog 240 = some 40 := by kernel_rfl
theorem sK : aO Tryz.prog 240 = some [.ptr none, .ptr none, .ptr none, .str []] := by kernel_rfl
theorem lm : ba Tryz.prog 240 = some [(0, 1), (1, 1), (2, 1), (3, 1)] := by kernel_rfl
theorem oK : aL Tryz.prog 240 0 = some (0, 17) := by kernel_rfl
theorem oL : aL Tryz.prog 240 1 = some (1, 17) := by kernel_rfl
theorem oM : aL Tryz.prog 240 2 = some (2, 17) := by kernel_rfl
theorem oN : aL Tryz.prog 240 3 = some (3, 9) := by kernel_rfl
theorem oO : Tryz.prog.eqGuardType Tryz.prog.depth 240 = false := by kernel_rfl
theorem tAgg250 : aT Tryz.prog 250 = some true := by kernel_rfl
theorem tSz250 : tSz Tryz.prog 250 = some 11 := by kernel_rfl
theorem oP : aK Tryz.prog 250 = some 48 := by kernel_rfl
theorem sL : aO Tryz.prog 250 = some [.int .u64 0, .int .u64 0, .int .u32 0, .int .u8 0, .int .u8 0, .int .u8 0, .int .u8 0, .nilfn, .ptr none, .int .i32 0, .int .i32 0] := by kernel_rfl
theorem ln : ba Tryz.prog 250 = some [(0, 1), (1, 1), (2, 1), (3, 1), (4, 1), (5, 1), (6, 1), (7, 1), (8, 1), (9, 1), (10, 1)] := by kernel_rfl
theorem oQ : aL Tryz.prog 250 0 = some (0, 12) := by kernel_rfl
theorem oR : aL Tryz.prog 250 1 = some (1, 12) := by kernel_rfl
theorem oS : aL Tryz.prog 250 2 = some (2, 205) := by kernel_rfl
theorem oT : aL Tryz.prog 250 3 = some (3, 245) := by kernel_rfl
theorem oU : aL Tryz.prog 250 4 = some (4, 5) := by kernel_rfl
theorem oV : aL Tryz.prog 250 5 = some (5, 5) := by kernel_rfl
theorem oW : aL Tryz.prog 250 6 = some (6, 246) := by kernel_rfl
theorem oX : aL Tryz.prog 250 7 = some (7, 247) := by kernel_rfl
theorem oY : aL Tryz.prog 250 8 = some (8, 105) := by kernel_rfl
theorem oZ : aL Tryz.prog 250 9 = some (9, 248) := by kernel_rfl
theorem lp : aL Tryz.prog 250 10 = some (10, 249) := by kernel_rfl
theorem o0 : Tryz.prog.eqGuardType Tryz.prog.depth 250 = false := by kernel_rfl
theorem tyset0 : type_of% (aiX @tAgg2 <| aiX @tSz2 <| aiX @tBytes2 <| aiX @tZero2 <| aiX @tInt2 <| aiX @tUnd2 <| aiX @tAgg3 <| aiX @tSz3 <| aiX @tBytes3 <| aiX @tZero3 <| aiX @tInt3 <| aiX @tUnd3 <| aiX @tAgg4 <| aiX @tSz4 <| aiX @tBytes4 <| aiX @tZero4 <| aiX @p6 <| aiX @tAgg5 <| aiX @tSz5 <| aiX @tBytes5 <| aiX @tZero5 <| aiX @tInt5 <| aiX @tUnd5 <| (@tAgg7)) :=
 aiX @tAgg2 <| aiX @tSz2 <| aiX @tBytes2 <| aiX @tZero2 <| aiX @tInt2 <| aiX @tUnd2 <| aiX @tAgg3 <| aiX @tSz3 <| aiX @tBytes3 <| aiX @tZero3 <| aiX @tInt3 <| aiX @tUnd3 <| aiX @tAgg4 <| aiX @tSz4 <| aiX @tBytes4 <| aiX @tZero4 <| aiX @p6 <| aiX @tAgg5 <| aiX @tSz5 <| aiX @tBytes5 <| aiX @tZero5 <| aiX @tInt5 <| aiX @tUnd5 <| (@tAgg7)
theorem tyset1 : type_of% (aiX @tSz7 <| aiX @tBytes7 <| aiX @tZero7 <| aiX @p7 <| aiX @tFld7_0 <| aiX @tFld7_1 <| aiX @tFld7_2 <| aiX @tFld7_3 <| aiX @tGuard7 <| aiX @tAgg9 <| aiX @tSz9 <| aiX @tBytes9 <| aiX @tZero9 <| aiX @tAgg12 <| aiX @tSz12 <| aiX @p8 <| aiX @tZero12 <| aiX @tInt12 <| aiX @tUnd12 <| aiX @tAgg13 <| aiX @tSz13 <| aiX @p9 <| aiX @tZero13 <| (@mC)) :=
 aiX @tSz7 <| aiX @tBytes7 <| aiX @tZero7 <| aiX @p7 <| aiX @tFld7_0 <| aiX @tFld7_1 <| aiX @tFld7_2 <| aiX @tFld7_3 <| aiX @tGuard7 <| aiX @tAgg9 <| aiX @tSz9 <| aiX @tBytes9 <| aiX @tZero9 <| aiX @tAgg12 <| aiX @tSz12 <| aiX @p8 <| aiX @tZero12 <| aiX @tInt12 <| aiX @tUnd12 <| aiX @tAgg13 <| aiX @tSz13 <| aiX @p9 <| aiX @tZero13 <| (@mC)
theorem tyset2 : type_of% (aiX @qa <| aiX @qb <| aiX @qc <| aiX @tAgg17 <| aiX @tSz17 <| aiX @qd <| aiX @tZero17 <| aiX @qe <| aiX @tAgg18 <| aiX @tSz18 <| aiX @qf <| aiX @tZero18 <| aiX @mD <| aiX @qg <| aiX @qh <| aiX @tAgg21 <| aiX @tSz21 <| aiX @qi <| aiX @tZero21 <| aiX @tInt21 <| aiX @tUnd21 <| aiX @tAgg22 <| aiX @tSz22 <| (@qj)) :=
 aiX @qa <| aiX @qb <| aiX @qc <| aiX @tAgg17 <| aiX @tSz17 <| aiX @qd <| aiX @tZero17 <| aiX @qe <| aiX @tAgg18 <| aiX @tSz18 <| aiX @qf <| aiX @tZero18 <| aiX @mD <| aiX @qg <| aiX @qh <| aiX @tAgg21 <| aiX @tSz21 <| aiX @qi <| aiX @tZero21 <| aiX @tInt21 <| aiX @tUnd21 <| aiX @tAgg22 <| aiX @tSz22 <| (@qj)
theorem tyset3 : type_of% (aiX @tZero22 <| aiX @lX <| aiX @kU <| aiX @tAgg23 <| aiX @tSz23 <| aiX @qk <| aiX @tZero23 <| aiX @mE <| aiX @ql <| aiX @qm <| aiX @qn <| aiX @qo <| aiX @tAgg24 <| aiX @tSz24 <| aiX @qp <| aiX @tZero24 <| aiX @mF <| aiX @qq <| aiX @qr <| aiX @qs <| aiX @qt <| aiX @tAgg25 <| aiX @tSz25 <| (@qu)) :=
 aiX @tZero22 <| aiX @lX <| aiX @kU <| aiX @tAgg23 <| aiX @tSz23 <| aiX @qk <| aiX @tZero23 <| aiX @mE <| aiX @ql <| aiX @qm <| aiX @qn <| aiX @qo <| aiX @tAgg24 <| aiX @tSz24 <| aiX @qp <| aiX @tZero24 <| aiX @mF <| aiX @qq <| aiX @qr <| aiX @qs <| aiX @qt <| aiX @tAgg25 <| aiX @tSz25 <| (@qu)
theorem tyset4 : type_of% (aiX @tZero25 <| aiX @tElem25 <| aiX @kV <| aiX @tAgg26 <| aiX @tSz26 <| aiX @qv <| aiX @tZero26 <| aiX @mG <| aiX @qw <| aiX @qx <| aiX @qy <| aiX @qz <| aiX @qA <| aiX @tEq26 <| aiX @tAgg27 <| aiX @tSz27 <| aiX @qB <| aiX @tZero27 <| aiX @mH <| aiX @qC <| aiX @qD <| aiX @qE <| aiX @qF <| (@qG)) :=
 aiX @tZero25 <| aiX @tElem25 <| aiX @kV <| aiX @tAgg26 <| aiX @tSz26 <| aiX @qv <| aiX @tZero26 <| aiX @mG <| aiX @qw <| aiX @qx <| aiX @qy <| aiX @qz <| aiX @qA <| aiX @tEq26 <| aiX @tAgg27 <| aiX @tSz27 <| aiX @qB <| aiX @tZero27 <| aiX @mH <| aiX @qC <| aiX @qD <| aiX @qE <| aiX @qF <| (@qG)
theorem tyset5 : type_of% (aiX @tEq27 <| aiX @tAgg29 <| aiX @tSz29 <| aiX @qH <| aiX @tZero29 <| aiX @qI <| aiX @tAgg30 <| aiX @tSz30 <| aiX @qJ <| aiX @tZero30 <| aiX @tInt30 <| aiX @tUnd30 <| aiX @tAgg33 <| aiX @tSz33 <| aiX @qK <| aiX @tZero33 <| aiX @qL <| (@tAgg48)) :=
 aiX @tEq27 <| aiX @tAgg29 <| aiX @tSz29 <| aiX @qH <| aiX @tZero29 <| aiX @qI <| aiX @tAgg30 <| aiX @tSz30 <| aiX @qJ <| aiX @tZero30 <| aiX @tInt30 <| aiX @tUnd30 <| aiX @tAgg33 <| aiX @tSz33 <| aiX @qK <| aiX @tZero33 <| aiX @qL <| (@tAgg48)
theorem tyset6 : type_of% (aiX @tSz48 <| aiX @qM <| aiX @tZero48 <| aiX @mI <| aiX @qN <| aiX @qO <| aiX @qP <| aiX @tEq48 <| aiX @tAgg49 <| aiX @tSz49 <| aiX @qQ <| aiX @tZero49 <| aiX @mJ <| aiX @qR <| aiX @qS <| aiX @qT <| aiX @tEq49 <| aiX @tAgg50 <| aiX @tSz50 <| aiX @qU <| aiX @tZero50 <| aiX @tElem50 <| (@kW)) :=
 aiX @tSz48 <| aiX @qM <| aiX @tZero48 <| aiX @mI <| aiX @qN <| aiX @qO <| aiX @qP <| aiX @tEq48 <| aiX @tAgg49 <| aiX @tSz49 <| aiX @qQ <| aiX @tZero49 <| aiX @mJ <| aiX @qR <| aiX @qS <| aiX @qT <| aiX @tEq49 <| aiX @tAgg50 <| aiX @tSz50 <| aiX @qU <| aiX @tZero50 <| aiX @tElem50 <| (@kW)
theorem tyset7 : type_of% (aiX @tAgg55 <| aiX @tSz55 <| aiX @qV <| aiX @tZero55 <| (@mK)) :=
 aiX @tAgg55 <| aiX @tSz55 <| aiX @qV <| aiX @tZero55 <| (@mK)
theorem tyset8 : type_of% (aiX @qW <| aiX @qX <| aiX @qY <| aiX @qZ <| aiX @rb <| aiX @rc <| aiX @rd <| aiX @tEq55 <| aiX @tAgg56 <| aiX @tSz56 <| aiX @re <| aiX @tZero56 <| aiX @mL <| aiX @rf <| aiX @rg <| aiX @rh <| aiX @ri <| aiX @rj <| aiX @rl <| aiX @rm <| aiX @tEq56 <| aiX @tAgg58 <| aiX @tSz58 <| (@rn)) :=
 aiX @qW <| aiX @qX <| aiX @qY <| aiX @qZ <| aiX @rb <| aiX @rc <| aiX @rd <| aiX @tEq55 <| aiX @tAgg56 <| aiX @tSz56 <| aiX @re <| aiX @tZero56 <| aiX @mL <| aiX @rf <| aiX @rg <| aiX @rh <| aiX @ri <| aiX @rj <| aiX @rl <| aiX @rm <| aiX @tEq56 <| aiX @tAgg58 <| aiX @tSz58 <| (@rn)
theorem tyset9 : type_of% (aiX @tZero58 <| aiX @mM <| aiX @ro <| aiX @rp <| aiX @rq <| aiX @tEq58 <| aiX @tAgg59 <| aiX @tSz59 <| aiX @rr <| aiX @tZero59 <| aiX @mN <| aiX @rt <| aiX @ru <| aiX @rv <| aiX @tEq59 <| aiX @tAgg67 <| aiX @tSz67 <| aiX @rx <| aiX @tZero67 <| aiX @mO <| aiX @ry <| aiX @rz <| aiX @rA <| (@rB)) :=
 aiX @tZero58 <| aiX @mM <| aiX @ro <| aiX @rp <| aiX @rq <| aiX @tEq58 <| aiX @tAgg59 <| aiX @tSz59 <| aiX @rr <| aiX @tZero59 <| aiX @mN <| aiX @rt <| aiX @ru <| aiX @rv <| aiX @tEq59 <| aiX @tAgg67 <| aiX @tSz67 <| aiX @rx <| aiX @tZero67 <| aiX @mO <| aiX @ry <| aiX @rz <| aiX @rA <| (@rB)
theorem tyset10 : type_of% (aiX @rC <| aiX @tAgg68 <| aiX @tSz68 <| aiX @rD <| aiX @tZero68 <| aiX @mP <| aiX @rE <| aiX @rF <| aiX @rG <| aiX @rH <| aiX @rI <| aiX @tAgg69 <| aiX @tSz69 <| aiX @rJ <| aiX @tZero69 <| aiX @mQ <| aiX @rK <| aiX @rL <| aiX @rM <| aiX @rN <| aiX @rO <| aiX @tAgg70 <| aiX @tSz70 <| (@rP)) :=
 aiX @rC <| aiX @tAgg68 <| aiX @tSz68 <| aiX @rD <| aiX @tZero68 <| aiX @mP <| aiX @rE <| aiX @rF <| aiX @rG <| aiX @rH <| aiX @rI <| aiX @tAgg69 <| aiX @tSz69 <| aiX @rJ <| aiX @tZero69 <| aiX @mQ <| aiX @rK <| aiX @rL <| aiX @rM <| aiX @rN <| aiX @rO <| aiX @tAgg70 <| aiX @tSz70 <| (@rP)
theorem tyset11 : type_of% (aiX @tZero70 <| aiX @mR <| aiX @rQ <| aiX @rR <| aiX @rS <| aiX @rT <| aiX @rU <| aiX @tAgg101 <| aiX @tSz101 <| aiX @mS <| aiX @rV <| aiX @rW <| aiX @jR <| aiX @tAgg103 <| aiX @tSz103 <| aiX @mT <| aiX @rX <| aiX @kX <| aiX @mU <| aiX @mV <| aiX @mW <| aiX @tEq103 <| aiX @tAgg104 <| (@tSz104)) :=
 aiX @tZero70 <| aiX @mR <| aiX @rQ <| aiX @rR <| aiX @rS <| aiX @rT <| aiX @rU <| aiX @tAgg101 <| aiX @tSz101 <| aiX @mS <| aiX @rV <| aiX @rW <| aiX @jR <| aiX @tAgg103 <| aiX @tSz103 <| aiX @mT <| aiX @rX <| aiX @kX <| aiX @mU <| aiX @mV <| aiX @mW <| aiX @tEq103 <| aiX @tAgg104 <| (@tSz104)
theorem tyset12 : type_of% (aiX @mX <| aiX @rY <| aiX @kY <| aiX @mY <| aiX @mZ <| aiX @m6 <| aiX @tEq104 <| aiX @tAgg105 <| aiX @tSz105 <| aiX @m7 <| aiX @rZ <| aiX @m8 <| aiX @tAgg114 <| aiX @tSz114 <| aiX @m9 <| aiX @r7 <| aiX @kZ <| aiX @na <| aiX @nb <| aiX @nd <| aiX @tEq114 <| aiX @tAgg115 <| aiX @tSz115 <| (@ne)) :=
 aiX @mX <| aiX @rY <| aiX @kY <| aiX @mY <| aiX @mZ <| aiX @m6 <| aiX @tEq104 <| aiX @tAgg105 <| aiX @tSz105 <| aiX @m7 <| aiX @rZ <| aiX @m8 <| aiX @tAgg114 <| aiX @tSz114 <| aiX @m9 <| aiX @r7 <| aiX @kZ <| aiX @na <| aiX @nb <| aiX @nd <| aiX @tEq114 <| aiX @tAgg115 <| aiX @tSz115 <| (@ne)
theorem tyset13 : type_of% (aiX @r8 <| aiX @k6 <| aiX @ng <| aiX @nh <| aiX @ni <| aiX @tEq115 <| aiX @tAgg120 <| aiX @tSz120 <| aiX @nj <| aiX @sa <| aiX @k7 <| aiX @nk <| aiX @nl <| aiX @nm <| aiX @nn <| aiX @no <| aiX @tEq120 <| aiX @tAgg121 <| aiX @tSz121 <| aiX @np <| aiX @sb <| aiX @k8 <| aiX @nq <| (@nr)) :=
 aiX @r8 <| aiX @k6 <| aiX @ng <| aiX @nh <| aiX @ni <| aiX @tEq115 <| aiX @tAgg120 <| aiX @tSz120 <| aiX @nj <| aiX @sa <| aiX @k7 <| aiX @nk <| aiX @nl <| aiX @nm <| aiX @nn <| aiX @no <| aiX @tEq120 <| aiX @tAgg121 <| aiX @tSz121 <| aiX @np <| aiX @sb <| aiX @k8 <| aiX @nq <| (@nr)
theorem tyset14 : type_of% (aiX @nt <| aiX @nu <| aiX @nv <| aiX @tEq121 <| aiX @tAgg132 <| aiX @tSz132 <| aiX @nw <| aiX @sd <| aiX @se <| aiX @jS <| aiX @tAgg141 <| aiX @tSz141 <| aiX @ny <| aiX @sf <| aiX @sg <| aiX @jT <| aiX @tAgg143 <| aiX @tSz143 <| aiX @nz <| aiX @sh <| aiX @k9 <| aiX @nA <| aiX @nB <| (@nC)) :=
 aiX @nt <| aiX @nu <| aiX @nv <| aiX @tEq121 <| aiX @tAgg132 <| aiX @tSz132 <| aiX @nw <| aiX @sd <| aiX @se <| aiX @jS <| aiX @tAgg141 <| aiX @tSz141 <| aiX @ny <| aiX @sf <| aiX @sg <| aiX @jT <| aiX @tAgg143 <| aiX @tSz143 <| aiX @nz <| aiX @sh <| aiX @k9 <| aiX @nA <| aiX @nB <| (@nC)
theorem tyset15 : type_of% (aiX @nD <| aiX @tEq143 <| aiX @tAgg144 <| aiX @tSz144 <| aiX @nE <| aiX @si <| aiX @la <| aiX @nF <| aiX @nG <| aiX @nH <| aiX @nI <| aiX @tEq144 <| aiX @tAgg145 <| aiX @tSz145 <| aiX @nJ <| aiX @sj <| aiX @lb <| aiX @nK <| aiX @nL <| aiX @nM <| aiX @tEq145 <| aiX @tAgg146 <| aiX @tSz146 <| (@nN)) :=
 aiX @nD <| aiX @tEq143 <| aiX @tAgg144 <| aiX @tSz144 <| aiX @nE <| aiX @si <| aiX @la <| aiX @nF <| aiX @nG <| aiX @nH <| aiX @nI <| aiX @tEq144 <| aiX @tAgg145 <| aiX @tSz145 <| aiX @nJ <| aiX @sj <| aiX @lb <| aiX @nK <| aiX @nL <| aiX @nM <| aiX @tEq145 <| aiX @tAgg146 <| aiX @tSz146 <| (@nN)
theorem tyset16 : type_of% (aiX @sk <| aiX @lc <| aiX @nO <| aiX @nP <| aiX @nQ <| aiX @tEq146 <| aiX @tAgg152 <| aiX @tSz152 <| aiX @nR <| aiX @sm <| aiX @tIdx152 <| aiX @ld <| aiX @tAgg155 <| aiX @tSz155 <| aiX @nS <| aiX @sn <| aiX @so <| aiX @jU <| aiX @tAgg165 <| aiX @tSz165 <| aiX @nT <| aiX @sq <| aiX @lf <| (@nU)) :=
 aiX @sk <| aiX @lc <| aiX @nO <| aiX @nP <| aiX @nQ <| aiX @tEq146 <| aiX @tAgg152 <| aiX @tSz152 <| aiX @nR <| aiX @sm <| aiX @tIdx152 <| aiX @ld <| aiX @tAgg155 <| aiX @tSz155 <| aiX @nS <| aiX @sn <| aiX @so <| aiX @jU <| aiX @tAgg165 <| aiX @tSz165 <| aiX @nT <| aiX @sq <| aiX @lf <| (@nU)
theorem tyset17 : type_of% (aiX @nV <| aiX @nW <| aiX @tEq165 <| aiX @tAgg166 <| aiX @tSz166 <| aiX @nX <| aiX @sr <| aiX @ss <| aiX @jV <| aiX @tAgg175 <| aiX @tSz175 <| aiX @nY <| aiX @su <| aiX @tInt175 <| aiX @tUnd175 <| aiX @tAgg191 <| aiX @tSz191 <| aiX @nZ <| aiX @sw <| aiX @tIdx191 <| aiX @lg <| aiX @tAgg197 <| aiX @tSz197 <| (@n0)) :=
 aiX @nV <| aiX @nW <| aiX @tEq165 <| aiX @tAgg166 <| aiX @tSz166 <| aiX @nX <| aiX @sr <| aiX @ss <| aiX @jV <| aiX @tAgg175 <| aiX @tSz175 <| aiX @nY <| aiX @su <| aiX @tInt175 <| aiX @tUnd175 <| aiX @tAgg191 <| aiX @tSz191 <| aiX @nZ <| aiX @sw <| aiX @tIdx191 <| aiX @lg <| aiX @tAgg197 <| aiX @tSz197 <| (@n0)
theorem tyset18 : type_of% (aiX @sx <| aiX @tInt197 <| aiX @tUnd197 <| aiX @tAgg205 <| aiX @tSz205 <| aiX @n7 <| aiX @sy <| aiX @tInt205 <| aiX @tUnd205 <| aiX @tAgg207 <| aiX @tSz207 <| aiX @n8 <| aiX @sA <| aiX @tInt207 <| aiX @tUnd207 <| aiX @tAgg211 <| aiX @tSz211 <| aiX @n9 <| aiX @sB <| aiX @lh <| aiX @oa <| aiX @ob <| aiX @oc <| (@tEq211)) :=
 aiX @sx <| aiX @tInt197 <| aiX @tUnd197 <| aiX @tAgg205 <| aiX @tSz205 <| aiX @n7 <| aiX @sy <| aiX @tInt205 <| aiX @tUnd205 <| aiX @tAgg207 <| aiX @tSz207 <| aiX @n8 <| aiX @sA <| aiX @tInt207 <| aiX @tUnd207 <| aiX @tAgg211 <| aiX @tSz211 <| aiX @n9 <| aiX @sB <| aiX @lh <| aiX @oa <| aiX @ob <| aiX @oc <| (@tEq211)
theorem tyset19 : type_of% (aiX @tAgg212 <| aiX @tSz212 <| aiX @od <| aiX @sC <| aiX @li <| aiX @oe <| aiX @og <| aiX @oh <| aiX @tEq212 <| aiX @tAgg216 <| aiX @tSz216 <| aiX @oi <| aiX @sD <| aiX @tIdx216 <| aiX @lj <| aiX @tAgg217 <| aiX @tSz217 <| aiX @oj <| aiX @sE <| aiX @lk <| aiX @ol <| aiX @om <| aiX @oo <| (@tEq217)) :=
 aiX @tAgg212 <| aiX @tSz212 <| aiX @od <| aiX @sC <| aiX @li <| aiX @oe <| aiX @og <| aiX @oh <| aiX @tEq212 <| aiX @tAgg216 <| aiX @tSz216 <| aiX @oi <| aiX @sD <| aiX @tIdx216 <| aiX @lj <| aiX @tAgg217 <| aiX @tSz217 <| aiX @oj <| aiX @sE <| aiX @lk <| aiX @ol <| aiX @om <| aiX @oo <| (@tEq217)
theorem tyset20 : type_of% (aiX @tAgg218 <| aiX @tSz218 <| aiX @ot <| aiX @sF <| aiX @ll <| aiX @ov <| aiX @oA <| aiX @oB <| aiX @tEq218 <| aiX @tAgg221 <| aiX @tSz221 <| aiX @oC <| aiX @sG <| aiX @tInt221 <| aiX @tUnd221 <| aiX @tAgg225 <| aiX @tSz225 <| aiX @oD <| aiX @sH <| (@oE)) :=
 aiX @tAgg218 <| aiX @tSz218 <| aiX @ot <| aiX @sF <| aiX @ll <| aiX @ov <| aiX @oA <| aiX @oB <| aiX @tEq218 <| aiX @tAgg221 <| aiX @tSz221 <| aiX @oC <| aiX @sG <| aiX @tInt221 <| aiX @tUnd221 <| aiX @tAgg225 <| aiX @tSz225 <| aiX @oD <| aiX @sH <| (@oE)
theorem tyset21 : type_of% (aiX @tAgg234 <| aiX @tSz234 <| aiX @oF <| (@sI)) :=
 aiX @tAgg234 <| aiX @tSz234 <| aiX @oF <| (@sI)
theorem tyset22 : type_of% (aiX @oG <| aiX @tAgg237 <| aiX @tSz237 <| aiX @oH <| aiX @sJ <| aiX @oI <| aiX @tAgg240 <| aiX @tSz240 <| aiX @oJ <| aiX @sK <| aiX @lm <| aiX @oK <| aiX @oL <| aiX @oM <| aiX @oN <| aiX @oO <| aiX @tAgg250 <| aiX @tSz250 <| aiX @oP <| aiX @sL <| aiX @ln <| aiX @oQ <| aiX @oR <| (@oS)) :=
 aiX @oG <| aiX @tAgg237 <| aiX @tSz237 <| aiX @oH <| aiX @sJ <| aiX @oI <| aiX @tAgg240 <| aiX @tSz240 <| aiX @oJ <| aiX @sK <| aiX @lm <| aiX @oK <| aiX @oL <| aiX @oM <| aiX @oN <| aiX @oO <| aiX @tAgg250 <| aiX @tSz250 <| aiX @oP <| aiX @sL <| aiX @ln <| aiX @oQ <| aiX @oR <| (@oS)
theorem tyset23 : type_of% (aiX @oT <| aiX @oU <| aiX @oV <| aiX @oW <| aiX @oX <| aiX @oY <| aiX @oZ <| aiX @lp <| (@o0)) :=
 aiX @oT <| aiX @oU <| aiX @oV <| aiX @oW <| aiX @oX <| aiX @oY <| aiX @oZ <| aiX @lp <| (@o0)
theorem aG : type_of% (aiX @tyset0 <| aiX @tyset1 <| aiX @tyset2 <| aiX @tyset3 <| aiX @tyset4 <| aiX @tyset5 <| aiX @tyset6 <| aiX @tyset7 <| aiX @tyset8 <| aiX @tyset9 <| aiX @tyset10 <| aiX @tyset11 <| aiX @tyset12 <| aiX @tyset13 <| aiX @tyset14 <| aiX @tyset15 <| aiX @tyset16 <| aiX @tyset17 <| aiX @tyset18 <| aiX @tyset19 <| aiX @tyset20 <| aiX @tyset21 <| aiX @tyset22 <| (@tyset23)) :=
 aiX @tyset0 <| aiX @tyset1 <| aiX @tyset2 <| aiX @tyset3 <| aiX @tyset4 <| aiX @tyset5 <| aiX @tyset6 <| aiX @tyset7 <| aiX @tyset8 <| aiX @tyset9 <| aiX @tyset10 <| aiX @tyset11 <| aiX @tyset12 <| aiX @tyset13 <| aiX @tyset14 <| aiX @tyset15 <| aiX @tyset16 <| aiX @tyset17 <| aiX @tyset18 <| aiX @tyset19 <| aiX @tyset20 <| aiX @tyset21 <| aiX @tyset22 <| (@tyset23)

open Go.RowKit
theorem own : ownKnob Tryz.prog.godebug = none := by kernel_rfl
theorem jq : laidOutB Tryz.prog = true := by kernel_rfl
open Go.RowKit
def Sl (H : ac) (sz : Nat) (s : AV) (n : Nat) (xs : List AV) : Prop := ∃ b own cap, s = .sl (some (b, 0)) n cap ∧ H[b]? = some (.cells own sz xs)
theorem Sl.app {H : ac} {sz n : Nat} {s : AV} {xs : List AV} (h : Sl H sz s n xs) (l : ac) : Sl (H ++ l) sz s n xs := by
 obtain ⟨b, own, cap, h1, h2⟩ := h
 exact ⟨b, own, cap, h1, aq h2⟩
abbrev SlI (H : ac) (k : IntKind) (s : AV) (l : List Int) : Prop := Sl H 1 s l.length (ints k l)
def bb (n : Nat) : Option Nat := match n with | 0 => some 0 | _ + 1 => none
def aX (n : Nat) : Bool := match n with | 0 => false | _ + 1 => true
theorem lq : bb 0 = some 0 := rfl
theorem lr : aX 0 = false := rfl
theorem dU {n : Nat} : bb (n + 1) = none := rfl
theorem ownG_s {n : Nat} : aX (n + 1) = true := rfl
theorem iX {n : Nat} (h : 0 < n) : bb n = none := by cases n <;> first | rfl | omega
theorem dH {n : Nat} (h : 0 < n) : aX n = true := by cases n <;> first | rfl | omega
theorem bR {P : Program} {t : TypeId} {n : Nat} {c : Option Nat} {x : AV} {H : ac} : av P t (.sl none n c) x H = (cn P t).bind fun e => (tSz P e).bind fun sz => (aK P e).bind fun by_ => (aO P e).bind fun z => (aElems sz x H).bind fun mx =>
  (bj (z.length = sz ∧ 0 < sz ∧ 0 < by_)).bind fun _ => (bj (n = 0)).bind fun _ => bif mx.1 == 0 then some (.sl none 0 (some 0), H) else (bj (mx.1 * by_ ≤ 140737488355328)).map fun _ => (.sl (some (H.length, 0)) mx.1 none, H ++ [.cells true sz mx.2]) := rfl
theorem bB {P : Program} {t : TypeId} {b o n : Nat} {x : AV} {H : ac} : av P t (.sl (some (b, o)) n none) x H = (cn P t).bind fun e => (tSz P e).bind fun sz => (aK P e).bind fun by_ => (aO P e).bind fun z => (aElems sz x H).bind fun mx =>
  (bj (z.length = sz ∧ 0 < sz ∧ 0 < by_)).bind fun _ => (ards H b o (n * sz)).bind fun olds => (bj ((n + mx.1) * by_ ≤ 140737488355328)).bind fun _ =>
   bif n + mx.1 == 0 then some (.sl (some (b, o)) 0 none, H)
   else match H[b]? with
    | some (.cells true es _) => (bj (es = sz)).map fun _ => (.sl (some (H.length, 0)) (n + mx.1) none, H.set b .dead ++ [.cells true sz (olds ++ mx.2)])
    | _ => none := rfl
theorem bC {P : Program} {t : TypeId} {b o n c : Nat} {x : AV} {H : ac} : av P t (.sl (some (b, o)) n (some c)) x H = (cn P t).bind fun e => (tSz P e).bind fun sz => (aK P e).bind fun by_ => (aO P e).bind fun z => (aElems sz x H).bind fun mx =>
  (bj (z.length = sz ∧ 0 < sz ∧ 0 < by_)).bind fun _ => (ards H b o (n * sz)).bind fun olds => (bj ((n + mx.1) * by_ ≤ 140737488355328)).bind fun _ =>
   bif n + mx.1 == 0 then some (.sl (some (b, o)) 0 (some c), H)
   else bif decide (c < n + mx.1) then some (.sl (some (H.length, 0)) (n + mx.1) none, H ++ [.cells true sz (olds ++ mx.2)])
   else match H[b]? with
    | some (.cells true es _) => (bj (es = sz)).map fun _ => (.sl (some (H.length, 0)) (n + mx.1) none, H.set b .dead ++ [.cells true sz (olds ++ mx.2)])
    | _ => none := rfl
def killG (n : Nat) (X : ABlk) : ABlk := match n with | 0 => X | _ + 1 => .dead
theorem tR {P : Program} {t : TypeId} {b n : Nat} {x : AV} {H : ac} : av P t (.sl (some (b, 0)) n (bb n)) x H = (cn P t).bind fun e => (tSz P e).bind fun sz => (aK P e).bind fun by_ => (aO P e).bind fun z => (aElems sz x H).bind fun mx =>
  (bj (z.length = sz ∧ 0 < sz ∧ 0 < by_)).bind fun _ => match H[b]? with
   | some (.cells own es xs) => bif (own == aX n) && (decide (es = sz) && (decide (xs.length = n * sz) && (decide (0 < mx.1) && xs.all AV.one))) then
     (bj ((n + mx.1) * by_ ≤ 140737488355328)).map fun _ => (.sl (some (H.length, 0)) (n + mx.1) none, H.set b (killG n (.cells own es xs)) ++ [.cells true sz (xs ++ mx.2)])
    else av P t (.sl (some (b, 0)) n (bb n)) x H
   | _ => av P t (.sl (some (b, 0)) n (bb n)) x H := by
 cases h1 : cn P t with
 | none => simp [av, h1]
 | some e =>
 cases h2 : tSz P e with
 | none => simp [av, h1, h2]
 | some sz =>
 cases h3 : aK P e with
 | none => simp [av, h1, h2, h3]
 | some by_ =>
 cases h4 : aO P e with
 | none => simp [av, h1, h2, h3, h4]
 | some z =>
 cases h5 : aElems sz x H with
 | none => simp [av, h1, h2, h3, h4, h5]
 | some mx =>
 simp only [Option.bind_some, h2, h3, h4, h5]
 by_cases hz : z.length = sz ∧ 0 < sz ∧ 0 < by_
 ·have hn : bj (z.length = sz ∧ 0 < sz ∧ 0 < by_) = some () := if_pos hz
  rw [hn, Option.bind_some]
  split
  ·rename_i own es xs hb
   cases hc : (own == aX n) && (decide (es = sz) && (decide (xs.length = n * sz) && (decide (0 < mx.1) && xs.all AV.one))) with
   | false => rfl
   | true =>
    rw [cond_true]
    simp only [Bool.and_eq_true, beq_iff_eq, decide_eq_true_eq] at hc
    obtain ⟨rfl, rfl, hl, hm, ho⟩ := hc
    have hard : ards H b 0 (n * es) = some xs := by
     unfold ards
     rw [hb]
     simp only
     rw [List.drop_zero, List.take_of_length_le (by omega)]
     simp [hl, ho]
    cases n with
    | zero =>
     simp only [av, h1, h2, h3, h4, h5, Option.bind_some, hn, hard, bb, killG]
     have e0 : (0 + mx.1 == 0) = false := beq_eq_false_iff_ne.2 (by omega)
     rw [e0, cond_false, decide_eq_true (by omega : (0 : Nat) < 0 + mx.1), cond_true]
     have hs : H.set b (.cells (aX 0) es xs) = H := by
      refine List.ext_getElem? fun i => ?_
      rw [List.getElem?_set]
      split
      ·rename_i e; subst e
       split
       ·rw [hb]
       ·rename_i hh; exact absurd (getElem?_lt hb) hh
      ·rfl
     rw [hs]
     unfold bj
     split <;> rfl
    | succ n =>
     simp only [av, h1, h2, h3, h4, h5, Option.bind_some, hn, hard, bb, killG, hb, aX]
     have e0 : (n + 1 + mx.1 == 0) = false := beq_eq_false_iff_ne.2 (by omega)
     rw [e0, cond_false, cond_false]
     have e1 : bj True = some () := if_pos trivial
     rw [e1]
     unfold bj
     split <;> rfl
  ·rfl
 ·have hn : bj (z.length = sz ∧ 0 < sz ∧ 0 < by_) = none := if_neg hz
  simp only [av, h1, h2, h3, h4, h5, Option.bind_some, hn, Option.bind_none]
theorem cC {l : List (Int × Int)} : (prs l).all AV.one = true := by
 induction l with
 | nil => rfl
 | cons p l ih => rw [cG]; simp [AV.one, ih]
theorem cZ {k : IntKind} {l : List Int} : (ints k l).all AV.one = true := by simp [ints, AV.one]
theorem o6 {l : List Bool} : (cz l).all AV.one = true := by simp [cz, AV.one]
section
variable {P : Program} {f : FuncId} {args : List AV} {H l1 : ac} {x : AV}
theorem ACalls.weak (h : ACalls P f args H fun y H1 => y = x ∧ H1 = H ++ l1) (G : ac) (hG : G.all eV = true) (sel : List Nat) (hnd : sel.Nodup) (x2 : AV) (l2 : ac)
  (hw : W (H.length + (l1 ++ G).length) x (x2.mv (sig H.length (l1 ++ G).length sel)) ∧ eu (H.length + (l1 ++ G).length) (sig H.length (l1 ++ G).length sel) (l1 ++ G) sel l2) :
  ACalls P f args H fun y H1 => y = x2 ∧ H1 = H ++ l2 := fun E w vs hE hv => by
 refine (h E w vs hE hv).mono ?_
 rintro e w' ⟨E', v, H', x', he, ⟨rfl, rfl⟩, hle, hr, hemb⟩
 have hab := Abs.of (n := H.length) (H0 := H) (l1 := l1) (l2 := l2) (F1 := [(0, x')]) (F2 := [(0, x2)]) G hG rfl hE.bel sel hnd (fun p hp => by simp at hp; subst hp; exact hw.1) (dO hw.2).1 (dO hw.2).2
 obtain ⟨E2, l, f2, e2⟩ := hab.emb (a := ⟨#[v], []⟩) (by rw [hemb.n]; simp) (fun t => by
  unfold look
  cases t with
  | zero => simpa using hr
  | succ t => simp [look]; exact .any _) hemb
 refine ⟨E2, v, _, x2, he, ⟨rfl, rfl⟩, ?_, by have := f2 0; simpa [look] using this, e2⟩
 have hn := hE.n
 exact ⟨l.B.trans hle.B, l.w0.trans hle.w0, by rw [hn]; exact l.n, fun b hb => (l.loc b (by rw [← hn]; exact hb)).trans (hle.loc b hb)⟩
theorem ACalls.ghost {R : AV → ac → Prop} {es : Nat} (h : ACalls P f args (H ++ [.cells false es []]) R) : ACalls P f args H R := fun E w vs hE hv => by
 refine (h _ w vs (hE.phantom rfl) (hv.mono (E.le_push _))).mono ?_
 rintro e w' ⟨E', v, H', x, he, hR, hle, hr, hemb⟩
 exact ⟨E', v, H', x, he, hR, (E.le_push _).trans hle, hr, hemb⟩
theorem ACalls.wargs {args2 : List AV} {R : AV → ac → Prop} (h : ACalls P f args2 H R) (hw : Ws H.length args args2) : ACalls P f args H R := fun E w vs hE hv =>
 h E w vs hE (kQ (by rw [hE.n]; exact Nat.le_refl _) _ _ vs hw hv)
end
section
variable {P : Program} {f : FuncId} {H : ac}
end
theorem Abs.byN {H0 l1 : ac} {F1 F2 : Fr} (hsc : HBel H0.length H0) (h : er (H0.length + l1.length) (sig H0.length l1.length []) F1 F2) : Abs H0.length (sig H0.length l1.length []) F1 (H0 ++ l1) F2 H0 := by
 have := Abs.by (l1 := l1) (l2 := []) (F1 := F1) (F2 := F2) hsc [] (by simp) ⟨h, trivial⟩
 simpa using this
theorem jr {P : Program} {fn : Func} {H l2 : ac} {R : AV → ac → Prop} {F : Fr} {e : Exit} (he : e = .ret ∨ e = .normal) (hbel : HBel H.length H) {x1 : AV} (x2 : AV) (hx : cM P fn F H = some x1) (G : ac) (hG : G.all eV = true) (sel : List Nat) (hnd : sel.Nodup) (hR : R x2 (H ++ l2))
  (h : W (H.length + G.length) x1 (x2.mv (sig H.length G.length sel)) ∧ eu (H.length + G.length) (sig H.length G.length sel) G sel l2) : dr P fn H.length R e F H := by
 have h1 := aY (P := P) (fn := fn) (l1 := []) (l2 := l2) (R := R) (F := F) he hbel x2 (by simpa using hx) G hG sel hnd hR h
 simpa using h1
theorem sM {k : IntKind} {l m : List Int} : ints k (l ++ m) = ints k l ++ ints k m := by simp [ints]
theorem o7 {k : IntKind} {x : Int} {l : List Int} : ints k (x :: l) = .int k x :: ints k l := rfl
theorem kh {k : IntKind} : ints k [] = [] := rfl
theorem o8 {l m : List Bool} : cz (l ++ m) = cz l ++ cz m := by simp [cz]
theorem lu {x : Bool} {l : List Bool} : cz (x :: l) = .bool x :: cz l := rfl
theorem o9 : cz [] = [] := rfl
set_option linter.unusedSimpArgs false
set_option linter.unusedVariables false
open Go.RowKit
def sN (P : Program) (t : TypeId) (s x : AV) (H : ac) : Option (AV × ac) := av P t s x H
theorem bS {P : Program} {t : TypeId} {b n : Nat} {x : AV} {H : ac} : av P t (.sl (some (b, 0)) n (bb n)) x H = (cn P t).bind fun e => (tSz P e).bind fun sz => (aK P e).bind fun by_ => (aO P e).bind fun z => (aElems sz x H).bind fun mx =>
  (bj (z.length = sz ∧ 0 < sz ∧ 0 < by_)).bind fun _ => match H[b]? with
   | some (.cells own es xs) => bif (own == aX n) && (decide (es = sz) && (decide (xs.length = n * sz) && (decide (0 < mx.1) && xs.all AV.one))) then
     (bj ((n + mx.1) * by_ ≤ 140737488355328)).map fun _ => (.sl (some (H.length, 0)) (n + mx.1) none, H.set b (killG n (.cells own es xs)) ++ [.cells true sz (xs ++ mx.2)])
    else sN P t (.sl (some (b, 0)) n (bb n)) x H
   | _ => sN P t (.sl (some (b, 0)) n (bb n)) x H := tR
theorem lw {m b : Nat} (h : b < m) : W m (.sl none 0 (some 0)) (.sl (some (b, 0)) 0 none) = True := eq_true (dj h (.inl rfl))
theorem lx {m b : Nat} (h : b < m) : W m (.sl none 0 (some 0)) (.sl (some (b, 0)) 0 (some 0)) = True := eq_true (dj h (.inr rfl))
theorem ly {m n : Nat} {p : Nat × Nat} {c : Option Nat} : W m (.sl (some p) n c) (.sl (some p) n none) = True := eq_true ij
theorem js {m b : Nat} (h : b < m) : Wc m (.sl none 0 (some 0)) (.sl (some (b, 0)) 0 none) = True := eq_true (de h (.inl rfl))
theorem jt {m b : Nat} (h : b < m) : Wc m (.sl none 0 (some 0)) (.sl (some (b, 0)) 0 (some 0)) = True := eq_true (de h (.inr rfl))
theorem ju {m n : Nat} {p : Nat × Nat} {c : Option Nat} : Wc m (.sl (some p) n c) (.sl (some p) n none) = True := eq_true gw
theorem be (a b : Int) : (a == b) = decide (a = b) := rfl
theorem bg (a b : Int) : (a != b) = !decide (a = b) := rfl
theorem rem_nat (a b : Nat) : Int.tmod (a : Int) (b : Int) = ((a % b : Nat) : Int) := rfl
section
variable {P : Program} {H : ac} {n : Nat}
theorem LTy.intsU {t e : TypeId} {k : IntKind} {x : AV} (ht : P.underlying t = some (.slice e)) (he : P.underlying e = some (.int k)) (hl : bQ P (n + 1) e = some [e]) (h : LTy P H (n + 2) t x) : ∃ l : List Int, SlI H k x l ∧ l.length ≤ maxLen ∧ ∀ z ∈ l, (Lit.int k z).wf = true := by
 obtain ⟨b, rows, rfl, h1, h2, h3⟩ := h.slice ht hl
 obtain ⟨l, k1, k2, k3⟩ := iW he rows h3
 exact ⟨l, ⟨b, false, none, by rw [k1], by rw [← k2]; exact h2⟩, by omega, k3⟩
end
theorem aQ {p q : Prop} (hq : q) (h : q → p := by
 intro hq
 simp -implicitDefEqProofs (disch := omega) only [bR, bB, bC, bS, simprocAttr, aF, aG, Function.comp_apply, one1, lenV, ap, az, aA, aop, AV.ofValue, AV.ofCell, AV.cells, AV.flat, AV.one, arep, aP, aE]
 repeat refine And.intro (by clear hq; omega) ?_
 exact hq) : p := h hq
theorem aa {p q r : Prop} (f : r) (hq : q) (h : r → q → p := by
 intro hs hq
 simp -implicitDefEqProofs (disch := omega) only [hs, bR, bB, bC, bS, simprocAttr, aF, aG, Function.comp_apply, one1, lenV, ap, az, aA, aop, AV.ofValue, AV.ofCell, AV.cells, AV.flat, AV.one, arep, aP, aE]
 repeat refine And.intro (by clear hq; omega) ?_
 exact hq) : p := h f hq
theorem runD {p q : Prop} (hq : q) (h : q → p := by
 intro hq
 simp -implicitDefEqProofs (disch := omega) only [gL, bR, bB, bC, bS, simprocAttr, aF, aG, Function.comp_apply, one1, lenV, ap, az, aA, aop, AV.ofValue, AV.ofCell, AV.cells, AV.flat, AV.one, arep, aP, aE]
 repeat refine And.intro (by clear hq; omega) ?_
 exact hq) : p := h hq
theorem aw {p q r : Prop} (f : r) (hq : q) (h : r → q → p := by
 intro hs hq
 simp -implicitDefEqProofs (disch := omega) only [hs, gL, bR, bB, bC, bS, simprocAttr, aF, aG, Function.comp_apply, one1, lenV, ap, az, aA, aop, AV.ofValue, AV.ofCell, AV.cells, AV.flat, AV.one, arep, aP, aE]
 repeat refine And.intro (by clear hq; omega) ?_
 exact hq) : p := h f hq
theorem bsT {p q : Prop} (h : p) (e : p → q := by
 intro h
 try simp only [boolset, beq_iff_eq, ne_eq] at h
 exact h) : q := e h
theorem bnT {p q : Prop} (h : p) (e : p → q := by
 intro h
 try simp only [bg, be, Bool.not_eq_true', Bool.not_eq_false', Bool.not_not] at h
 exact h) : q := e h
set_option linter.unusedSimpArgs false
set_option linter.unusedVariables false
open Go.RowKit
abbrev Pt := Int × Int
def crs (a b : Pt) : Int := a.1 * b.2 - a.2 * b.1
def up (p : Pt) : Prop := 0 < p.2 ∨ (p.2 = 0 ∧ 0 < p.1)
instance (p : Pt) : Decidable (up p) := inferInstanceAs (Decidable (_ ∨ _))
theorem crs_self (a : Pt) : crs a a = 0 := by unfold crs; rw [Int.mul_comm]; omega
theorem crs_anti (a b : Pt) : crs b a = -crs a b := by unfold crs; rw [Int.mul_comm b.1, Int.mul_comm b.2]; omega
def padd (a b : Pt) : Pt := (a.1 + b.1, a.2 + b.2)
theorem tS (a b c : Pt) : padd (padd a b) c = padd a (padd b c) := by simp [padd, Int.add_assoc]
theorem padd_zero (a : Pt) : padd a (0, 0) = a := by simp [padd]
theorem pd (a : Pt) : padd (0, 0) a = a := by simp [padd]
def fJ : List Pt → Pt → Pt
 | [], _ => (0, 0)
 | h :: l, g => if crs h g = 0 then padd h (fJ l g) else fJ l g
theorem jW (g : Pt) : ∀ l m : List Pt, fJ (l ++ m) g = padd (fJ l g) (fJ m g)
 | [], m => by rw [List.nil_append]; exact (pd _).symm
 | h :: l, m => by
  simp only [List.cons_append, fJ, jW g l m]
  split
  ·rw [tS]
  ·rfl
theorem pe {l : List Pt} {g : Pt} (h : ∀ e ∈ l, crs e g ≠ 0) : fJ l g = (0, 0) := by
 induction l with
 | nil => rfl
 | cons x l ih =>
  simp only [fJ]
  rw [if_neg (h x (by simp)), ih fun e he => h e (by simp [he])]
structure Can (C S : List Pt) : Prop where
 sorted : C.Pairwise fun a b => 0 < crs a b
 ups : ∀ e ∈ C, up e
 sums : ∀ g, up g → fJ C g = fJ S g
theorem Can.own {C S : List Pt} (h : Can C S) {e : Pt} (he : e ∈ C) : fJ C e = e := by
 obtain ⟨A, B, rfl⟩ := List.append_of_mem he
 have hs := h.sorted
 rw [List.pairwise_append] at hs
 obtain ⟨h1, h2, h3⟩ := hs
 rw [List.pairwise_cons] at h2
 rw [jW]
 simp only [fJ, crs_self, if_true]
 rw [pe (l := A) fun a ha => by have := h3 a ha e (by simp); omega, pe (l := B) fun b hb => by have := h2.1 b hb; rw [crs_anti]; omega, padd_zero, pd]
theorem iY {r : Pt → Pt → Prop} (has : ∀ a b, r a b → ¬ r b a) : ∀ (l m : List Pt), l.Pairwise r → m.Pairwise r → (∀ x, x ∈ l ↔ x ∈ m) → l = m
 | [], [], _, _, _ => rfl
 | [], b :: m, _, _, h => absurd ((h b).2 (by simp)) (by simp)
 | a :: l, [], _, _, h => absurd ((h a).1 (by simp)) (by simp)
 | a :: l, b :: m, h1, h2, h => by
  rw [List.pairwise_cons] at h1 h2
  have hirr : ∀ x, ¬ r x x := fun x hx => has x x hx hx
  have hab : a = b := by
   rcases List.mem_cons.1 ((h a).1 (by simp)) with e | hm
   ·exact e
   ·rcases List.mem_cons.1 ((h b).2 (by simp)) with e | hl
    ·exact e.symm
    ·exact absurd (h1.1 b hl) (has _ _ (h2.1 a hm))
  subst hab
  have : l = m := iY has l m h1.2 h2.2 fun x => by
   constructor
   ·intro hx
    rcases List.mem_cons.1 ((h x).1 (by simp [hx])) with e | hm
    ·subst e; exact absurd (h1.1 x hx) (hirr x)
    ·exact hm
   ·intro hx
    rcases List.mem_cons.1 ((h x).2 (by simp [hx])) with e | hm
    ·subst e; exact absurd (h2.1 x hx) (hirr x)
    ·exact hm
  rw [this]
open Go.RowKit
def rowR (p : Int → Int → Bool) (x0 y : Int) : Nat → List Pt
 | 0 => []
 | n + 1 => rowR p x0 y n ++ (if p (x0 + n) y = true then [(x0 + n, y)] else [])
def cr (p : Int → Int → Bool) (x0 : Int) (w : Nat) (y0 : Int) : Nat → List Pt
 | 0 => []
 | n + 1 => cr p x0 w y0 n ++ rowR p x0 (y0 + n) w
def cO (a b : Pt) : Prop := a.2 < b.2 ∨ (a.2 = b.2 ∧ a.1 < b.1)
theorem befP_anti (a b : Pt) (h : cO a b) : ¬ cO b a := by unfold cO at *; omega
theorem sO {p : Int → Int → Bool} {x0 y : Int} : ∀ {n : Nat} {c : Pt}, c ∈ rowR p x0 y n ↔ (x0 ≤ c.1 ∧ c.1 < x0 + n) ∧ c.2 = y ∧ p c.1 c.2 = true
 | 0, c => by simp only [rowR, List.not_mem_nil, false_iff]; omega
 | n + 1, c => by
  rw [rowR, List.mem_append, sO]
  constructor
  ·rintro (h | h)
   ·exact ⟨by omega, h.2⟩
   ·split at h
    ·rename_i hp
     simp only [List.mem_singleton] at h
     subst h
     exact ⟨by simp only; omega, rfl, hp⟩
    ·cases h
  ·rintro ⟨h1, h2, h3⟩
   rcases (by omega : c.1 < x0 + n ∨ x0 + n ≤ c.1) with h | h
   ·exact .inl ⟨by omega, h2, h3⟩
   ·right
    have e : c = (x0 + n, y) := Prod.ext (by simp only; omega) h2
    rw [e] at h3
    rw [if_pos h3, e]; simp
theorem pf {p : Int → Int → Bool} {x0 y0 : Int} {w : Nat} : ∀ {n : Nat} {c : Pt}, c ∈ cr p x0 w y0 n ↔ (x0 ≤ c.1 ∧ c.1 < x0 + w) ∧ (y0 ≤ c.2 ∧ c.2 < y0 + n) ∧ p c.1 c.2 = true
 | 0, c => by simp only [cr, List.not_mem_nil, false_iff]; omega
 | n + 1, c => by
  rw [cr, List.mem_append, pf, sO]
  constructor
  ·rintro (h | h)
   ·exact ⟨h.1, by omega, h.2.2⟩
   ·exact ⟨h.1, by omega, h.2.2⟩
  ·rintro ⟨h1, h2, h3⟩
   rcases (by omega : c.2 < y0 + n ∨ y0 + n ≤ c.2) with h | h
   ·exact .inl ⟨h1, by omega, h3⟩
   ·exact .inr ⟨h1, by omega, h3⟩
theorem eq_sorted {l m : List Pt} (hl : l.Pairwise cO) (hm : m.Pairwise cO) (h : ∀ c, c ∈ l ↔ c ∈ m) : l = m := iY befP_anti l m hl hm h
theorem ki {p : Int → Int → Bool} {x0 y : Int} : ∀ n : Nat, (rowR p x0 y n).length ≤ n
 | 0 => Nat.le_refl _
 | n + 1 => by
  have := ki (p := p) (x0 := x0) (y := y) n
  rw [rowR, List.length_append]
  split
  ·rw [List.length_singleton]; omega
  ·rw [List.length_nil]; omega
theorem iZ {p : Int → Int → Bool} {x0 y0 : Int} {w : Nat} : ∀ n : Nat, (cr p x0 w y0 n).length ≤ n * w
 | 0 => by simp [cr]
 | n + 1 => by
  have := iZ (p := p) (x0 := x0) (y0 := y0) (w := w) n
  have := ki (p := p) (x0 := x0) (y := y0 + n) w
  rw [cr, List.length_append, Nat.succ_mul]; omega
end Go.Proofs.YtidlfjajjieepaaGreat
namespace Go.Proofs
open Go.Shelf
def Tryz.lays128_ren : Go.Shelf.Ren := ⟨fun | 128 => 207 | n => n, fun | 51 => 205 | 3 => 3 | 4 => 4 | 46 => 175 | 5 => 5 | 9 => 9 | n => n, fun | n => n⟩
theorem Tryz.lays128 : Go.Proofs.Lays.n128 Tryz.prog Tryz.lays128_ren := {
 mixed := by kernel_rfl
 f128 := Tryz.func207.trans (congrArg some (by kernel_rfl))
 t3 := Tryz.underlying3
 a3 := Tryz.isAgg3
 z3 := Tryz.sizeOf3
 v3 := Tryz.zeroValue3
 t4 := Tryz.underlying4
 a4 := Tryz.isAgg4
 z4 := Tryz.sizeOf4
 v4 := Tryz.zeroValue4
 t5 := Tryz.underlying5
 a5 := Tryz.isAgg5
 z5 := Tryz.sizeOf5
 v5 := Tryz.zeroValue5
 t9 := Tryz.underlying9
 a9 := Tryz.isAgg9
 z9 := Tryz.sizeOf9
 v9 := Tryz.zeroValue9
 t46 := Tryz.underlying175
 a46 := Tryz.isAgg175
 z46 := Tryz.sizeOf175
 v46 := Tryz.zeroValue175
 t51 := Tryz.underlying205
 a51 := Tryz.isAgg205
 z51 := Tryz.sizeOf205
 v51 := Tryz.zeroValue205 }
theorem Tryz.bits_Len32 (x : Int) (w : World) (h0 : 0 ≤ x) (h1 : x ≤ 4294967295) :
  Calls Tryz.prog 207 #[.int .u32 x] w fun e w' => e = .returned (.int .i64 (Lib.bitLen x.toNat)) ∧ w' = w := Any.bits_Len32 Tryz.lays128 x w h0 h1
def Tryz.lays125_ren : Go.Shelf.Ren := ⟨fun | 125 => 167 | 128 => 207 | 129 => 208 | n => n, fun | 46 => 175 | 3 => 3 | 51 => 205 | 53 => 207 | 4 => 4 | 5 => 5 | 9 => 9 | n => n, fun | n => n⟩
theorem Tryz.lays125 : Go.Proofs.Lays.n125 Tryz.prog Tryz.lays125_ren := {
 mixed := by kernel_rfl
 f125 := Tryz.func167.trans (congrArg some (by kernel_rfl))
 f128 := Tryz.func207.trans (congrArg some (by kernel_rfl))
 f129 := Tryz.func208.trans (congrArg some (by kernel_rfl))
 t3 := Tryz.underlying3
 a3 := Tryz.isAgg3
 z3 := Tryz.sizeOf3
 v3 := Tryz.zeroValue3
 t4 := Tryz.underlying4
 a4 := Tryz.isAgg4
 z4 := Tryz.sizeOf4
 v4 := Tryz.zeroValue4
 t5 := Tryz.underlying5
 a5 := Tryz.isAgg5
 z5 := Tryz.sizeOf5
 v5 := Tryz.zeroValue5
 t9 := Tryz.underlying9
 a9 := Tryz.isAgg9
 z9 := Tryz.sizeOf9
 v9 := Tryz.zeroValue9
 t46 := Tryz.underlying175
 a46 := Tryz.isAgg175
 z46 := Tryz.sizeOf175
 v46 := Tryz.zeroValue175
 t51 := Tryz.underlying205
 a51 := Tryz.isAgg205
 z51 := Tryz.sizeOf205
 v51 := Tryz.zeroValue205
 t53 := Tryz.underlying207
 a53 := Tryz.isAgg207
 z53 := Tryz.sizeOf207
 v53 := Tryz.zeroValue207 }
theorem Tryz.bits_Len (x : Int) (w : World) (h0 : 0 ≤ x) (h1 : x ≤ 18446744073709551615) :
  Calls Tryz.prog 167 #[.int .u64 x] w fun e w' => e = .returned (.int .i64 (Lib.bitLen x.toNat)) ∧ w' = w := Any.bits_Len Tryz.lays125 x w h0 h1
def Tryz.lays129_ren : Go.Shelf.Ren := ⟨fun | 129 => 208 | n => n, fun | 53 => 207 | 3 => 3 | 4 => 4 | 46 => 175 | 5 => 5 | 9 => 9 | n => n, fun | n => n⟩
theorem Tryz.lays129 : Go.Proofs.Lays.n129 Tryz.prog Tryz.lays129_ren := {
 mixed := by kernel_rfl
 f129 := Tryz.func208.trans (congrArg some (by kernel_rfl))
 t3 := Tryz.underlying3
 a3 := Tryz.isAgg3
 z3 := Tryz.sizeOf3
 v3 := Tryz.zeroValue3
 t4 := Tryz.underlying4
 a4 := Tryz.isAgg4
 z4 := Tryz.sizeOf4
 v4 := Tryz.zeroValue4
 t5 := Tryz.underlying5
 a5 := Tryz.isAgg5
 z5 := Tryz.sizeOf5
 v5 := Tryz.zeroValue5
 t9 := Tryz.underlying9
 a9 := Tryz.isAgg9
 z9 := Tryz.sizeOf9
 v9 := Tryz.zeroValue9
 t46 := Tryz.underlying175
 a46 := Tryz.isAgg175
 z46 := Tryz.sizeOf175
 v46 := Tryz.zeroValue175
 t53 := Tryz.underlying207
 a53 := Tryz.isAgg207
 z53 := Tryz.sizeOf207
 v53 := Tryz.zeroValue207 }
theorem Tryz.bits_Len64 (x : Int) (w : World) (h0 : 0 ≤ x) (h1 : x ≤ 18446744073709551615) :
  Calls Tryz.prog 208 #[.int .u64 x] w fun e w' => e = .returned (.int .i64 (Lib.bitLen x.toNat)) ∧ w' = w := Any.bits_Len64 Tryz.lays129 x w h0 h1
def Tryz.sort125_ren : Go.Shelf.Ren := ⟨fun | 6 => 125 | 15 => 167 | 14 => 166 | 28 => 207 | 29 => 208 | 20 => 199 | 21 => 200 | 22 => 201 | 23 => 202 | 24 => 203 | 25 => 204 | 26 => 205 | 27 => 206 | 46 => 225 | 47 => 226 | 48 => 227 | 49 => 228 | 50 => 229 | 57 => 242 | n => n, fun | 22 => 101 | 24 => 104 | 25 => 138 | 3 => 3 | 39 => 175 | 0 => 0 | 53 => 205 | 55 => 207 | 4 => 4 | 46 => 198 | 45 => 197 | 50 => 202 | 5 => 5 | 9 => 9 | 66 => 221 | 70 => 225 | 76 => 234 | 77 => 208 | n => n, fun | n => n⟩
theorem Tryz.sort125 : Go.Proofs.SlLaysF0.n6 Tryz.prog Tryz.sort125_ren := {
 mixed := by kernel_rfl
 f6 := ⟨Tryz.f125.name, by decide, Tryz.func125.trans (congrArg some (by kernel_rfl))⟩
 f14 := ⟨Tryz.f166.name, by decide, Tryz.func166.trans (congrArg some (by kernel_rfl))⟩
 f15 := Tryz.func167.trans (congrArg some (by kernel_rfl))
 f20 := ⟨Tryz.f199.name, by decide, Tryz.func199.trans (congrArg some (by kernel_rfl))⟩
 f21 := ⟨Tryz.f200.name, by decide, Tryz.func200.trans (congrArg some (by kernel_rfl))⟩
 f22 := ⟨Tryz.f201.name, by decide, Tryz.func201.trans (congrArg some (by kernel_rfl))⟩
 f23 := ⟨Tryz.f202.name, by decide, Tryz.func202.trans (congrArg some (by kernel_rfl))⟩
 f24 := ⟨Tryz.f203.name, by decide, Tryz.func203.trans (congrArg some (by kernel_rfl))⟩
 f25 := ⟨Tryz.f204.name, by decide, Tryz.func204.trans (congrArg some (by kernel_rfl))⟩
 f26 := ⟨Tryz.f205.name, by decide, Tryz.func205.trans (congrArg some (by kernel_rfl))⟩
 f27 := ⟨Tryz.f206.name, by decide, Tryz.func206.trans (congrArg some (by kernel_rfl))⟩
 f28 := Tryz.func207.trans (congrArg some (by kernel_rfl))
 f29 := Tryz.func208.trans (congrArg some (by kernel_rfl))
 f46 := ⟨Tryz.f225.name, by decide, Tryz.func225.trans (congrArg some (by kernel_rfl))⟩
 f47 := Tryz.func226.trans (congrArg some (by kernel_rfl))
 f48 := Tryz.func227.trans (congrArg some (by kernel_rfl))
 f49 := ⟨Tryz.f228.name, by decide, Tryz.func228.trans (congrArg some (by kernel_rfl))⟩
 f50 := ⟨Tryz.f229.name, by decide, Tryz.func229.trans (congrArg some (by kernel_rfl))⟩
 f57 := ⟨Tryz.f242.name, by decide, Tryz.func242.trans (congrArg some (by kernel_rfl))⟩
 t0 := Tryz.underlying0
 a0 := Tryz.isAgg0
 z0 := Tryz.sizeOf0
 v0 := Tryz.zeroValue0
 t3 := Tryz.underlying3
 a3 := Tryz.isAgg3
 z3 := Tryz.sizeOf3
 v3 := Tryz.zeroValue3
 t4 := Tryz.underlying4
 a4 := Tryz.isAgg4
 z4 := Tryz.sizeOf4
 v4 := Tryz.zeroValue4
 t5 := Tryz.underlying5
 a5 := Tryz.isAgg5
 z5 := Tryz.sizeOf5
 v5 := Tryz.zeroValue5
 t9 := Tryz.underlying9
 a9 := Tryz.isAgg9
 z9 := Tryz.sizeOf9
 v9 := Tryz.zeroValue9
 t22 := Tryz.underlying101
 a22 := Tryz.isAgg101
 z22 := Tryz.sizeOf101
 v22 := Tryz.zeroValue101
 t25 := Tryz.underlying138
 a25 := Tryz.isAgg138
 z25 := Tryz.sizeOf138
 v25 := Tryz.zeroValue138
 t39 := Tryz.underlying175
 a39 := Tryz.isAgg175
 z39 := Tryz.sizeOf175
 v39 := Tryz.zeroValue175
 t45 := Tryz.underlying197
 a45 := Tryz.isAgg197
 z45 := Tryz.sizeOf197
 v45 := Tryz.zeroValue197
 t46 := Tryz.underlying198
 a46 := Tryz.isAgg198
 z46 := Tryz.sizeOf198
 v46 := Tryz.zeroValue198
 t50 := Tryz.underlying202
 a50 := Tryz.isAgg202
 z50 := Tryz.sizeOf202
 v50 := Tryz.zeroValue202
 t53 := Tryz.underlying205
 a53 := Tryz.isAgg205
 z53 := Tryz.sizeOf205
 v53 := Tryz.zeroValue205
 t55 := Tryz.underlying207
 a55 := Tryz.isAgg207
 z55 := Tryz.sizeOf207
 v55 := Tryz.zeroValue207
 t66 := Tryz.underlying221
 a66 := Tryz.isAgg221
 z66 := Tryz.sizeOf221
 v66 := Tryz.zeroValue221
 t70 := Tryz.underlying225
 a70 := Tryz.isAgg225
 z70 := Tryz.sizeOf225
 v70 := Tryz.zeroValue225
 t76 := Tryz.underlying234
 a76 := Tryz.isAgg234
 z76 := Tryz.sizeOf234
 v76 := Tryz.zeroValue234
 t77 := Tryz.underlying208
 a77 := Tryz.isAgg208
 z77 := Tryz.sizeOf208
 v77 := Tryz.zeroValue208 }
end Go.Proofs
namespace Go.Proofs.YtidlfjajjieepaaGreat
set_option linter.unusedSimpArgs false
set_option linter.unusedVariables false
open Go.RowKit Go.Sort
theorem tT (w : World) (os : Array Obj) : Below w.heap.size w (Go.Sort.grow w os) := ⟨rfl, rfl, rfl, by simp [grow], fun k hk => heap_grow_old w os hk⟩
theorem tU {xs ys : List AV} (h : ys.length = xs.length) : splice xs 0 ys = ys := by
 have hl : 0 + ys.length ≤ xs.length := by omega
 refine List.ext_getElem? fun j => ?_
 rw [fR hl]
 by_cases hj : j < ys.length
 ·rw [if_pos ⟨by omega, by omega⟩, Nat.sub_zero]
 ·rw [if_neg (by omega), List.getElem?_eq_none (by omega), List.getElem?_eq_none (by omega)]
theorem kj {E : Env} : ∀ (l : List (Int × Int)), RelL E (prs l) (d5 l)
 | [] => .nil E
 | p :: l => .cons (.int _ _) (.cons (.int _ _) (kj l))
theorem sP : ∀ (l : List (Int × Int)), (prs l).all AV.one = true
 | [] => rfl
 | p :: l => by rw [cG]; simp [AV.one, sP l]
section
variable {E : Env} {H : ac} {w : World}
theorem Emb.putP (h : Emb E H w) {b q : Nat} {zs ys : List (Int × Int)} (hg : H[b]? = some (.cells true 2 (prs zs))) (hl : ys.length = zs.length) (os : Array Obj) :
  Emb E (H.set b (.cells true 2 (prs ys))) (Go.Sort.grow ((w.drewN q).setCells (E.loc b).blk ((E.loc b).off) (d5 ys)) os) := by
 have h0 : Emb E H (w.drewN q) := h.up (below_drewN (Below.refl _ _) q)
 have hw : awrite H b 0 (prs ys) = some (H.set b (.cells true 2 (prs ys))) := by
  unfold awrite
  rw [hg]
  simp only
  rw [if_pos ⟨by simp [bp, hl], sP ys⟩, tU (by simp [bp, hl])]
 exact ((h0.write (kj ys) hw).2.2.2).up (tT _ os)
end
def encP {α : Type} (val : α → Int × Int) (x : α) : List Value := [.int .i64 (val x).1, .int .i64 (val x).2]
theorem pg {α : Type} [Inhabited α] (val : α → Int × Int) (zs : List α) : flatK (encP val) 2 zs.toArray = (d5 (zs.map val)).toArray := by
 refine ext_get! (by simp [j6]) fun t ht => ?_
 have ht' : t < zs.length * 2 := by simpa using ht
 rw [get_flatK _ _ _ _ (by simpa using ht')]
 have hj : t / 2 < zs.length := by omega
 obtain ⟨e1, e2⟩ := enc2_at (zs.map val) (t / 2) (by simpa using hj)
 have hx : zs.toArray[t / 2]! = zs[t / 2] := by simp [hj]
 rw [hx]
 have hr : (d5 (zs.map val)).toArray[t]! = ((d5 (zs.map val))[t]?).getD default := by simp [List.getElem!_eq_getElem?_getD]
 rw [hr]
 rcases Nat.mod_two_eq_zero_or_one t with h | h
 ·have : t = t / 2 * 2 := by omega
  rw [← this] at e1
  rw [h, e1]
  simp [encP]
 ·have : t = t / 2 * 2 + 1 := by omega
  rw [← this] at e2
  rw [h, e2]
  simp [encP]
set_option linter.unusedSimpArgs false
set_option linter.unusedVariables false
open Go.RowKit
theorem Can.nil : Can [] [] := ⟨.nil, by simp, fun _ _ => rfl⟩
open Go.RowKit Go.Sort
def fK (x y : Int) : Int := if x < y then -1 else if y < x then 1 else 0
def Bd (M : Int) (p : Pt) : Prop := -M ≤ p.1 ∧ p.1 ≤ M ∧ -M ≤ p.2 ∧ p.2 ≤ M
theorem bE {a b A B : Int} (h1 : -A ≤ a ∧ a ≤ A) (h2 : -B ≤ b ∧ b ≤ B) : -(A * B) ≤ a * b ∧ a * b ≤ A * B := by
 have e1 := Int.mul_nonneg (a := A - a) (b := B + b) (by omega) (by omega)
 have e2 := Int.mul_nonneg (a := A + a) (b := B - b) (by omega) (by omega)
 have e3 := Int.mul_nonneg (a := A - a) (b := B - b) (by omega) (by omega)
 have e4 := Int.mul_nonneg (a := A + a) (b := B + b) (by omega) (by omega)
 simp only [Int.sub_mul, Int.add_mul, Int.mul_sub, Int.mul_add] at e1 e2 e3 e4
 omega
theorem isNaN_h (x : Int) (W : World) : Calls Tryz.prog 209 #[.int .i64 x] W fun e w' => e = .returned (.bool false) ∧ w' = W := by
 go_enter Tryz.func209, Tryz.ntmps209
 go_wp2
 go_ret
 exact ⟨by simp, rfl⟩
theorem compare_h (x y : Int) (W : World) : Calls Tryz.prog 169 #[.int .i64 x, .int .i64 y] W fun e w' => e = .returned (.int .i64 (fK x y)) ∧ w' = W := by
 have hcon := isNaN_h
 go_enter Tryz.func169, Tryz.ntmps169
 go_wp2_with (go_at_call 209; refine (hcon _ _).mono ?_; rintro e w' ⟨rfl, rfl⟩)
 ·go_ret
  exact ⟨fZ (by unfold fK; rw [if_pos (by assumption)]), rfl⟩
 ·go_ret
  exact ⟨fZ (by unfold fK; rw [if_neg (by omega), if_pos (by assumption)]), rfl⟩
 ·go_ret
  exact ⟨fZ (by unfold fK; rw [if_neg (by omega), if_neg (by omega)]), rfl⟩
structure Up where
 p : Pt
 up : up p
 bd : Bd 268435456 p
instance : Inhabited Up := ⟨⟨(1, 0), .inr ⟨rfl, by decide⟩, by unfold Bd; simp⟩⟩
open Go.RowKit

def cl (W H : Int) (xs : List Int) : Bool := decide (1 ≤ W ∧ W ≤ 64 ∧ 1 ≤ H ∧ H ≤ 64 ∧ (xs.length : Int) = W * H ∧ ∀ v ∈ xs, v ≤ 2)
def inB (W H x y : Int) : Bool := decide (0 ≤ x ∧ x < W ∧ 0 ≤ y ∧ y < H)
def atI (W H : Int) (xs : List Int) (x y : Int) : Int := if inB W H x y then gi xs (y * W + x).toNat else 2
structure Vld (W H : Int) (xs : List Int) : Prop where
 w0 : 1 ≤ W
 w1 : W ≤ 64
 h0 : 1 ≤ H
 h1 : H ≤ 64
 len : (xs.length : Int) = W * H
 le : ∀ v ∈ xs, v ≤ 2
theorem cJ {W H : Int} {xs : List Int} : cl W H xs = true ↔ Vld W H xs := by
 unfold cl
 rw [decide_eq_true_iff]
 exact ⟨fun ⟨a, b, c, d, e, f⟩ => ⟨a, b, c, d, e, f⟩, fun ⟨a, b, c, d, e, f⟩ => ⟨a, b, c, d, e, f⟩⟩
theorem ph {W H : Int} {xs : List Int} : cl W H xs = false ↔ ¬ Vld W H xs := by
 rw [← cJ]; simp
theorem dV {W H x y : Int} : inB W H x y = true ↔ 0 ≤ x ∧ x < W ∧ 0 ≤ y ∧ y < H := by
 unfold inB; rw [decide_eq_true_iff]
theorem i6 {a b : Int} (h0 : 0 ≤ a) (h1 : a ≤ 64) (h2 : 0 ≤ b) (h3 : b ≤ 64) : 0 ≤ a * b ∧ a * b ≤ 4096 :=
 ⟨Int.mul_nonneg h0 h2, Int.le_trans (Int.mul_le_mul h1 h3 h2 (by omega)) (by omega)⟩
theorem Vld.pos {W H : Int} {xs : List Int} (h : Vld W H xs) : 1 ≤ W * H ∧ W * H ≤ 4096 ∧ 0 < xs.length ∧ xs.length ≤ 4096 := by
 have h1 : 1 * 1 ≤ W * H := Int.mul_le_mul h.w0 h.h0 (by omega) (by have := h.w0; omega)
 have h2 := i6 (a := W) (b := H) (by have := h.w0; omega) h.w1 (by have := h.h0; omega) h.h1
 have h3 := h.len
 omega
theorem idx_bd {W H x y : Int} (h : inB W H x y = true) : 0 ≤ y * W ∧ 0 ≤ y * W + x ∧ y * W + x < W * H := by
 obtain ⟨a, b, c, d⟩ := dV.1 h
 have h1 : 0 ≤ y * W := Int.mul_nonneg c (by omega)
 have h2 : (y + 1) * W ≤ H * W := Int.mul_le_mul_of_nonneg_right (by omega) (by omega)
 rw [Int.add_mul, Int.one_mul] at h2
 rw [Int.mul_comm W H]
 omega
theorem Vld.idx {W H x y : Int} {xs : List Int} (hv : Vld W H xs) (h : inB W H x y = true) : 0 ≤ y * W ∧ y * W ≤ 4096 ∧ 0 ≤ y * W + x ∧ y * W + x < W * H ∧ (y * W + x).toNat < xs.length ∧ 0 ≤ x ∧ x < 64 ∧ 0 ≤ y ∧ y < 64 := by
 have h1 := idx_bd h
 have h2 := hv.pos
 have h3 := hv.len
 obtain ⟨a, b, c, d⟩ := dV.1 h
 have := hv.w1
 have := hv.h1
 omega
open Go.RowKit
open Go.RowKit

def depI (q z : Bool) (ops : Array Oper) (i j : Nat) : Bool :=
 match ops[i]?, ops[j]? with
 | some a, some b =>
  let free := fun (i : Nat) (a b : Oper) => (match a.dst with | some t => b.dst != some t && !(b.looksAt ops).contains t | none => true) && (!cL q a.op || cK b.op || (!z && (kExt ops i a.op && dd b.op)))
  !(free i a b && free j b a)
 | _, _ => false
def e6 (q z : Bool) (ops : Array Oper) (τ : List Nat) : Array Oper :=
 (τ.zipIdx.map fun p => { (ops[p.1]?.getD default) with after := (((List.range p.2).filter fun k => depI q z ops ((τ[k]?).getD 0) p.1).map fun k => (⟨k, .data⟩ : Edge)).toArray, guard := none }).toArray
def gL (l : List Oper) (τ : List Nat) : List LOp := τ.map fun i => ((l[i]?).map fun o => (⟨o.dst, o.op, none⟩ : LOp)).getD ⟨none, .move (.tmp 0), none⟩
def ordB (mk : List Nat) (i j : Nat) : Bool := (mk.getD j 0).testBit i
def loose (q z : Bool) (ops : Array Oper) (mk : List Nat) : List (Nat × Nat) :=
 (List.range ops.size).flatMap fun j => ((List.range j).filter fun i => depI q z ops i j && !ordB mk i j && !ordB mk j i).map fun i => (i, j)
def i7 : List (Nat × Nat) → List Bool → List (Nat × Nat)
 | p :: ps, b :: bs => (bif b then p else (p.2, p.1)) :: i7 ps bs
 | _, _ => []
def allV : Nat → List (List Bool)
 | 0 => [[]]
 | n + 1 => (allV n).flatMap fun v => [true :: v, false :: v]
def io (mk : List Nat) (x y : Nat) : Bool := x == y || ordB mk x y
def refuted (mk : List Nat) (O : List (Nat × Nat)) : Bool :=
 (O.any fun a => O.any fun b => io mk a.2 b.1 && io mk b.2 a.1) || O.any fun a => O.any fun b => O.any fun c => io mk a.2 b.1 && io mk b.2 c.1 && io mk c.2 a.1
def okRep (q z : Bool) (ops : Array Oper) (mk : List Nat) (O : List (Nat × Nat)) (τ : List Nat) : Bool :=
 (List.range τ.length).all fun k => (List.range k).all fun k' => let i := (τ[k']?).getD 0; let j := (τ[k]?).getD 0; !depI q z ops i j || ordB mk i j || O.contains (i, j)
def coverB (q z : Bool) (ops : Array Oper) (reps : List (List Nat)) : Bool :=
 let mk := fy ops
 let U := loose q z ops mk
 (allV U.length).all fun v => let O := i7 U v; refuted mk O || reps.any fun τ => okRep q z ops mk O τ
def permB (n : Nat) (τ : List Nat) : Bool := τ.length == n && ((List.range n).all fun i => τ.contains i) && (τ.all fun i => Nat.blt i n) && (List.range n).all fun k => τ.idxOf ((τ[k]?).getD 0) == k
def strictB (q : Bool) (ops : Array Oper) : Bool :=
 let m := fy ops; ops.toList.zipIdx.all fun p => ops.toList.zipIdx.all fun r => p.2 == r.2 || ((m.getD r.2 0).testBit p.2 || (m.getD p.2 0).testBit r.2 || !cL q p.1.op || cK r.1.op)
theorem sQ {q : Bool} {ops : Array Oper} (h : strictB q ops = true) : kO q ops := fun i j a b ha hb hij hc hp => by
 have zi : ∀ i o, ops[i]? = some o → (o, i) ∈ ops.toList.zipIdx := fun i o ho => List.mem_iff_getElem?.2 ⟨i, by simp [List.getElem?_zipIdx, ho]⟩
 have := List.all_eq_true.1 (List.all_eq_true.1 h _ (zi i a ha)) _ (zi j b hb)
 simp only [Bool.or_eq_true, beq_iff_eq] at this
 rcases this with h | ((h | h) | h) | h
 ·exact absurd h hij
 ·exact .inl (dB h)
 ·exact .inr (dB h)
 ·rw [hc] at h; cases h
 ·rw [hp] at h; cases h
def i8 (q z : Bool) (N : Nat) (ops : Array Oper) (reps : List (List Nat)) : Bool :=
 (ops.toList.all fun o => o.guard.isNone) && (ops.toList.zipIdx.all fun p => p.1.after.all fun e => !Region.binds .any e || decide (e.on < p.2)) &&
 (reps.all fun τ => permB ops.size τ && gu q N (e6 q z ops τ) && (!z || strictB q (e6 q z ops τ))) && coverB q z ops reps
section
variable {P : Program} {N n m : Nat} {Q : Exit → Fr → ac → Prop} {q z : Bool} {ops : Array Oper}
theorem idx_ne {a b : Nat} {l : List Nat} (h : a ≠ b) : (a :: l).idxOf b = l.idxOf b + 1 := by
 rw [List.idxOf_cons]
 have : (a == b) = false := by simp [h]
 rw [this]; rfl
inductive ValidL (ops : Array Oper) : Array Bool → List Nat → Prop where
 | nil {listed : Array Bool} : Region.ready .any ops listed = [] → ValidL ops listed []
 | cons {listed : Array Bool} {i : Nat} {π : List Nat} : i ∈ Region.ready .any ops listed → ValidL ops (listed.setIfInBounds i true) π → ValidL ops listed (i :: π)
theorem go_valid : ∀ (fuel t : Nat) (listed : Array Bool), listed.size = ops.size → unl listed.toList ≤ fuel → ValidL ops listed (Region.linearise.go .any ops fuel t listed [])
 | 0, t, listed, hs, hu => by
  refine .nil ?_
  apply List.eq_nil_iff_forall_not_mem.2
  intro j hj
  obtain ⟨h0, o, ho, -⟩ := mem_ready.1 hj
  have hj' := (Array.getElem?_eq_some_iff.1 ho).1
  have hi' : j < listed.toList.length := by simp; omega
  have := List.countP_eq_zero.1 (Nat.le_zero.1 hu) listed.toList[j] (List.getElem_mem hi')
  simp at this
  simp [hs, hj', this] at h0
 | fuel + 1, t, listed, hs, hu => by
  simp only [Region.linearise.go]
  change ValidL ops listed (match (Region.ready .any ops listed)[t % (Region.ready .any ops listed).length]? with
   | some i => Region.linearise.go .any ops fuel (t / (Region.ready .any ops listed).length) (listed.setIfInBounds i true) [i]
   | none => [].reverse)
  cases hi : (Region.ready .any ops listed)[t % (Region.ready .any ops listed).length]? with
  | none =>
   refine .nil ?_
   cases hr : Region.ready .any ops listed with
   | nil => rfl
   | cons x xs =>
    rw [hr] at hi
    have hlt : t % (x :: xs).length < (x :: xs).length := Nat.mod_lt _ (by simp)
    simp at hi
    simp at hlt
    omega
  | some i =>
   simp only []
   rw [linearise_go_acc, List.reverse_singleton, List.singleton_append]
   have hmem := List.mem_of_getElem? hi
   refine .cons hmem (go_valid fuel _ _ (by simp [hs]) ?_)
   obtain ⟨h0, o, ho, -⟩ := mem_ready.1 hmem
   have hj' := (Array.getElem?_eq_some_iff.1 ho).1
   have := unl_set (l := listed.toList) (k := i) (by simp; omega) (by
    rw [Array.getElem?_toList]
    simp [hs, hj'] at h0
    rw [Array.getElem?_eq_getElem (by omega), h0])
   rw [Array.toList_setIfInBounds]
   omega
theorem pi {Q : Exit → Act → World → Prop} : ∀ (π : List Nat) (fuel : Nat) (listed : Array Bool) (a : Act) (w : World), π.length ≤ fuel → wpAny P .any ops Q fuel listed a w → ValidL ops listed π → wpOps P ops Q π a w
 | [], 0, _, _, _, _, h, _ => h.2
 | [], _ + 1, _, _, _, _, h, hv => by cases hv with | nil hr => exact h.1 hr
 | i :: π, 0, _, _, _, hl, _, _ => by simp at hl
 | i :: π, fuel + 1, listed, a, w, hl, h, hv => by
  cases hv with
  | cons hi hv =>
   rw [wpOps_cons]
   exact wpOp_mono (fun a w hh => pi π fuel _ a w (by simp at hl; omega) hh hv) (h.2 i hi)
theorem pj (hback : ∀ (i : Nat) (o : Oper) (e : Edge), ops[i]? = some o → e ∈ o.after → Region.binds .any e = true → e.on < i) : ∀ (π : List Nat) (listed : Array Bool), listed.size = ops.size → ValidL ops listed π →
  (∀ i, i < ops.size → listed.getD i false = false → i ∈ π) ∧ (∀ i ∈ π, i < ops.size ∧ listed.getD i false = false) ∧ π.Nodup ∧ ∀ (j : Nat) (o : Oper) (e : Edge), j ∈ π → ops[j]? = some o → e ∈ o.after → Region.binds .any e = true → listed.getD e.on false = true ∨ π.idxOf e.on < π.idxOf j
 | [], listed, hs, hv => by
  cases hv with
  | nil hr =>
   refine ⟨fun i hi hli => ?_, fun i h => by simp at h, List.nodup_nil, fun j o e h => by simp at h⟩
   exfalso
   have hall : ∀ i, i < ops.size → listed.getD i false = true := by
    intro i
    induction i using Nat.strongRecOn with
    | _ i ihi =>
     intro hi
     cases hli : listed.getD i false with
     | true => rfl
     | false =>
      exfalso
      have ho : ops[i]? = some ops[i] := Array.getElem?_eq_getElem hi
      have : i ∈ Region.ready .any ops listed := mem_ready.2 ⟨by simp [hs, hi] at hli ⊢; exact hli, _, ho, fun e he hb => by
       have hlt := hback i _ e ho he hb
       exact ihi e.on hlt (by omega)⟩
      rw [hr] at this; cases this
   rw [hall i hi] at hli; cases hli
 | i :: π, listed, hs, hv => by
  cases hv with
  | cons hi hv =>
   obtain ⟨h1, h2, h3, h4⟩ := pj hback π _ (by simp [hs]) hv
   obtain ⟨h0, o, ho, hed⟩ := mem_ready.1 hi
   have hin := (Array.getElem?_eq_some_iff.1 ho).1
   have hli : listed.getD i false = false := by simp [hs, hin] at h0 ⊢; exact h0
   have hget : ∀ j, (listed.setIfInBounds i true).getD j false = if j = i then true else listed.getD j false := fun j => by
    by_cases e : j = i
    ·subst e; simp [hs, hin]
    ·rw [if_neg e, getD_set_ne false (fun e' => e e'.symm)]
   have hni : i ∉ π := fun hm => by
    have := (h2 i hm).2
    rw [hget, if_pos rfl] at this; cases this
   refine ⟨fun j hj hjl => ?_, fun j hj => ?_, List.nodup_cons.2 ⟨hni, h3⟩, fun j o' e hj ho' he hb => ?_⟩
   ·by_cases e : j = i
    ·simp [e]
    ·exact List.mem_cons_of_mem _ (h1 j hj (by rw [hget, if_neg e]; exact hjl))
   ·rcases List.mem_cons.1 hj with rfl | hj
    ·exact ⟨hin, hli⟩
    ·have := h2 j hj
     rw [hget] at this
     by_cases e : j = i
     ·rw [if_pos e] at this; cases this.2
     ·rw [if_neg e] at this; exact this
   ·by_cases eji : j = i
    ·subst eji
     rw [ho] at ho'; simp at ho'; subst ho'
     exact .inl (hed e he hb)
    ·have hj' : j ∈ π := (List.mem_cons.1 hj).resolve_left eji
     have hidx : (i :: π).idxOf j = π.idxOf j + 1 := by rw [idx_ne (fun e => eji e.symm)]
     rcases h4 j o' e hj' ho' he hb with h5 | h5
     ·rw [hget] at h5
      by_cases e2 : e.on = i
      ·right; rw [e2, List.idxOf_cons_self, hidx]; omega
      ·rw [if_neg e2] at h5; exact .inl h5
     ·by_cases e2 : e.on = i
      ·right; rw [e2, List.idxOf_cons_self, hidx]; omega
      ·right; rw [idx_ne (fun e' => e2 e'.symm), hidx]; omega
theorem sR : ∀ (v : List Bool), v ∈ allV v.length
 | [] => by simp [allV]
 | b :: v => by
  simp only [List.length_cons, allV, List.mem_flatMap]
  refine ⟨v, sR v, ?_⟩
  cases b <;> simp
theorem pk {rk : Nat → Nat} : ∀ (U : List (Nat × Nat)), (∀ p ∈ U, rk p.1 ≠ rk p.2) → ∀ p ∈ i7 U (U.map fun p => decide (rk p.1 < rk p.2)), rk p.1 < rk p.2
 | [], _, p, h => by simp [i7] at h
 | u :: U, hU, p, h => by
  simp only [List.map_cons, i7, List.mem_cons] at h
  rcases h with rfl | h
  ·by_cases hd : rk u.1 < rk u.2
   ·rw [decide_eq_true hd, cond_true]; exact hd
   ·rw [decide_eq_false hd, cond_false]
    have := hU u (by simp)
    show rk u.2 < rk u.1
    omega
  ·exact pk U (fun p hp => hU p (by simp [hp])) p h
theorem cover_rep {reps : List (List Nat)} {rk : Nat → Nat} (hc : coverB q z ops reps = true) (hord : ∀ i j, ordB (fy ops) i j = true → rk i < rk j) (hU : ∀ p ∈ loose q z ops (fy ops), rk p.1 ≠ rk p.2) :
  ∃ τ ∈ reps, ∀ k k' : Nat, k < τ.length → k' < k → depI q z ops ((τ[k']?).getD 0) ((τ[k]?).getD 0) = true → rk ((τ[k']?).getD 0) < rk ((τ[k]?).getD 0) := by
 have hlt := pk (rk := rk) _ hU
 have hv := List.all_eq_true.1 hc ((loose q z ops (fy ops)).map fun p => decide (rk p.1 < rk p.2)) (by
  have := sR ((loose q z ops (fy ops)).map fun p => decide (rk p.1 < rk p.2))
  simpa using this)
 simp only [Bool.or_eq_true] at hv
 have hlink : ∀ x y, io (fy ops) x y = true → rk x ≤ rk y := fun x y h => by
  unfold io at h
  simp only [Bool.or_eq_true, beq_iff_eq] at h
  rcases h with rfl | h
  ·exact Nat.le_refl _
  ·exact Nat.le_of_lt (hord _ _ h)
 rcases hv with hv | hv
 ·exfalso
  unfold refuted at hv
  simp only [Bool.or_eq_true, List.any_eq_true, Bool.and_eq_true] at hv
  rcases hv with ⟨a, ha, b, hb, h1, h2⟩ | ⟨a, ha, b, hb, c, hc', ⟨h1, h2⟩, h3⟩
  ·have := hlt a ha; have := hlt b hb; have := hlink _ _ h1; have := hlink _ _ h2; omega
  ·have := hlt a ha; have := hlt b hb; have := hlt c hc'; have := hlink _ _ h1; have := hlink _ _ h2; have := hlink _ _ h3; omega
 ·obtain ⟨τ, hτ, hk⟩ := List.any_eq_true.1 hv
  refine ⟨τ, hτ, fun k k' h1 h2 hd => ?_⟩
  have := List.all_eq_true.1 (List.all_eq_true.1 hk k (List.mem_range.2 h1)) k' (List.mem_range.2 h2)
  simp only [hd, Bool.not_true, Bool.false_or, Bool.or_eq_true] at this
  rcases this with h | h
  ·exact hord _ _ h
  ·exact hlt _ (by simpa using h)
theorem kl {τ : List Nat} {k i : Nat} (hk : τ[k]? = some i) : (e6 q z ops τ)[k]? = some { (ops[i]?.getD default) with after := (((List.range k).filter fun k' => depI q z ops ((τ[k']?).getD 0) i).map fun k' => (⟨k', .data⟩ : Edge)).toArray, guard := none } := by
 unfold e6
 simp [List.getElem?_zipIdx, hk]
theorem gM {τ : List Nat} : (e6 q z ops τ).size = τ.length := by simp [e6]
theorem tV {A B : List Nat} {i : Nat} (h : (A ++ B).idxOf i < A.length) : i ∈ A := by
 by_cases hi : i ∈ A
 ·exact hi
 ·rw [List.idxOf_append, if_neg hi] at h; omega
theorem validT {τ π0 : List Nat} (hlen : τ.length = ops.size) (hmem : ∀ i, i < ops.size → i ∈ τ) (hpos : ∀ k, k < ops.size → τ.idxOf ((τ[k]?).getD 0) = k) (hin : ∀ i ∈ τ, i < ops.size)
  (hnd : π0.Nodup) (hall : ∀ i, i < ops.size → i ∈ π0) (hπ : ∀ i ∈ π0, i < ops.size)
  (hag : ∀ k k' : Nat, k < τ.length → k' < k → depI q z ops ((τ[k']?).getD 0) ((τ[k]?).getD 0) = true → π0.idxOf ((τ[k']?).getD 0) < π0.idxOf ((τ[k]?).getD 0)) :
  ∀ (π A : List Nat) (L : Array Bool), π0 = A ++ π → L.size = ops.size → (∀ k, k < ops.size → L.getD k false = decide ((τ[k]?).getD 0 ∈ A)) → ValidL (e6 q z ops τ) L (π.map fun i => τ.idxOf i)
 | [], A, L, e, hs, hL => by
  refine .nil ?_
  apply List.eq_nil_iff_forall_not_mem.2
  intro k hk
  obtain ⟨h0, o, ho, -⟩ := mem_ready.1 hk
  have hk' := (Array.getElem?_eq_some_iff.1 ho).1
  rw [gM, hlen] at hk'
  have h1 := hL k hk'
  have hτ : τ[k]? = some τ[k] := List.getElem?_eq_getElem (by omega)
  rw [hτ] at h1
  have : τ[k] ∈ A := by
   rw [List.append_nil] at e
   rw [← e]; exact hall _ (hin _ (List.getElem_mem _))
  simp [this] at h1
  simp [hs, hk'] at h0 h1
  rw [h1] at h0; cases h0
 | j :: π, A, L, e, hs, hL => by
  have hj : j < ops.size := hπ j (by rw [e]; simp)
  have hjm := hmem j hj
  have hkl : τ.idxOf j < τ.length := List.idxOf_lt_length_of_mem hjm
  have hτk : τ[τ.idxOf j]? = some j := by rw [List.getElem?_eq_getElem hkl, List.getElem_idxOf]
  have hjA : j ∉ A := fun h => by
   rw [e] at hnd
   exact (List.nodup_append.1 hnd).2.2 j h j (by simp) rfl
  have hget := kl (q := q) (z := z) (ops := ops) hτk
  refine .cons (mem_ready.2 ⟨?_, _, hget, fun ed he _ => ?_⟩) (validT hlen hmem hpos hin hnd hall hπ hag π (A ++ [j]) _ (by rw [e]; simp) (by simp [hs]) fun k hk => ?_)
  ·have := hL (τ.idxOf j) (by omega)
   rw [hτk] at this
   simp [hjA] at this
   show L.getD (τ.idxOf j) true = false
   rw [Array.getD_eq_getD_getElem?]
   rw [Array.getElem?_eq_getElem (by omega)] at this ⊢
   simpa using this
  ·simp only [List.mem_toArray, List.mem_map, List.mem_filter, List.mem_range] at he
   obtain ⟨k', ⟨hk1, hk2⟩, rfl⟩ := he
   have h1 := hag (τ.idxOf j) k' hkl hk1 (by rw [hτk]; exact hk2)
   rw [hτk] at h1
   simp only [Option.getD_some] at h1
   have hjx : π0.idxOf j = A.length := by
    rw [e, List.idxOf_append, if_neg hjA, List.idxOf_cons_self, Nat.zero_add]
   rw [hjx, e] at h1
   have := tV h1
   rw [hL k' (by omega)]
   simp [this]
  ·by_cases ek : k = τ.idxOf j
   ·subst ek
    rw [hτk]
    simp [hs, hj, hlen ▸ hkl]
   ·rw [getD_set_ne false (fun e' => ek e'.symm), hL k hk]
    have hne : (τ[k]?).getD 0 ≠ j := fun h => ek (by have := hpos k hk; rw [h] at this; exact this.symm)
    simp [hne]
theorem wpOps_T {Q : Exit → Act → World → Prop} {τ : List Nat} (hmem : ∀ i, i < ops.size → i ∈ τ) (hg : ∀ (i : Nat) (o : Oper), ops[i]? = some o → o.guard = none) : ∀ (π : List Nat) (a : Act) (w : World), (∀ i ∈ π, i < ops.size) → wpOps P (e6 q z ops τ) Q (π.map fun i => τ.idxOf i) a w → wpOps P ops Q π a w
 | [], _, _, _, h => h
 | i :: π, a, w, hπ, h => by
  rw [List.map_cons, wpOps_cons] at h
  rw [wpOps_cons]
  have h1 := wpOp_mono (fun a w hh => wpOps_T hmem hg π a w (fun j hj => hπ j (by simp [hj])) hh) h
  have hi := hπ i (by simp)
  have him := hmem i hi
  have hτk : τ[τ.idxOf i]? = some i := by rw [List.getElem?_eq_getElem (List.idxOf_lt_length_of_mem him), List.getElem_idxOf]
  have ho : ops[i]? = some ops[i] := Array.getElem?_eq_getElem hi
  unfold wpOp at h1 ⊢
  rw [kl hτk] at h1
  rw [ho] at h1 ⊢
  have hgi := hg i _ ho
  simp only [Region.wanted, hgi, if_true, Option.getD_some] at h1 ⊢
  exact h1
theorem pick_opsT {τ : List Nat} (hin : ∀ i ∈ τ, i < ops.size) : (e6 q z ops τ).toList.map (lightOf (dsts (e6 q z ops τ))) = gL ops.toList τ := by
 refine List.ext_getElem? fun k => ?_
 unfold gL
 rw [List.getElem?_map, List.getElem?_map, Array.getElem?_toList]
 cases hk : τ[k]? with
 | none =>
  have : (e6 q z ops τ)[k]? = none := Array.getElem?_eq_none (by rw [gM]; exact List.getElem?_eq_none_iff.1 hk)
  rw [this]; rfl
 | some i =>
  rw [kl hk]
  have hi := hin i (List.mem_of_getElem? hk)
  simp only [Option.map_some, lightOf, Option.map_none]
  rw [Array.getElem?_toList, Array.getElem?_eq_getElem hi]
  rfl
theorem pm : ∀ (n : Nat) (l : List Nat), l.Nodup → (∀ i ∈ l, i < n) → l.length ≤ n
 | 0, l, _, h => by
  cases l with
  | nil => simp
  | cons x l => exact absurd (h x (by simp)) (Nat.not_lt_zero x)
 | n + 1, l, hd, h => by
  have h1 := pm n (l.filter fun i => i != n) (hd.filter _) (fun i hi => by
   simp only [List.mem_filter, bne_iff_ne] at hi
   have := h i hi.1
   omega)
  have h2 := List.length_eq_countP_add_countP (fun i => i != n) (l := l)
  rw [← List.countP_eq_length_filter] at h1
  have h3 : List.countP (fun a => decide ¬(a != n) = true) l = l.count n := by
   unfold List.count
   congr 1
   funext a
   by_cases e : a = n <;> simp [e]
  have h4 := List.nodup_iff_count.1 hd n
  omega
theorem lY {id : Nat} {F : Fr} {H : ac} (hm : P.follows .mixedOrders = true) (reps : List (List Nat)) (hok : i8 q z N ops reps = true) (hmz : m = H.length ∨ z = true)
  (hh : ∀ τ ∈ reps, AOpsDL P q m (gL ops.toList τ) F H (fun F' H' => Q .normal F' H')) : AW P N n (.region id ops true) Q F H := by
 intro E w a h1 h2 h3 h4 h5
 unfold i8 at hok
 simp only [Bool.and_eq_true] at hok
 obtain ⟨⟨⟨k1, k2⟩, k3⟩, k4⟩ := hok
 have zi : ∀ i o, ops[i]? = some o → (o, i) ∈ ops.toList.zipIdx := fun i o ho => List.mem_iff_getElem?.2 ⟨i, by simp [List.getElem?_zipIdx, ho]⟩
 have hg : ∀ (i : Nat) (o : Oper), ops[i]? = some o → o.guard = none := fun i o ho => by
  have := List.all_eq_true.1 k1 o (by simpa using Array.mem_of_getElem? ho)
  simpa using this
 have hback : ∀ (i : Nat) (o : Oper) (e : Edge), ops[i]? = some o → e ∈ o.after → Region.binds .any e = true → e.on < i := fun i o e ho he hb => by
  have := List.all_eq_true.1 k2 _ (zi i o ho)
  have := Array.all_eq_true_iff_forall_mem.1 this e he
  simpa [hb] using this
 refine wp_region_draw fun t => ?_
 simp only [Region.schedule, hm, Bool.true_or, if_true]
 have hv : ValidL ops (Array.replicate ops.size false) (Region.linearise .any ops t) := go_valid _ t _ (by simp) (by simp [unl, List.countP_replicate])
 generalize Region.linearise .any ops t = π at hv
 have hL : ∀ i, (Array.replicate ops.size false).getD i false = false := fun i => by
  rw [Array.getD_eq_getD_getElem?]
  cases hq : (Array.replicate ops.size false)[i]? with
  | none => rfl
  | some b => rw [Array.getElem?_replicate] at hq; split at hq <;> simp at hq; subst hq; rfl
 obtain ⟨v1, v2, v3, v4⟩ := pj hback π _ (by simp) hv
 have hall : ∀ i, i < ops.size → i ∈ π := fun i hi => v1 i hi (hL i)
 have hπ : ∀ i ∈ π, i < ops.size := fun i hi => (v2 i hi).1
 have hpred : ∀ i j, Pred ops i j → j < ops.size → π.idxOf i < π.idxOf j := fun i j hp => by
  induction hp with
  | edge ho he hb =>
   intro hj
   rcases v4 _ _ _ (hall _ hj) ho he hb with h | h
   ·rw [hL] at h; cases h
   ·exact h
  | step ho he hb _ ih =>
   intro hj
   rcases v4 _ _ _ (hall _ hj) ho he hb with h | h
   ·rw [hL] at h; cases h
   ·exact Nat.lt_trans (ih (by have := hback _ _ _ ho he hb; omega)) h
 have predlt : ∀ i j, Pred ops i j → j < ops.size := fun i j hp => by
  cases hp with
  | edge ho _ _ => exact (Array.getElem?_eq_some_iff.1 ho).1
  | step ho _ _ _ => exact (Array.getElem?_eq_some_iff.1 ho).1
 obtain ⟨τ, hτ, hag⟩ := cover_rep (rk := fun i => π.idxOf i) k4 (fun i j h => hpred i j (dB h) (predlt i j (dB h))) (fun p hp => by
  unfold loose at hp
  simp only [List.mem_flatMap, List.mem_range, List.mem_map, List.mem_filter] at hp
  obtain ⟨j, hj, i, ⟨hi, -⟩, rfl⟩ := hp
  intro e
  have h1 : π[π.idxOf i]? = some i := by rw [List.getElem?_eq_getElem (List.idxOf_lt_length_of_mem (hall i (by omega))), List.getElem_idxOf]
  have h2 : π[π.idxOf j]? = some j := by rw [List.getElem?_eq_getElem (List.idxOf_lt_length_of_mem (hall j hj)), List.getElem_idxOf]
  simp only at e
  rw [e, h2] at h1
  simp at h1; omega)
 have hr := List.all_eq_true.1 k3 τ hτ
 simp only [Bool.and_eq_true] at hr
 obtain ⟨⟨hp, hd⟩, hz⟩ := hr
 unfold permB at hp
 simp only [Bool.and_eq_true, beq_iff_eq] at hp
 obtain ⟨⟨⟨p1, p2⟩, p3⟩, p4⟩ := hp
 have hmem : ∀ i, i < ops.size → i ∈ τ := fun i hi => by
  have := List.all_eq_true.1 p2 i (List.mem_range.2 hi)
  simpa using this
 have hin : ∀ i ∈ τ, i < ops.size := fun i hi => Nat.le_of_ble_eq_true (List.all_eq_true.1 p3 i hi)
 have hpos : ∀ k, k < ops.size → τ.idxOf ((τ[k]?).getD 0) = k := fun k hk => by
  have := List.all_eq_true.1 p4 k (List.mem_range.2 hk)
  simpa using this
 refine wpOps_T (q := q) (z := z) hmem hg π a _ hπ ?_
 have hvT := validT (q := q) (z := z) p1 hmem hpos hin v3 hall hπ hag π [] (Array.replicate (e6 q z ops τ).size false) (by simp) (by simp [gM, p1]) (fun k hk => by
  rw [Array.getD_eq_getD_getElem?]
  cases hq : (Array.replicate (e6 q z ops τ).size false)[k]? with
  | none => simp
  | some b => rw [Array.getElem?_replicate] at hq; split at hq <;> simp at hq; subst hq; simp)
 have hany := pR (P := P) (N := N) (n := n) (Q := Q) q hd (hmz.imp (fun e => Nat.le_of_eq e) fun e => sQ (by rw [e] at hz; simpa [e] using hz)) (gx (e6 q z ops τ).toList F H (by rw [pick_opsT hin]; exact hh τ hτ)) h1 h2 h3 h4 h5
 refine pi _ _ _ _ _ ?_ hany hvT
 rw [List.length_map, gM, p1]
 have := pm ops.size π v3 hπ
 omega
theorem AW_abs {c : Code} {Q : Exit → Fr → ac → Prop} {σ : Nat → Nat} {F F2 : Fr} {H H2 : ac} (ab : Abs n σ F H F2 H2) (h : AW P N n c Q F2 H2) : AW P N n c Q F H := by
 intro E w a h1 h2 h3 h4 h5
 obtain ⟨E', hle, f, e⟩ := ab.emb h1 h4 h5
 exact wp_mono (h E' w a hle.n h2 h3 f e) fun e a w hh => LiftQ.shift hle hh
theorem gg {a b : Code} {F : Fr} {H : ac} (q : Bool) (hm : P.follows .mixedOrders = true) (hc : db N q a = true) (J : Fr → ac → Prop) (h1 : AGo P N n q Q [.code a, .inv J] F H) (h2 : ∀ F H, J F H → AW P N n b Q F H) : AW P N n (.seq a b) Q F H := by
 refine gV (AW.mono (fX hm a hc _ F H h1) fun e F H hq => ?_)
 cases e <;> first | exact h2 F H hq | exact hq
theorem aI {a : Code} {F : Fr} {H : ac} (q : Bool) (hm : P.follows .mixedOrders = true) (hc : db N q a = true) (h : AGo P N n q Q [.code a] F H) : AW P N n a Q F H := fX hm a hc _ F H h
theorem cd {id : Nat} {b : Code} {F : Fr} {H : ac} (q : Bool) (hm : P.follows .mixedOrders = true) (reps : List (List Nat)) (hok : i8 q false N ops reps = true) (I : Fr → ac → Prop)
  (h1 : ∀ τ ∈ reps, ∀ J : Fr → ac → Prop, (∀ F' H', (∃ σ F2 H2, I F2 H2 ∧ Abs n σ F' H' F2 H2) → J F' H') → AGo P N n q Q [.opsD H.length (gL ops.toList τ), .inv J] F H) (h2 : ∀ F2 H2, I F2 H2 → AW P N n b Q F2 H2) : AW P N n (.seq (.region id ops true) b) Q F H := by
 refine gV (AW.mono (lY (Q := eC (fun F' H' => ∃ σ F2 H2, I F2 H2 ∧ Abs n σ F' H' F2 H2) Q) hm reps hok (.inl rfl) fun τ hτ => ?_) fun e F H hq => ?_)
 ·exact h1 τ hτ (fun F' H' => ∃ σ F2 H2, I F2 H2 ∧ Abs n σ F' H' F2 H2) (fun _ _ h => h)
 ·cases e with
  | normal =>
   obtain ⟨σ, F2, H2, hi, ab⟩ := hq
   exact AW_abs ab (h2 F2 H2 hi)
  | _ => exact hq
theorem jX {id : Nat} {b : Code} {F : Fr} {H : ac} (q : Bool) (hm : P.follows .mixedOrders = true) (reps : List (List Nat)) (hok : i8 q true N ops reps = true) (I : Fr → ac → Prop)
  (h1 : ∀ τ ∈ reps, ∀ J : Fr → ac → Prop, (∀ F' H', (∃ σ F2 H2, I F2 H2 ∧ Abs n σ F' H' F2 H2) → J F' H') → AGo P N n q Q [.opsD (H.length + 1000000) (gL ops.toList τ), .inv J] F H) (h2 : ∀ F2 H2, I F2 H2 → AW P N n b Q F2 H2) : AW P N n (.seq (.region id ops true) b) Q F H := by
 refine gV (AW.mono (lY (m := H.length + 1000000) (Q := eC (fun F' H' => ∃ σ F2 H2, I F2 H2 ∧ Abs n σ F' H' F2 H2) Q) hm reps hok (.inr rfl) fun τ hτ => ?_) fun e F H hq => ?_)
 ·exact h1 τ hτ (fun F' H' => ∃ σ F2 H2, I F2 H2 ∧ Abs n σ F' H' F2 H2) (fun _ _ h => h)
 ·cases e with
  | normal =>
   obtain ⟨σ, F2, H2, hi, ab⟩ := hq
   exact AW_abs ab (h2 F2 H2 hi)
  | _ => exact hq
theorem aC {p : List Nat → Prop} {τ : List Nat} {l : List (List Nat)} (h : p τ) (h2 : ∀ τ ∈ l, p τ) : ∀ τ' ∈ τ :: l, p τ' := fun τ' h' => by
 rcases List.mem_cons.1 h' with rfl | h'
 ·exact h
 ·exact h2 _ h'
theorem ce {p : List Nat → Prop} : ∀ τ' ∈ ([] : List (List Nat)), p τ' := fun τ' h => by simp at h
theorem aS {J : Fr → ac → Prop} {r : List It} {F : Fr} {H : ac} (h : J F H) : AGo P N n q Q (.inv J :: r) F H := h
theorem bF {f : FuncId} {fn : Func} {args : List AV} {R : AV → ac → Prop} {H : ac} (hf : P.funcs[f]? = some fn) (N : Nat) (hN : fn.ntmps = N) (ha : args.length ≤ N) (hsome : fn.body.isSome = true)
  (h : HBel H.length H → ∀ Q, (∀ F H', dr P fn H.length R .ret F H' → eG Q F H') → (∀ F H', dr P fn H.length R .normal F H' → Q .normal F H') → ∀ c, fn.body = some c → AW P N H.length c Q (argF 0 args) H) : ACalls P f args H R := by
 cases hb : fn.body with
 | none => rw [hb] at hsome; cases hsome
 | some c => exact iQ hf hb hN ha fun hbel => h hbel (dr P fn H.length R) (fun _ _ k => k) (fun _ _ k => k) c hb
def dW (N : Nat) (q : Bool) : Code → Bool
 | .seq a b => dW N q a && dW N q b
 | .cond _ a b => dW N q a && dW N q b
 | .block _ c => dW N q c
 | .region _ ops draw => bif draw then gu q N ops else iK N ops
 | _ => true
theorem gZ (hm : P.follows .mixedOrders = true) : ∀ (c : Code), dW N q c = true → ∀ (Q : Exit → Fr → ac → Prop) (F : Fr) (H : ac), AWr P N n q c Q F H → AW P N n c Q F H
 | .skip, _, _, _, _, h => AW_skip h
 | .label _, _, _, _, _, h => pN h
 | .seq a b, hc, Q, F, H, h => by
  simp only [dW, Bool.and_eq_true] at hc
  refine gV (AW.mono (gZ hm a hc.1 _ F H h) fun e F H hq => ?_)
  cases e with
  | normal => exact gZ hm b hc.2 _ F H hq
  | _ => exact hq
 | .cond c a b, hc, Q, F, H, h => by
  simp only [dW, Bool.and_eq_true] at hc
  obtain ⟨t, h1, h2, h3⟩ := h
  exact f0 t h1 (fun e => gZ hm a hc.1 _ F H (h2 e)) (fun e => gZ hm b hc.2 _ F H (h3 e))
 | .block id c, hc, Q, F, H, h => j9 (gZ hm c hc _ F H h)
 | .exit _, _, _, _, _, h => AW_exit h
 | .ret, _, _, _, _, h => AW_ret h
 | .region id ops draw, hc, Q, F, H, h => by
  cases draw
  ·exact mh hc (jo _ _ _ h)
  ·exact AW_draw q hm hc (gx _ _ _ h)
 | .loop c, _, _, _, _, h => h
 | .rangeFunc .., _, _, _, _, h => h.elim
 | .scope _, _, _, _, _, h => h.elim
 | .goto _, _, _, _, _, h => h.elim
 | .refuse _, _, _, _, _, h => h.elim
theorem tG {f : FuncId} {fn : Func} {args : List AV} {R : AV → ac → Prop} {H : ac} (hm : P.follows .mixedOrders = true) (hf : P.funcs[f]? = some fn) (q : Bool) (N : Nat) (hN : fn.ntmps = N) (ha : args.length ≤ N)
  (hc : (fn.body.map (dW N q)) = some true) (h : HBel H.length H → ∀ Q, (∀ F H', dr P fn H.length R .ret F H' → eG Q F H') → (∀ F H', dr P fn H.length R .normal F H' → Q .normal F H') → ∀ c, fn.body = some c → AGo P N H.length q Q [.code c] (argF 0 args) H) : ACalls P f args H R := by
 cases hb : fn.body with
 | none => rw [hb] at hc; cases hc
 | some c =>
  rw [hb] at hc
  simp at hc
  exact iQ hf hb hN ha fun hbel => gZ hm c hc _ _ _ (h hbel (dr P fn H.length R) (fun _ _ k => k) (fun _ _ k => k) c hb)
theorem aN {a b : Code} {F : Fr} {H : ac} (h : ∀ Q2 : Exit → Fr → ac → Prop, (∀ F H, AW P N n b Q F H → Q2 .normal F H) → (∀ F H, eG Q F H → eG Q2 F H) → (∀ id F H, Q (.exit id) F H → Q2 (.exit id) F H) → AW P N n a Q2 F H) : AW P N n (.seq a b) Q F H :=
 gV (h (eC (fun F H => AW P N n b Q F H) Q) (fun _ _ k => k) (fun _ _ k => k) (fun _ _ _ k => k))
theorem eP {id : Nat} {c : Code} {F : Fr} {H : ac} (h : ∀ Q2 : Exit → Fr → ac → Prop, (∀ F H, Q .normal F H → Q2 .normal F H) → (∀ F H, eG Q F H → eG Q2 F H) → (∀ id', id' ≠ id → ∀ F H, Q (.exit id') F H → Q2 (.exit id') F H) → (∀ F H, Q .normal F H → Q2 (.exit id) F H) → AW P N n c Q2 F H) : AW P N n (.block id c) Q F H :=
 j9 (h (d7 id Q) (fun _ _ k => k) (fun _ _ k => k) (fun id' hne F H k => by simp only [d7]; rw [if_neg hne]; exact k) (fun F H k => by simp only [d7, if_true]; exact k))
theorem go_loopA {c : Code} {r : List It} {F : Fr} {H : ac} (I : Nat → Fr → ac → Prop) (k0 : Nat) (h0 : ∃ σ F2 H2, I k0 F2 H2 ∧ Abs n σ F H F2 H2)
  (round : ∀ k F H, I k F H → ∀ Q2 : Exit → Fr → ac → Prop, (∀ F' H', (∃ k', k' < k ∧ ∃ σ F2 H2, I k' F2 H2 ∧ Abs n σ F' H' F2 H2) → Q2 .normal F' H') → (∀ F H, eG Q F H → eG Q2 F H) → (∀ id F H, gJ P N n q Q id r F H → Q2 (.exit id) F H) → AW P N n c Q2 F H) : AGo P N n q Q (.code (.loop c) :: r) F H :=
 lS I k0 h0 fun k F H hi => round k F H hi (eC _ (St P N n q Q r)) (fun _ _ k => k) (fun F H k => by show St P N n q Q r .ret F H; rw [fg]; exact k) (fun _ _ _ k => k)
theorem sS {c : Code} {F : Fr} {H : ac} (I : Nat → Fr → ac → Prop) (k0 : Nat) (h0 : ∃ σ F2 H2, I k0 F2 H2 ∧ Abs n σ F H F2 H2)
  (round : ∀ k F H, I k F H → ∀ Q2 : Exit → Fr → ac → Prop, (∀ F' H', (∃ k', k' < k ∧ ∃ σ F2 H2, I k' F2 H2 ∧ Abs n σ F' H' F2 H2) → Q2 .normal F' H') → (∀ F H, eG Q F H → eG Q2 F H) → (∀ id F H, Q (.exit id) F H → Q2 (.exit id) F H) → AW P N n c Q2 F H) : AW P N n (.loop c) Q F H :=
 lS I k0 h0 fun k F H hi => round k F H hi (eC _ Q) (fun _ _ k => k) (fun F H k => k) (fun _ _ _ k => k)
theorem AcT (q : Bool) {f : FuncId} {fn : Func} {args : List AV} {R : AV → ac → Prop} {H : ac} (hf : P.funcs[f]? = some fn) {c : Code} (h : HBel H.length H → ∀ Q : Exit → Fr → ac → Prop, (∀ F H', dr P fn H.length R .ret F H' → eG Q F H') → AGo P fn.ntmps H.length q Q [.code c] (argF 0 args) H)
  (hb : fn.body = some c := by rfl) (hm : P.follows .mixedOrders = true := by exact try_mixed) (ha : args.length ≤ fn.ntmps := by exact Nat.le_of_ble_eq_true (by kernel_rfl)) (hc : db fn.ntmps q c = true := by kernel_rfl) : ACalls P f args H R :=
 b9 hm hf q _ rfl ha (by rw [hb]; exact congrArg some hc) fun hbel Q hQ _ c' hc' => by
  rw [hb] at hc'
  injection hc' with hc'
  subst hc'
  exact h hbel Q hQ
theorem AcL (q : Bool) {f : FuncId} {fn : Func} {args : List AV} {R : AV → ac → Prop} {H : ac} (hf : P.funcs[f]? = some fn) {c : Code} (h : HBel H.length H → ∀ Q : Exit → Fr → ac → Prop, (∀ F H', dr P fn H.length R .ret F H' → eG Q F H') → AGo P fn.ntmps H.length q Q [.code c] (argF 0 args) H)
  (hb : fn.body = some c := by rfl) (hm : P.follows .mixedOrders = true := by exact try_mixed) (ha : args.length ≤ fn.ntmps := by exact Nat.le_of_ble_eq_true (by kernel_rfl)) (hc : dW fn.ntmps q c = true := by kernel_rfl) : ACalls P f args H R :=
 tG hm hf q _ rfl ha (by rw [hb]; exact congrArg some hc) fun hbel Q hQ _ c' hc' => by
  rw [hb] at hc'
  injection hc' with hc'
  subst hc'
  exact h hbel Q hQ
end
set_option linter.unusedSimpArgs false
set_option linter.unusedVariables false
open Go.RowKit



inductive FT where
 | nil
 | leaf (x : AV)
 | node (l r : FT)
def FT.get : Nat → FT → Nat → AV
 | 0, f, _ => (match f with | .leaf x => x | _ => .any)
 | d + 1, f, t => (match f with | .node l r => bif Nat.beq (t % 2) 0 then FT.get d l (t / 2) else FT.get d r (t / 2) | _ => .any)
def FT.set : Nat → Nat → AV → FT → FT
 | 0, _, x, _ => .leaf x
 | d + 1, t, x, f => (match f with
  | .node l r => bif Nat.beq (t % 2) 0 then .node (FT.set d (t / 2) x l) r else .node l (FT.set d (t / 2) x r)
  | _ => bif Nat.beq (t % 2) 0 then .node (FT.set d (t / 2) x .nil) .nil else .node .nil (FT.set d (t / 2) x .nil))
def getT (f : FT) (t : Nat) : AV := bif Nat.blt t 1024 then FT.get 10 f t else .any
def ev (f : FT) : Operand → AV
 | .tmp t => getT f t
 | .const v => AV.ofValue v
 | .global _ => .any
 | .func g => .fn g []
abbrev Caller := FuncId → List AV → ac → Option (AV × Option ac)
def CallOk (P : Program) (call : Caller) : Prop := ∀ f args H x o, call f args H = some (x, o) → dz P f = true ∧ H.length ≤ (o.getD H).length ∧ ACalls P f args H (fun y H1 => y = x ∧ H1 = o.getD H)
section
section
variable {P : Program} {N n m : Nat} {d : Option Nat} {q keep : Bool} {call : Caller}
theorem Rel.env {E E' : Env} {x : AV} {v : Value} (h : Rel E x v) (hn : E'.n = E.n) (hl : ∀ b, E'.loc b = E.loc b) : Rel E' x v := by
 induction h with
 | any v => exact .any v
 | int k n => exact .int k n
 | bool b => exact .bool b
 | str s => exact .str s
 | nilptr => exact .nilptr
 | ptr b o hb => rw [← hl b]; exact .ptr b o (by rw [hn]; exact hb)
 | nilsl => exact .nilsl
 | nils b cap hb hc => exact .nils b cap (by rw [hn]; exact hb) hc
 | sl b o len cap c a hb h1 h2 h3 h4 h5 => exact .sl b o len cap c a (by rw [hn]; exact hb) h1 h2 h3 (by rw [hl]; exact h4) (by rw [hl]; exact h5)
 | nilmp => exact .nilmp
 | mp b hb => rw [← hl b]; exact .mp b (by rw [hn]; exact hb)
 | nilfn => exact .nilfn
 | fn f caps cs hl' _ ih => exact .fn f caps cs hl' ih
 | agg xs cs hl' _ ih => exact .agg xs cs hl' ih
 | tup xs cs hl' _ ih => exact .tup xs cs hl' ih
theorem RelL.env {E E' : Env} {xs : List AV} {vs : List Value} (h : RelL E xs vs) (hn : E'.n = E.n) (hl : ∀ b, E'.loc b = E.loc b) : RelL E' xs vs := ⟨h.1, fun i x v hx hv => (h.2 i x v hx hv).env hn hl⟩
theorem BlkOk.env {E E' : Env} {w : World} {L : Loc} {x : ABlk} (h : BlkOk E w L x) (hB : E'.B = E.B) (hn : E'.n = E.n) (hl : ∀ b, E'.loc b = E.loc b) : BlkOk E' w L x := by
 cases x with
 | dead => trivial
 | cells own es xs =>
  obtain ⟨h1, h2, h3, h4⟩ := h
  refine ⟨fun j x hj => ?_, fun ho => by rw [hB]; exact h2 ho, fun ho hl => by rw [hB]; exact h3 ho hl, h4⟩
  obtain ⟨a, v, hv, hr⟩ := h1 j x hj
  exact ⟨a, v, hv, hr.env hn hl⟩
 | map es =>
  obtain ⟨h1, h2, ents, clock, h3, h4, h5⟩ := h
  exact ⟨by rw [hB]; exact h1, h2, ents, clock, h3, h4.env hn hl, h5.env hn hl⟩
theorem Abs0.same (n : Nat) {F G : Fr} (h : look F = look G) {H : ac} (hn : n ≤ H.length) : Abs0 n id F H G H where
 small _ _ := rfl
 len := hn
 frame E E' h1 h2 h3 t v hv := by
  rw [← h]
  exact hv.env (h2.trans h1.symm) h3
 heap E E' h1 h2 h3 h4 w hw b x hx := by
  rw [h4 b]
  exact (hw b x hx).env h3 (h2.trans h1.symm) h4
 inj b c x y hx hy ox oy hbc := ⟨hbc, ⟨x, hx, ox⟩, y, hy, oy⟩
theorem Abs.same (n : Nat) {F G : Fr} (h : look F = look G) {H : ac} (hn : n ≤ H.length) : Abs n id F H G H := (Abs0.same n h hn).abs
inductive TbOk (P : Program) : List (Nat × Bool × Func) → Prop where
 | nil : TbOk P []
 | cons {f : Nat} {q : Bool} {fn : Func} {r : List (Nat × Bool × Func)} : dz P f = true → P.funcs[f]? = some fn → (fn.body.map (db fn.ntmps q)) = some true → TbOk P r → TbOk P ((f, q, fn) :: r)
end
end
set_option linter.unusedSimpArgs false
set_option linter.unusedVariables false
open Go.RowKit
def ext : Caller := fun f args _ =>
 match args with
 | [.int .u64 x] => bif Nat.beq f 167 && (decide (0 ≤ x) && decide (x ≤ 18446744073709551615)) then some (.int .i64 (Lib.bitLen x.toNat), none) else none
 | _ => none
theorem ext_ok : CallOk Tryz.prog ext := fun f args H x o h => by
 unfold ext at h
 split at h
 ·rename_i x'
  cases hb : Nat.beq f 167 && (decide (0 ≤ x') && decide (x' ≤ 18446744073709551615))
  ·rw [hb] at h; cases h
  ·rw [hb, cond_true] at h
   simp only [Option.some.injEq, Prod.mk.injEq] at h
   obtain ⟨rfl, rfl⟩ := h
   simp only [Bool.and_eq_true, decide_eq_true_eq] at hb
   obtain ⟨h1, h2, h3⟩ := hb
   have e := Nat.eq_of_beq_eq_true h1
   subst e
   refine ⟨by kernel_rfl, Nat.le_refl _, fun E w vs hE hv => ?_⟩
   obtain ⟨v1, l1, rfl, k1, hr⟩ := iU hv
   obtain rfl := pY hr
   obtain rfl := lW k1
   refine (Tryz.bits_Len x' w h2 h3).mono fun e w' ⟨he, hw⟩ => ?_
   subst hw
   exact ⟨E, _, H, _, he, ⟨rfl, rfl⟩, .refl E, .int _ _, hE⟩
 ·cases h
open Go.RowKit
def gp (l : List Pt) (i : Nat) : Pt := (g1 l i, g2 l i)
section
variable (H : ac)
def cF (x m : Int) : Bool := decide (0 - m ≤ x) && decide (x ≤ m)
def absI (n : Int) : Int := if n < 0 then -n else n
end
set_option linter.unusedSimpArgs false
set_option linter.unusedVariables false
open Go.RowKit
theorem IsP.parts {H : ac} {s : AV} {l : List Pt} (h : IsP H s l) : ∃ a c, s = .sl a l.length c := by
 rcases h with ⟨rfl, rfl⟩ | ⟨b, own, cap, rfl, hb⟩
 ·exact ⟨_, _, rfl⟩
 ·exact ⟨_, _, rfl⟩
theorem IsP.pos {H : ac} {s : AV} {l : List Pt} (h : IsP H s l) (h0 : 0 < l.length) : ∃ b own cap, s = .sl (some (b, 0)) l.length cap ∧ H[b]? = some (.cells own 2 (prs l)) := by
 rcases h with ⟨rfl, rfl⟩ | ⟨b, own, cap, rfl, hb⟩
 ·simp at h0
 ·exact ⟨b, own, cap, rfl, hb⟩
section
variable (H : ac)
end
set_option linter.unusedSimpArgs false
set_option linter.unusedVariables false
open Go.RowKit
section
variable (H : ac)
end
set_option linter.unusedSimpArgs false
set_option linter.unusedVariables false
open Go.RowKit
open Go.RowKit
open Go.RowKit
open Go.RowKit
open Go.RowKit
theorem bl {x m : Int} : cF x m = true ↔ -m ≤ x ∧ x ≤ m := by unfold cF; simp
open Go.RowKit
def dotP (n g : Pt) : Int := n.1 * g.1 + n.2 * g.2
def spr (n : Pt) : List Pt → Int
 | [] => 0
 | g :: l => absI (dotP n g) + spr n l
open Go.RowKit
open Go.RowKit
open Go.RowKit
open Go.RowKit
open Go.RowKit
theorem absI_neg (x : Int) : absI (-x) = absI x := by unfold absI; split <;> split <;> omega
theorem absI_le {x M : Int} : absI x ≤ M ↔ -M ≤ x ∧ x ≤ M := by unfold absI; split <;> omega
theorem pn (n g : Pt) : dotP (-n.1, -n.2) g = -dotP n g := by unfold dotP; simp only [Int.neg_mul]; omega
theorem sT (n g : Pt) (l : List Pt) : spr n (g :: l) = absI (dotP n g) + spr n l := rfl
theorem sU (n : Pt) : ∀ l : List Pt, spr (-n.1, -n.2) l = spr n l
 | [] => rfl
 | g :: l => by rw [sT, sT, sU n l, pn, absI_neg]
def inZ (L : List Pt) (d : Pt) : Prop := ∀ n : Pt, dotP n d ≤ spr n L
theorem inZ.abs {L : List Pt} {d : Pt} (h : inZ L d) (n : Pt) : absI (dotP n d) ≤ spr n L := by
 rw [absI_le]
 have h1 := h n
 have h2 := h (-n.1, -n.2)
 rw [pn, sU] at h2
 omega
open Go.RowKit
open Go.RowKit
open Go.RowKit
open Go.RowKit
open Go.RowKit
open Go.RowKit
open Go.RowKit
open Go.RowKit
def mkL (e : Int) (L : List Pt) : List Pt := if e = 0 then L else []
open Go.RowKit
open Go.RowKit Go.Sort
open Go.RowKit
theorem jv {l : List Pt} : (prs l).take (l.length * 2) = prs l := by rw [pX, List.take_length]
open Go.RowKit
open Go.RowKit
open Go.RowKit
open Go.RowKit
theorem and255 (a : Int) : (BitVec.ofInt 64 a &&& BitVec.ofInt 64 255).toNat = (a % 256).toNat := by
 rw [BitVec.toNat_and, BitVec.toNat_ofInt, BitVec.toNat_ofInt]
 have e : ((255 : Int) % ((2 ^ 64 : Nat) : Int)).toNat = 2 ^ 8 - 1 := by decide
 rw [e, Nat.and_two_pow_sub_one_eq_mod]
 have : (((a % ((2 ^ 64 : Nat) : Int)).toNat : Nat) : Int) = a % 18446744073709551616 := by
  rw [Int.toNat_of_nonneg (Int.emod_nonneg _ (by decide))]; rfl
 omega
def dP (x y d : Int) : Nat := Nat.gcd (Nat.gcd d.natAbs x.natAbs) y.natAbs
abbrev Vec := Int × Int × Int
def ew (x y d : Int) : Vec := (x.tdiv (dP x y d), y.tdiv (dP x y d), d.tdiv (dP x y d))
theorem sV {x y d : Int} (h : d ≠ 0) : 0 < dP x y d := by
 unfold dP
 exact Nat.gcd_pos_of_pos_left _ (Nat.gcd_pos_of_pos_left _ (Int.natAbs_pos.2 h))
theorem gcd3_dvd (x y d : Int) : ((dP x y d : Nat) : Int) ∣ x ∧ ((dP x y d : Nat) : Int) ∣ y ∧ ((dP x y d : Nat) : Int) ∣ d := by
 unfold dP
 have h1 := Nat.gcd_dvd_left (Nat.gcd d.natAbs x.natAbs) y.natAbs
 have h2 := Nat.gcd_dvd_right (Nat.gcd d.natAbs x.natAbs) y.natAbs
 exact ⟨Int.ofNat_dvd_left.2 (Nat.dvd_trans h1 (Nat.gcd_dvd_right _ _)), Int.ofNat_dvd_left.2 h2, Int.ofNat_dvd_left.2 (Nat.dvd_trans h1 (Nat.gcd_dvd_left _ _))⟩
theorem lowV_mul {x y d : Int} (h : d ≠ 0) : ∃ g : Int, 0 < g ∧ x = (ew x y d).1 * g ∧ y = (ew x y d).2.1 * g ∧ d = (ew x y d).2.2 * g := by
 obtain ⟨a, b, c⟩ := gcd3_dvd x y d
 have hp := sV (x := x) (y := y) h
 refine ⟨dP x y d, by omega, ?_, ?_, ?_⟩ <;> (unfold ew; simp only; rw [Int.tdiv_mul_cancel (by assumption)])
def dir0 (k : Nat) : Vec := ew (4096 - (k : Int) * k) (128 * k) (4096 + (k : Int) * k)
def rotN (v : Vec) : Nat → Vec
 | 0 => v
 | n + 1 => (-(rotN v n).2.1, (rotN v n).1, (rotN v n).2.2)
def dirN (h : Nat) : Vec := rotN (dir0 (h % 64)) (h / 64)
def cR (h : Int) : Vec := dirN (h % 256).toNat
def eD (v : Vec) : Bool := decide (1 ≤ v.2.2) && decide (v.2.2 ≤ 8065) && decide (-v.2.2 ≤ v.1) && decide (v.1 ≤ v.2.2) && decide (-v.2.2 ≤ v.2.1) && decide (v.2.1 ≤ v.2.2) && decide (v.1 * v.1 + v.2.1 * v.2.1 = v.2.2 * v.2.2)
theorem dirs_ok : (List.range 256).all (fun h => eD (dirN h)) = true := by decide +kernel
theorem gh (h : Int) : eD (cR h) = true := by
 have := List.all_eq_true.1 dirs_ok (h % 256).toNat (by simp; omega)
 exact this
theorem dm {v : Vec} : eD v = true ↔ (1 ≤ v.2.2 ∧ v.2.2 ≤ 8065) ∧ (-v.2.2 ≤ v.1 ∧ v.1 ≤ v.2.2) ∧ (-v.2.2 ≤ v.2.1 ∧ v.2.1 ≤ v.2.2) ∧ v.1 * v.1 + v.2.1 * v.2.1 = v.2.2 * v.2.2 := by
 unfold eD
 simp only [Bool.and_eq_true, decide_eq_true_eq]
 constructor
 ·rintro ⟨⟨⟨⟨⟨⟨a, b⟩, c⟩, d⟩, e⟩, f⟩, g⟩; exact ⟨⟨a, b⟩, ⟨c, d⟩, ⟨e, f⟩, g⟩
 ·rintro ⟨⟨a, b⟩, ⟨c, d⟩, ⟨e, f⟩, g⟩; exact ⟨⟨⟨⟨⟨⟨a, b⟩, c⟩, d⟩, e⟩, f⟩, g⟩
theorem gz {a b : Int} (h : 0 < b) : (if a.tmod b < 0 then a.tdiv b - 1 else a.tdiv b) = a / b := by
 rw [Int.tdiv_eq_ediv, Int.tmod_eq_emod]
 have h1 := Int.emod_nonneg a (by omega : b ≠ 0)
 have h2 := Int.emod_lt_of_pos a h
 have hs : b.sign = 1 := Int.sign_eq_one_of_pos h
 have hn : (b.natAbs : Int) = b := by omega
 split
 ·rw [if_neg (by omega)]; omega
 ·rw [if_pos (by omega), hs]; omega
open Go.RowKit
def cS (h m : Int) : Int := m * (cR h).1 / (cR h).2.2
def cT (h m : Int) : Int := m * (cR h).2.1 / (cR h).2.2
theorem div_bd {m a d : Int} (hd : 1 ≤ d) (ha : -d ≤ a ∧ a ≤ d) (hm : 0 ≤ m) : -m ≤ m * a / d ∧ m * a / d ≤ m := by
 constructor
 ·rw [Int.le_ediv_iff_mul_le (by omega)]
  have := Int.mul_le_mul_of_nonneg_left ha.1 hm
  rw [Int.mul_neg] at this
  rw [Int.neg_mul]; exact this
 ·have := Int.mul_le_mul_of_nonneg_left ha.2 hm
  have h2 : m * a / d ≤ m * d / d := Int.ediv_le_ediv (by omega) this
  rwa [Int.mul_ediv_cancel _ (by omega)] at h2
theorem lz (h : Int) {m : Int} (hm : 0 ≤ m) : (-m ≤ cS h m ∧ cS h m ≤ m) ∧ (-m ≤ cT h m ∧ cT h m ≤ m) := by
 have hv := dm.1 (gh h)
 exact ⟨div_bd hv.1.1 hv.2.1 hm, div_bd hv.1.1 hv.2.2.1 hm⟩
def btw (n lo hi : Int) : Bool := decide (lo ≤ n) && decide (n ≤ hi)
theorem bN {n lo hi : Int} : btw n lo hi = true ↔ lo ≤ n ∧ n ≤ hi := by unfold btw; simp
def dt (t f : Int) : Bool := cF t 32 && btw f 0 32
def cu (tu le sl ra : Int) : Bool := btw tu 0 8 && (btw le 0 16 && (btw sl 0 8 && btw ra 1 32))
end Go.Proofs.YtidlfjajjieepaaGreat
