/- Parts of the proof: walks and plain facts. Conditions: as each theorem states. -/
import Derived.Test.YtojbkljfioegkaaGreatG1
import Derived.WideShapes
import Derived.ChangeArms
import Derived.Deep.Fields
import Derived.Test.YtojbkljfioegkaaGreatRows
import Derived.ProofKit
import Derived.OpenShut
import Derived.ShutString
import Derived.ChangeOld
import Derived.Lib.SmallJoins
import Derived.Shelf.Small.Bits
import Derived.Shelf.Strconv.Itoa0
import Derived.Shelf.Strings.Search1
import Derived.Shelf.Bytes.SlIndexSmall
import Derived.Ground.SlbNamesProg
import Derived.Shelf.Bytes.SlCountOne
import Derived.Shelf.Bytes.SlIndexAt
import Derived.Shelf.Bytes.SlSearch0
import Derived.Shelf.Bytes.Small
import Derived.Shelf.Bytes.IndexByte
import Derived.Shelf.SlSortCmp.WholeK
import Derived.Shelf.SlGeneric
import Derived.Ground.SlsfProg
import Derived.Test.YtojbkljfioegkaaGreatProg
import Derived.Lib.SortBridge
import Derived.Lib.RowBridge
namespace Go.Proofs.YtojbkljfioegkaaGreat
set_option linter.unusedSimpArgs false
set_option linter.unusedVariables false
open Go.RowKit

mutual
def AV.mv (σ : Nat → Nat) : AV → AV
 | .any => .any
 | .int k n => .int k n
 | .bool b => .bool b
 | .str s => .str s
 | .ptr none => .ptr none
 | .ptr (some (b, o)) => .ptr (some (σ b, o))
 | .sl none n c => .sl none n c
 | .sl (some (b, o)) n c => .sl (some (σ b, o)) n c
 | .mp none => .mp none
 | .mp (some b) => .mp (some (σ b))
 | .fn f caps => .fn f (AV.mvs σ caps)
 | .nilfn => .nilfn
 | .agg cs => .agg (AV.mvs σ cs)
 | .tup vs => .tup (AV.mvs σ vs)
def AV.mvs (σ : Nat → Nat) : List AV → List AV
 | [] => []
 | x :: r => x.mv σ :: AV.mvs σ r
end
mutual
def AV.bel (n : Nat) : AV → Bool
 | .ptr (some (b, _)) => decide (b < n)
 | .sl (some (b, _)) _ _ => decide (b < n)
 | .mp (some b) => decide (b < n)
 | .fn _ caps => AV.bels n caps
 | .agg cs => AV.bels n cs
 | .tup vs => AV.bels n vs
 | _ => true
def AV.bels (n : Nat) : List AV → Bool
 | [] => true
 | x :: r => x.bel n && AV.bels n r
end
theorem AV.mvs_eq (σ : Nat → Nat) : ∀ xs : List AV, AV.mvs σ xs = xs.map (AV.mv σ)
 | [] => rfl
 | x :: r => by simp [AV.mvs, AV.mvs_eq σ r]
theorem AV.bels_eq (n : Nat) : ∀ xs : List AV, AV.bels n xs = xs.all (AV.bel n)
 | [] => rfl
 | x :: r => by simp [AV.bels, AV.bels_eq n r]
mutual
theorem mv_id {n : Nat} {σ : Nat → Nat} (h : ∀ b, b < n → σ b = b) : ∀ x : AV, x.bel n = true → x.mv σ = x
 | .any, _ => rfl
 | .int _ _, _ => rfl
 | .bool _, _ => rfl
 | .str _, _ => rfl
 | .ptr none, _ => rfl
 | .ptr (some (b, o)), hb => by simp [AV.bel] at hb; simp [AV.mv, h b hb]
 | .sl none _ _, _ => rfl
 | .sl (some (b, o)) _ _, hb => by simp [AV.bel] at hb; simp [AV.mv, h b hb]
 | .mp none, _ => rfl
 | .mp (some b), hb => by simp [AV.bel] at hb; simp [AV.mv, h b hb]
 | .nilfn, _ => rfl
 | .fn f caps, hb => by simp only [AV.bel] at hb; simp only [AV.mv, gQ h caps hb]
 | .agg cs, hb => by simp only [AV.bel] at hb; simp only [AV.mv, gQ h cs hb]
 | .tup cs, hb => by simp only [AV.bel] at hb; simp only [AV.mv, gQ h cs hb]
theorem gQ {n : Nat} {σ : Nat → Nat} (h : ∀ b, b < n → σ b = b) : ∀ xs : List AV, AV.bels n xs = true → AV.mvs σ xs = xs
 | [], _ => rfl
 | x :: r, hb => by
  simp only [AV.bels, Bool.and_eq_true] at hb
  simp only [AV.mvs, mv_id h x hb.1, gQ h r hb.2]
end
mutual
theorem rel_mv {E E' : Env} {σ : Nat → Nat} (hl : ∀ b, E'.loc b = E.loc (σ b)) (hn : ∀ b, σ b < E.n → b < E'.n) : ∀ (x : AV) (v : Value), Rel E (x.mv σ) v → Rel E' x v
 | .any, v, _ => .any v
 | .int _ _, v, h => by simp only [AV.mv] at h; cases h; exact .int _ _
 | .bool _, v, h => by simp only [AV.mv] at h; cases h; exact .bool _
 | .str _, v, h => by simp only [AV.mv] at h; cases h; exact .str _
 | .ptr none, v, h => by simp only [AV.mv] at h; cases h; exact .nilptr
 | .ptr (some (b, o)), v, h => by
  simp only [AV.mv] at h
  cases h with
  | ptr _ _ hb => rw [← hl]; exact .ptr b o (hn b hb)
 | .sl none _ _, v, h => by simp only [AV.mv] at h; cases h; exact .nilsl
 | .sl (some (b, o)) n c, v, h => by
  simp only [AV.mv] at h
  cases h with
  | nils _ _ hb hc => exact .nils b c (hn b hb) hc
  | sl _ _ _ _ q a hb h1 h2 h3 h4 h5 => exact .sl b o n c q a (hn b hb) h1 h2 h3 (by rw [hl]; exact h4) (by rw [hl]; exact h5)
 | .mp none, v, h => by simp only [AV.mv] at h; cases h; exact .nilmp
 | .mp (some b), v, h => by
  simp only [AV.mv] at h
  cases h with
  | mp _ hb => rw [← hl]; exact .mp b (hn b hb)
 | .nilfn, v, h => by simp only [AV.mv] at h; cases h; exact .nilfn
 | .fn f caps, v, h => by
  simp only [AV.mv] at h
  cases h with
  | fn _ _ cs h1 h2 =>
   have := gc hl hn caps cs.toList ⟨by simpa using h1, fun i x v hx hv => h2 i x v hx (by simpa using hv)⟩
   have := this.fn (f := f)
   simpa using this
 | .agg xs, v, h => by
  simp only [AV.mv] at h
  obtain ⟨vs, rfl, hr⟩ := cR h
  exact (gc hl hn xs vs hr).agg
 | .tup xs, v, h => by
  simp only [AV.mv] at h
  cases h with
  | tup _ cs h1 h2 =>
   have := (gc hl hn xs cs.toList ⟨by simpa using h1, fun i x v hx hv => h2 i x v hx (by simpa using hv)⟩).tup
   simpa using this
theorem gc {E E' : Env} {σ : Nat → Nat} (hl : ∀ b, E'.loc b = E.loc (σ b)) (hn : ∀ b, σ b < E.n → b < E'.n) : ∀ (xs : List AV) (vs : List Value), RelL E (AV.mvs σ xs) vs → RelL E' xs vs
 | [], vs, h => by
  have : vs = [] := List.length_eq_zero_iff.1 (by have := h.1; simpa [AV.mvs] using this.symm)
  subst this
  exact RelL.nil E'
 | x :: r, [], h => by have := h.1; simp [AV.mvs] at this
 | x :: r, v :: vs, h => by
  simp only [AV.mvs] at h
  obtain ⟨h1, h2⟩ := h.uncons
  exact .cons (rel_mv hl hn x v h1) (gc hl hn r vs h2)
end
mutual
theorem rel_bel {E : Env} : ∀ (x : AV) (v : Value), Rel E x v → x.bel E.n = true
 | .any, v, _ => rfl
 | .int _ _, v, h => rfl
 | .bool _, v, h => rfl
 | .str _, v, h => rfl
 | .ptr none, v, h => rfl
 | .ptr (some (b, o)), v, h => by cases h with | ptr _ _ hb => simp [AV.bel, hb]
 | .sl none _ _, v, h => rfl
 | .sl (some (b, o)) n c, v, h => by cases h with | nils _ _ hb => simp [AV.bel, hb] | sl _ _ _ _ q a hb => simp [AV.bel, hb]
 | .mp none, v, h => rfl
 | .mp (some b), v, h => by cases h with | mp _ hb => simp [AV.bel, hb]
 | .nilfn, v, h => rfl
 | .fn f caps, v, h => by
  cases h with
  | fn _ _ cs h1 h2 =>
   simp only [AV.bel]
   exact e7 caps cs.toList ⟨by simpa using h1, fun i x v hx hv => h2 i x v hx (by simpa using hv)⟩
 | .agg xs, v, h => by
  obtain ⟨vs, rfl, hr⟩ := cR h
  simp only [AV.bel]
  exact e7 xs vs hr
 | .tup xs, v, h => by
  cases h with
  | tup _ cs h1 h2 =>
   simp only [AV.bel]
   exact e7 xs cs.toList ⟨by simpa using h1, fun i x v hx hv => h2 i x v hx (by simpa using hv)⟩
theorem e7 {E : Env} : ∀ (xs : List AV) (vs : List Value), RelL E xs vs → AV.bels E.n xs = true
 | [], vs, h => rfl
 | x :: r, [], h => by have := h.1; simp at this
 | x :: r, v :: vs, h => by
  obtain ⟨h1, h2⟩ := h.uncons
  simp only [AV.bels, Bool.and_eq_true]
  exact ⟨rel_bel x v h1, e7 r vs h2⟩
end
def ABlk.bel (n : Nat) : ABlk → Bool
 | .dead => true
 | .cells _ _ xs => AV.bels n xs
 | .map es => AV.bels n (es.map (·.1)) && AV.bels n (es.map (·.2))
def ABlk.mv (σ : Nat → Nat) : ABlk → ABlk
 | .dead => .dead
 | .cells o e xs => .cells o e (AV.mvs σ xs)
 | .map es => .map (es.map fun p => (p.1.mv σ, p.2.mv σ))
def HBel (n : Nat) (H : ac) : Prop := ∀ (b : Nat) (x : ABlk), H[b]? = some x → x.bel n = true
theorem Emb.bel {E : Env} {H : ac} {w : World} (h : Emb E H w) : HBel H.length H := fun b x hx => by
 rw [← h.n]
 have hk := h.blk b x hx
 cases x with
 | dead => rfl
 | cells own es xs =>
  simp only [ABlk.bel]
  rw [AV.bels_eq, List.all_eq_true]
  intro y hy
  obtain ⟨j, hj⟩ := List.mem_iff_getElem?.1 hy
  obtain ⟨-, v, -, hr⟩ := hk.1 j y hj
  exact rel_bel y v hr
 | map es =>
  obtain ⟨-, -, ents, clock, -, h4, h5⟩ := hk
  simp only [ABlk.bel, Bool.and_eq_true]
  exact ⟨e7 _ _ h4, e7 _ _ h5⟩
theorem kH {E E' : Env} {σ : Nat → Nat} (hB : E'.B = E.B) (hl : ∀ b, E'.loc b = E.loc (σ b)) (hn : ∀ b, σ b < E.n → b < E'.n) {w : World} {L : Loc} : ∀ {x : ABlk}, BlkOk E w L (x.mv σ) → BlkOk E' w L x
 | .dead, _ => trivial
 | .cells own es xs, h => by
  simp only [ABlk.mv] at h
  obtain ⟨h1, h2, h3, h4⟩ := h
  refine ⟨fun j y hj => ?_, fun ho => ?_, fun ho hlen => ?_, h4⟩
  ·obtain ⟨a1, v, a2, a3⟩ := h1 j (y.mv σ) (by rw [AV.mvs_eq, List.getElem?_map, hj]; rfl)
   exact ⟨by cases y <;> simp [AV.mv, AV.one] at a1 ⊢, v, a2, rel_mv hl hn y v a3⟩
  ·rw [hB]
   have := h2 ho
   rw [AV.mvs_eq, List.length_map] at this
   exact this
  ·rw [hB]
   exact h3 ho (by rw [AV.mvs_eq, List.length_map]; exact hlen)
 | .map es, h => by
  simp only [ABlk.mv] at h
  obtain ⟨h1, h2, ents, clock, h3, h4, h5⟩ := h
  refine ⟨by rw [hB]; exact h1, h2, ents, clock, h3, gc hl hn _ _ ?_, gc hl hn _ _ ?_⟩
  ·rw [AV.mvs_eq]; simpa [Function.comp_def] using h4
  ·rw [AV.mvs_eq]; simpa [Function.comp_def] using h5
def Wc (m : Nat) (x y : AV) : Prop := x = y ∨ (∃ b c, x = .sl none 0 (some 0) ∧ y = .sl (some (b, 0)) 0 c ∧ b < m ∧ (c = none ∨ c = some 0)) ∨ ∃ p n c, x = .sl (some p) n c ∧ y = .sl (some p) n none
theorem Wc.rel {E : Env} {m : Nat} {x y : AV} {v : Value} (hm : m ≤ E.n) (h : Wc m x y) (hx : Rel E x v) : Rel E y v := by
 rcases h with rfl | ⟨b, c, rfl, rfl, hb, hc⟩ | ⟨p, n, c, rfl, rfl⟩
 ·exact hx
 ·cases hx; exact .nils _ _ (by omega) hc
 ·cases hx with
  | nils _ _ hb hc => exact .nils _ none hb (.inl rfl)
  | sl _ _ _ _ q a hb h1 h2 h3 h4 h5 => exact .sl _ _ _ none q a hb h1 h2 (.inl rfl) h4 h5
theorem Wc.one {m : Nat} {x y : AV} (h : Wc m x y) (hx : x.one = true) : y.one = true := by
 rcases h with rfl | ⟨b, c, rfl, rfl, hb, hc⟩ | ⟨p, n, c, rfl, rfl⟩
 ·exact hx
 ·rfl
 ·rfl
def Wcs (m : Nat) : List AV → List AV → Prop
 | [], [] => True
 | x :: xs, y :: ys => Wc m x y ∧ Wcs m xs ys
 | _, _ => False
theorem Wcs.get {m : Nat} : ∀ {xs ys : List AV}, Wcs m xs ys → xs.length = ys.length ∧ ∀ (i : Nat) (y : AV), ys[i]? = some y → ∃ x, xs[i]? = some x ∧ Wc m x y
 | [], [], _ => ⟨rfl, fun i y h => by simp at h⟩
 | x :: xs, y :: ys, h => by
  obtain ⟨h1, h2⟩ := Wcs.get h.2
  refine ⟨by simp [h1], fun i u hu => ?_⟩
  cases i with
  | zero => simp at hu; subst hu; exact ⟨x, rfl, h.1⟩
  | succ i => exact h2 i u (by simpa using hu)
 | [], _ :: _, h => h.elim
 | _ :: _, [], h => h.elim
mutual
def W (m : Nat) : AV → AV → Prop
 | .agg xs, y => y = .any ∨ (match y with | .agg ys => Ws m xs ys | _ => False)
 | .tup xs, y => y = .any ∨ (match y with | .tup ys => Ws m xs ys | _ => False)
 | x, y => y = .any ∨ Wc m x y
def Ws (m : Nat) : List AV → List AV → Prop
 | [], ys => (match ys with | [] => True | _ => False)
 | x :: xs, ys => (match ys with | y :: ys => W m x y ∧ Ws m xs ys | [] => False)
end
mutual
theorem W.refl {m : Nat} : ∀ (x : AV), W m x x
 | .agg xs => .inr (Ws.refl xs)
 | .tup xs => .inr (Ws.refl xs)
 | .any => .inl rfl
 | .int _ _ => .inr (.inl rfl)
 | .bool _ => .inr (.inl rfl)
 | .str _ => .inr (.inl rfl)
 | .ptr _ => .inr (.inl rfl)
 | .sl _ _ _ => .inr (.inl rfl)
 | .mp _ => .inr (.inl rfl)
 | .fn _ _ => .inr (.inl rfl)
 | .nilfn => .inr (.inl rfl)
theorem Ws.refl {m : Nat} : ∀ (xs : List AV), Ws m xs xs
 | [] => trivial
 | x :: xs => ⟨W.refl x, Ws.refl xs⟩
end
theorem W_any {m : Nat} : ∀ (x : AV), W m x .any
 | .agg _ | .tup _ | .any | .int _ _ | .bool _ | .str _ | .ptr _ | .sl _ _ _ | .mp _ | .fn _ _ | .nilfn => .inl rfl
theorem jd {m : Nat} {xs ys : List AV} : W m (.agg xs) (.agg ys) = Ws m xs ys := by
 show (AV.agg ys = .any ∨ Ws m xs ys) = _
 simp
theorem je {m : Nat} {xs ys : List AV} : W m (.tup xs) (.tup ys) = Ws m xs ys := by
 show (AV.tup ys = .any ∨ Ws m xs ys) = _
 simp
theorem ge {m : Nat} {x y : AV} {xs ys : List AV} : Ws m (x :: xs) (y :: ys) = (W m x y ∧ Ws m xs ys) := rfl
theorem gf {m : Nat} {x : AV} : W m x x = True := eq_true (W.refl x)
theorem e8 {m : Nat} {xs : List AV} : Ws m xs xs = True := eq_true (Ws.refl xs)
theorem gR {m : Nat} {x : AV} : W m x .any = True := eq_true (W_any x)
theorem dA {m b : Nat} {c : Option Nat} (hb : b < m) (hc : c = none ∨ c = some 0) : W m (.sl none 0 (some 0)) (.sl (some (b, 0)) 0 c) := .inr (.inr (.inl ⟨b, c, rfl, rfl, hb, hc⟩))
theorem ia {m n : Nat} {p : Nat × Nat} {c : Option Nat} : W m (.sl (some p) n c) (.sl (some p) n none) := .inr (.inr (.inr ⟨p, n, c, rfl, rfl⟩))
theorem dd {m b : Nat} {c : Option Nat} (hb : b < m) (hc : c = none ∨ c = some 0) : Wc m (.sl none 0 (some 0)) (.sl (some (b, 0)) 0 c) := .inr (.inl ⟨b, c, rfl, rfl, hb, hc⟩)
theorem gt {m n : Nat} {p : Nat × Nat} {c : Option Nat} : Wc m (.sl (some p) n c) (.sl (some p) n none) := .inr (.inr ⟨p, n, c, rfl, rfl⟩)
theorem e9 {m : Nat} {x : AV} : Wc m x x = True := eq_true (.inl rfl)
theorem fa {m : Nat} {x y : AV} {xs ys : List AV} : Wcs m (x :: xs) (y :: ys) = (Wc m x y ∧ Wcs m xs ys) := rfl
theorem gg {m : Nat} : Wcs m [] [] = True := rfl
mutual
theorem rel_W {E : Env} {m : Nat} (hm : m ≤ E.n) : ∀ (x y : AV) (v : Value), W m x y → Rel E x v → Rel E y v
 | .agg xs, y, v, h, hx => by
  rcases h with rfl | h
  ·exact .any v
  ·cases y <;> first | exact h.elim | skip
   obtain ⟨vs, rfl, hr⟩ := cR hx
   exact (relL_W hm xs _ vs h hr).agg
 | .tup xs, y, v, h, hx => by
  rcases h with rfl | h
  ·exact .any v
  ·cases y <;> first | exact h.elim | skip
   cases hx with
   | tup _ cs h1 h2 =>
    have := (relL_W hm xs _ cs.toList h ⟨by simpa using h1, fun i x v hx hv => h2 i x v hx (by simpa using hv)⟩).tup
    simpa using this
 | .any, y, v, h, hx => by rcases h with rfl | h; exact .any v; exact h.rel hm hx
 | .int _ _, y, v, h, hx => by rcases h with rfl | h; exact .any v; exact h.rel hm hx
 | .bool _, y, v, h, hx => by rcases h with rfl | h; exact .any v; exact h.rel hm hx
 | .str _, y, v, h, hx => by rcases h with rfl | h; exact .any v; exact h.rel hm hx
 | .ptr _, y, v, h, hx => by rcases h with rfl | h; exact .any v; exact h.rel hm hx
 | .sl _ _ _, y, v, h, hx => by rcases h with rfl | h; exact .any v; exact h.rel hm hx
 | .mp _, y, v, h, hx => by rcases h with rfl | h; exact .any v; exact h.rel hm hx
 | .fn _ _, y, v, h, hx => by rcases h with rfl | h; exact .any v; exact h.rel hm hx
 | .nilfn, y, v, h, hx => by rcases h with rfl | h; exact .any v; exact h.rel hm hx
theorem relL_W {E : Env} {m : Nat} (hm : m ≤ E.n) : ∀ (xs ys : List AV) (vs : List Value), Ws m xs ys → RelL E xs vs → RelL E ys vs
 | [], ys, vs, h, hr => by cases ys <;> first | exact hr | exact h.elim
 | x :: xs, ys, vs, h, hr => by
  cases ys with
  | nil => exact h.elim
  | cons y ys =>
   cases vs with
   | nil => have := hr.1; simp at this
   | cons v vs =>
    obtain ⟨h1, h2⟩ := hr.uncons
    exact .cons (rel_W hm x y v h.1 h1) (relL_W hm xs ys vs h.2 h2)
end
def BW (m : Nat) (a : Option ABlk) (x : ABlk) : Prop :=
 match a, x with
 | some (.cells o e xs), .cells o' e' ys => e = e' ∧ ((xs = [] ∧ ys = [] ∧ o' = false) ∨ (o = o' ∧ Wcs m xs ys) ∨ (o = o' ∧ ∃ zs, xs = ys ++ zs))
 | _, _ => False
theorem BW.ok {E : Env} {m : Nat} (hm : m ≤ E.n) {w : World} {L : Loc} {a : ABlk} {x : ABlk} (h : BW m (some a) x) (ha : BlkOk E w L a) : BlkOk E w L x := by
 unfold BW at h
 split at h
 ·rename_i o e xs o' e' ys e1
  injection e1 with e1; subst e1
  obtain ⟨rfl, h⟩ := h
  obtain ⟨k1, k2, k3, k4⟩ := ha
  rcases h with ⟨rfl, rfl, rfl⟩ | ⟨rfl, h⟩ | ⟨rfl, zs, rfl⟩
  ·exact ⟨fun j y hj => by simp at hj, (fun h => by cases h), fun _ h0 => by simp at h0, k4⟩
  rotate_left
  ·refine ⟨fun j y hj => k1 j y (by rw [List.getElem?_append_left (getElem?_lt hj)]; exact hj), fun ho => ?_, fun ho hl => k3 ho (by rw [List.length_append]; omega), k4⟩
   obtain ⟨a1, a2, a3, a4, a5⟩ := k2 ho
   rw [List.length_append] at a4
   exact ⟨a1, a2, a3, by omega, a5⟩
  ·obtain ⟨q1, q2⟩ := h.get
   refine ⟨fun j y hj => ?_, fun ho => ?_, fun ho hl => k3 ho (by omega), k4⟩
   ·obtain ⟨x, hx, hw⟩ := q2 j y hj
    obtain ⟨a1, v, a2, a3⟩ := k1 j x hx
    exact ⟨hw.one a1, v, a2, hw.rel hm a3⟩
   ·rw [← q1]; exact k2 ho
 ·exact h.elim
theorem BW.own {m : Nat} {a : Option ABlk} {x : ABlk} (h : BW m a x) (ho : x.owned = true) : ∃ y, a = some y ∧ y.owned = true := by
 unfold BW at h
 split at h
 ·obtain ⟨rfl, h⟩ := h
  rcases h with ⟨rfl, rfl, rfl⟩ | ⟨rfl, h⟩ | ⟨rfl, h⟩
  ·cases ho
  ·exact ⟨_, rfl, ho⟩
  ·exact ⟨_, rfl, ho⟩
 ·exact h.elim
theorem BW.emp {m e : Nat} {o : Bool} : BW m (some (.cells o e [])) (.cells false e []) := ⟨rfl, .inl ⟨rfl, rfl, rfl⟩⟩
theorem BW.cells {m e : Nat} {o : Bool} {xs ys : List AV} (h : Wcs m xs ys) : BW m (some (.cells o e xs)) (.cells o e ys) := ⟨rfl, .inr (.inl ⟨rfl, h⟩)⟩
theorem BW.pre {m e : Nat} {o : Bool} {ys zs : List AV} : BW m (some (.cells o e (ys ++ zs))) (.cells o e ys) := ⟨rfl, .inr (.inr ⟨rfl, zs, rfl⟩)⟩
def sig (n m : Nat) (sel : List Nat) (b : Nat) : Nat := if b < n then b else match sel[b - n]? with | some i => n + i | none => b + (n + m)
theorem Abs0.of {n : Nat} {H0 l1 l2 : ac} {F1 F2 : Fr} (hlen : H0.length = n) (hsc : HBel n H0) (sel : List Nat) (hnd : sel.Nodup)
  (hF : ∀ p ∈ F2, W (n + l1.length) (look F1 p.1) (p.2.mv (sig n l1.length sel))) (hl : l2.length = sel.length) (hH : ∀ (i b : Nat) (x : ABlk), sel[i]? = some b → l2[i]? = some x → x = .dead ∨ l1[b]? = some (x.mv (sig n l1.length sel)) ∨ BW (n + l1.length) (l1[b]?) (x.mv (sig n l1.length sel))) :
  Abs0 n (sig n l1.length sel) F1 (H0 ++ l1) F2 (H0 ++ l2) := by
 have small : ∀ b, b < n → sig n l1.length sel b = b := fun b hb => by simp [sig, hb]
 have inr : ∀ E E' : Env, E.n = (H0 ++ l1).length → E'.n = (H0 ++ l2).length → ∀ b, sig n l1.length sel b < E.n → b < E'.n := fun E E' e1 e2 b hb => by
  rw [e1] at hb
  rw [e2]
  simp only [List.length_append, hlen, hl] at hb ⊢
  unfold sig at hb
  split at hb
  ·omega
  ·split at hb
   ·rename_i h; have := getElem?_lt h; omega
   ·omega
 have new : ∀ (b : Nat) (x : ABlk), ¬ b < n → (H0 ++ l2)[b]? = some x → ∃ i, sel[b - n]? = some i ∧ sig n l1.length sel b = n + i ∧ l2[b - n]? = some x := fun b x hb hx => by
  rw [List.getElem?_append_right (by omega), hlen] at hx
  have := getElem?_lt hx
  have h1 : sel[b - n]? = some (sel[b - n]'(by omega)) := List.getElem?_eq_getElem _
  exact ⟨_, h1, by unfold sig; rw [if_neg hb, h1], hx⟩
 refine ⟨small, by simp [hlen], fun E E' e1 e2 e3 t v hv => ?_, fun E E' e1 e2 eB e3 w hw b x hx => ?_, fun b c x y hx hy ox oy hbc => ?_⟩
 ·have hlook : look F2 t = .any ∨ ∃ p ∈ F2, p.1 = t ∧ look F2 t = p.2 := by
   clear hF
   induction F2 with
   | nil => exact .inl rfl
   | cons p F2 ih =>
    obtain ⟨s, y⟩ := p
    unfold look
    by_cases e : s = t
    ·subst e; simp
    ·have : (s == t) = false := by simp [e]
     rw [this]
     simp only [cond_false]
     rcases ih with h | ⟨p, h1, h2, h3⟩
     ·exact .inl h
     ·exact .inr ⟨p, by simp [h1], h2, h3⟩
  rcases hlook with h | ⟨p, h1, rfl, h3⟩
  ·rw [h]; exact .any v
  ·rw [h3]
   exact rel_mv e3 (inr E E' e1 e2) _ v (rel_W (by rw [e1, List.length_append, hlen]; exact Nat.le_refl _) _ _ v (hF p h1) hv)
 ·by_cases hb : b < n
  ·rw [List.getElem?_append_left (by omega)] at hx
   have h1 := hw b x (by rw [List.getElem?_append_left (by omega)]; exact hx)
   have hbel := hsc b x hx
   have hmv : x.mv (sig n l1.length sel) = x := by
    cases x with
    | dead => rfl
    | cells o e xs => simp only [ABlk.bel] at hbel; simp only [ABlk.mv, gQ small xs hbel]
    | map es =>
     simp only [ABlk.bel, Bool.and_eq_true] at hbel
     simp only [ABlk.mv]
     congr 1
     obtain ⟨q1, q2⟩ := hbel
     rw [AV.bels_eq, List.all_eq_true] at q1 q2
     have : es.map (fun p => (p.1.mv (sig n l1.length sel), p.2.mv (sig n l1.length sel))) = es.map id := List.map_congr_left fun p hp => by
      rw [mv_id small p.1 (q1 _ (List.mem_map_of_mem hp)), mv_id small p.2 (q2 _ (List.mem_map_of_mem hp))]
      rfl
     rw [this, List.map_id]
   rw [e3 b, small b hb]
   exact kH eB e3 (inr E E' e1 e2) (by rw [hmv]; exact h1)
  ·obtain ⟨i, h1, h2, h3⟩ := new b x hb hx
   rcases hH _ i x h1 h3 with rfl | h4 | h4
   ·trivial
   ·have h5 := hw (n + i) _ (by rw [List.getElem?_append_right (by omega), hlen, show n + i - n = i by omega]; exact h4)
    rw [e3 b, h2]
    exact kH eB e3 (inr E E' e1 e2) h5
   ·cases ha : l1[i]? with
    | none => rw [ha] at h4; exact h4.elim
    | some a =>
    rw [ha] at h4
    have h5 := hw (n + i) a (by rw [List.getElem?_append_right (by omega), hlen, show n + i - n = i by omega]; exact ha)
    rw [e3 b, h2]
    exact kH eB e3 (inr E E' e1 e2) (h4.ok (by rw [e1, List.length_append, hlen]; exact Nat.le_refl _) h5)
 ·have own : ∀ (b : Nat) (x : ABlk), (H0 ++ l2)[b]? = some x → x.owned = true → ∃ x', (H0 ++ l1)[sig n l1.length sel b]? = some x' ∧ x'.owned = true := fun b x hx ho => by
   by_cases hb : b < n
   ·rw [small b hb, List.getElem?_append_left (by omega)]
    rw [List.getElem?_append_left (by omega)] at hx
    exact ⟨x, hx, ho⟩
   ·obtain ⟨i, h1, h2, h3⟩ := new b x hb hx
    rcases hH _ i x h1 h3 with rfl | h4 | h4
    ·cases ho
    rotate_left
    ·rw [h2, List.getElem?_append_right (by omega), hlen, show n + i - n = i by omega]
     exact h4.own (by cases x <;> exact ho)
    ·rw [h2, List.getElem?_append_right (by omega), hlen, show n + i - n = i by omega]
     exact ⟨_, h4, by cases x <;> exact ho⟩
  refine ⟨?_, own b x hx ox, own c y hy oy⟩
  by_cases hb : b < n <;> by_cases hc : c < n
  ·rw [small b hb, small c hc]; exact hbc
  ·obtain ⟨j, -, h2, -⟩ := new c y hc hy
   rw [small b hb, h2]; omega
  ·obtain ⟨i, -, h2, -⟩ := new b x hb hx
   rw [small c hc, h2]; omega
  ·obtain ⟨i, h1, h2, -⟩ := new b x hb hx
   obtain ⟨j, h3, h4, -⟩ := new c y hc hy
   rw [h2, h4]
   intro e
   have hij : i = j := by omega
   subst hij
   have hb1 := getElem?_lt h1
   have := (List.getElem?_inj hb1 hnd).1 (h1.trans h3.symm)
   omega

theorem Abs.of {n : Nat} {H0 l1 l2 : ac} {F1 F2 : Fr} (G : ac) (hG : G.all fw = true) (hlen : H0.length = n) (hsc : HBel n H0) (sel : List Nat) (hnd : sel.Nodup)
  (hF : ∀ p ∈ F2, W (n + (l1 ++ G).length) (look F1 p.1) (p.2.mv (sig n (l1 ++ G).length sel))) (hl : l2.length = sel.length)
  (hH : ∀ (i b : Nat) (x : ABlk), sel[i]? = some b → l2[i]? = some x → x = .dead ∨ (l1 ++ G)[b]? = some (x.mv (sig n (l1 ++ G).length sel)) ∨ BW (n + (l1 ++ G).length) ((l1 ++ G)[b]?) (x.mv (sig n (l1 ++ G).length sel))) :
  Abs n (sig n (l1 ++ G).length sel) F1 (H0 ++ l1) F2 (H0 ++ l2) := ⟨G, hG, by rw [List.append_assoc]; exact Abs0.of hlen hsc sel hnd hF hl hH⟩
section
section
variable {P : Program} {N : Nat} {H : ac}
def argF : Nat → List AV → Fr
 | _, [] => []
 | i, x :: r => (i, x) :: argF (i + 1) r
theorem mh : ∀ (xs : List AV) (i t : Nat), look (argF i xs) t = if i ≤ t then (xs[t - i]?).getD .any else .any
 | [], i, t => by simp [argF, look]
 | x :: r, i, t => by
  unfold argF look
  by_cases e : i = t
  ·subst e; simp
  ·have : (i == t) = false := by simp [e]
   rw [this, cond_false, mh r (i + 1) t]
   by_cases h : i + 1 ≤ t
   ·rw [if_pos h, if_pos (by omega), show t - i = t - (i + 1) + 1 by omega, List.getElem?_cons_succ]
   ·rw [if_neg h, if_neg (by omega)]
def aRes (P : Program) : List ResultVar → Fr → ac → Option (List AV)
 | [], _, _ => some []
 | .tmp t :: rs, F, H => (aRes P rs F H).map fun l => look F t :: l
 | .cell a t :: rs, F, H => (aLoad P t (look F a) H).bind fun x => (aRes P rs F H).map fun l => x.1 :: l
def one1 : List AV → AV
 | [x] => x
 | l => .tup l
def cN (P : Program) (fn : Func) (F : Fr) (H : ac) : Option AV := (aRes P fn.results.toList F H).map one1
theorem run_loadAt_same {E : Env} {w : World} (h : Emb E H w) {t : TypeId} {x : AV} {v : Value} (hv : Rel E x v) {r : AV × ac} (hr : aLoad P t x H = some r) : ∃ u, (do loadVar t (← asAddr v)).run P w = .ok u w ∧ Rel E r.1 u := by
 unfold aLoad at hr
 split at hr
 ·rename_i b o
  cases hv with
  | ptr _ _ hb =>
  obtain ⟨g, hg, hr⟩ := aA hr
  cases g
  ·simp only [cond_false, Option.map_eq_some_iff] at hr
   obtain ⟨y, hy, rfl⟩ := hr
   obtain ⟨-, u, hu, hru⟩ := pU h hy
   exact ⟨u, by simp [asAddr, loadVar, run_isAgg hg, hu], hru⟩
  ·simp only [cond_true] at hr
   obtain ⟨n, hn, hr⟩ := aA hr
   simp only [Option.map_eq_some_iff] at hr
   obtain ⟨l, hl, rfl⟩ := hr
   obtain ⟨h1, -, vs, h2, h3⟩ := d7 h hl
   have hrun := run_loadCells' (P := P) (w := w) (E.loc b).blk ((E.loc b).off + o) vs h3
   rw [← h2.1, h1] at hrun
   exact ⟨_, by simp [asAddr, loadVar, run_isAgg hg, run_sizeOf' hn, hrun], h2.agg⟩
 ·cases hr
theorem run_aRes {E : Env} {w : World} (h : Emb E H w) {F : Fr} {a : Act} (hF : FrRel E F a) (f : ResultVar → Sem Value) (f1 : ∀ t, f (.tmp t) = Pure.pure (a.tmps.getD t undef)) (f2 : ∀ b t, f (.cell b t) = do loadVar t (← asAddr (a.tmps.getD b undef))) : ∀ (rs : List ResultVar) (l : List AV), aRes P rs F H = some l →
  ∃ vs : List Value, (rs.mapM f).run P w = .ok vs w ∧ RelL E l vs
 | [], l, hl => by
  simp [aRes] at hl; subst hl
  exact ⟨[], by simp, RelL.nil E⟩
 | .tmp t :: rs, l, hl => by
  simp only [aRes, Option.map_eq_some_iff] at hl
  obtain ⟨l', hl', rfl⟩ := hl
  obtain ⟨vs, h1, h2⟩ := run_aRes h hF f f1 f2 rs l' hl'
  exact ⟨_ :: vs, by simp only [List.mapM_cons, f1, Sem.run_bind, Sem.run_pure, Result.andThen_ok, h1], .cons (hF t) h2⟩
 | .cell b t :: rs, l, hl => by
  simp only [aRes] at hl
  obtain ⟨q, hq, hl⟩ := aA hl
  simp only [Option.map_eq_some_iff] at hl
  obtain ⟨l', hl', rfl⟩ := hl
  obtain ⟨vs, h1, h2⟩ := run_aRes h hF f f1 f2 rs l' hl'
  obtain ⟨u, hu, hru⟩ := run_loadAt_same h (hF b) hq
  exact ⟨u :: vs, by rw [List.mapM_cons, f2, Sem.run_bind, hu]; simp only [Sem.run_bind, Result.andThen_ok, Sem.run_pure, h1], .cons hru h2⟩
def dp (P : Program) (fn : Func) (n : Nat) (R : AV → ac → Prop) : Exit → Fr → ac → Prop
 | .normal, F, H | .ret, F, H => ∃ x1, cN P fn F H = some x1 ∧ ∃ σ x2 H2, R x2 H2 ∧ Abs n σ [(0, x1)] H [(0, x2)] H2
 | _, _, _ => False
theorem run_results {E : Env} {w : World} (h : Emb E H w) {F : Fr} {a : Act} (hF : FrRel E F a) {fn : Func} {x : AV} (hx : cN P fn F H = some x) : ∃ v, (results fn a.tmps).run P w = .ok v w ∧ Rel E x v := by
 unfold cN at hx
 simp only [Option.map_eq_some_iff] at hx
 obtain ⟨l, hl, rfl⟩ := hx
 have fin : ∀ vs : List Value, RelL E l vs → Rel E (one1 l) (if h : vs.toArray.size = 1 then vs.toArray[0] else .tuple vs.toArray) := fun vs h2 => by
  match l, vs, h2 with
  | [], [], h2 => exact h2.tup
  | [x], [v], h2 => exact h2.uncons.1
  | x :: y :: r, v :: u :: s, h2 => exact h2.tup
 have gen : ∀ f : ResultVar → Sem Value, (∀ t, f (.tmp t) = Pure.pure (a.tmps.getD t undef)) → (∀ b t, f (.cell b t) = do loadVar t (← asAddr (a.tmps.getD b undef))) →
   ∃ v, (do let vs ← fn.results.mapM f; Pure.pure (if h : vs.size = 1 then vs[0] else .tuple vs) : Sem Value).run P w = .ok v w ∧ Rel E (one1 l) v := fun f f1 f2 => by
  obtain ⟨vs, h1, h2⟩ := run_aRes h hF f f1 f2 _ l hl
  refine ⟨_, ?_, fin vs h2⟩
  rw [Array.mapM_eq_mapM_toList]
  simp only [Sem.run_bind, Sem.run_map]
  rw [h1]
  simp
 unfold results
 refine gen _ ?_ ?_
 ·intro t; rfl
 ·intro b t; rfl
theorem iM {f : FuncId} {fn : Func} {c : Code} {args : List AV} {R : AV → ac → Prop} (hf : P.funcs[f]? = some fn) (hb : fn.body = some c) (hN : fn.ntmps = N) (ha : args.length ≤ N)
  (h : HBel H.length H → AW P N H.length c (dp P fn H.length R) (argF 0 args) H) : ACalls P f args H R := by
 intro E w vs hE hv
 refine calls_of_wp hf hb (wp_mono (h hE.bel E w _ (by rw [hE.n]; exact Nat.le_refl _) (by have := hv.1; simp; omega) rfl (fun t => ?_) hE) ?_)
 ·rw [mh]
  simp only [Nat.zero_le, if_true, Nat.sub_zero]
  cases hx : args[t]? with
  | none => exact .any _
  | some x =>
   obtain ⟨v, hv1, hv2⟩ := hv.get hx
   have hlt := getElem?_lt hv1
   simp only [Option.getD_some]
   rw [Array.getD_eq_getD_getElem?, Array.getElem?_append_left (by simpa using hlt)]
   simp [hv1, hv2]
 ·rintro e a w' ⟨E', F, H1, q, l, k2, k3, k4, k5⟩
  have fin : (∃ x1, cN P fn F H1 = some x1 ∧ ∃ σ x2 H2, R x2 H2 ∧ Abs H.length σ [(0, x1)] H1 [(0, x2)] H2) → ∃ v, (results fn a.tmps).run P w' = .ok v w' ∧ ∃ E' v' H' x, Ending.returned v = .returned v' ∧ R x H' ∧ E.le E' ∧ Rel E' x v' ∧ Emb E' H' w' := by
   rintro ⟨x1, hx1, σ, x2, H2, hR, hab⟩
   obtain ⟨v, hv1, hv2⟩ := run_results k5 k4 hx1
   obtain ⟨E2, l2, f2, e2⟩ := hab.emb (a := ⟨#[v], []⟩) l.n (fun t => by
    unfold look
    cases t with
    | zero => simpa using hv2
    | succ t => simp [look]; exact .any _) k5
   refine ⟨v, hv1, E2, v, H2, x2, rfl, hR, ?_, ?_, e2⟩
   ·have := l.trans l2
    exact ⟨this.B, this.w0, by rw [hE.n]; exact this.n, fun b hb => this.loc b (by rw [← hE.n]; exact hb)⟩
   ·have := f2 0
    simpa [look] using this
  cases e with
  | normal =>
   obtain ⟨v, h1, h2⟩ := fin q
   exact ⟨k3, v, h1, h2⟩
  | ret =>
   obtain ⟨v, h1, h2⟩ := fin q
   exact ⟨k3, v, h1, h2⟩
  | exit id => exact q.elim
  | goto id => exact q.elim
  | panic ch => exact q.elim
  | outgrown => exact q.elim
end
end
set_option linter.unusedSimpArgs false
set_option linter.unusedVariables false
open Go.RowKit

structure LOp where
 dst : Option Tmp
 op : Op
 g : Option (Option Tmp × Bool)
def lightOf (ds : List (Option Tmp)) (o : Oper) : LOp := ⟨o.dst, o.op, o.guard.map fun g => ((ds[g.1]?).getD none, g.2)⟩
def dsts (ops : Array Oper) : List (Option Tmp) := ops.toList.map Oper.dst
def gdL (F : Fr) : Option (Option Tmp × Bool) → Option Bool
 | none => some true
 | some (none, _) => none
 | some (some t, want) => (match look F t with | .bool b => some (b == want) | .tup [] => some false | _ => none)
def AOpsL (P : Program) : List LOp → Fr → ac → (Fr → ac → Prop) → Prop
 | [], F, H, K => K F H
 | o :: os, F, H, K =>
  match gdL F o.g with
  | some true => AOp P o.op F H fun x H' => AOpsL P os (putF o.dst x F) H' K
  | some false => AOpsL P os (putF o.dst (.tup []) F) H K
  | none => False
def AOpsDL (P : Program) (q : Bool) (m : Nat) : List LOp → Fr → ac → (Fr → ac → Prop) → Prop
 | [], F, H, K => K F H
 | o :: os, F, H, K =>
  match gdL F o.g with
  | some true => AOpD P q m o.op F H fun x H' => AOpsDL P q m os (putF o.dst x F) H' K
  | some false => AOpsDL P q m os (putF o.dst (.tup []) F) H K
  | none => False
section
variable {P : Program} {N n m : Nat} {q : Bool}
theorem gdL_eq (ops : Array Oper) (F : Fr) (o : Oper) : gd ops F o = gdL F (lightOf (dsts ops) o).g := by
 unfold gd lightOf
 cases h : o.guard with
 | none => rfl
 | some g =>
  have e : ((dsts ops)[g.1]?).getD none = (ops[g.1]?).bind (·.dst) := by
   unfold dsts
   rw [List.getElem?_map, Array.getElem?_toList]
   cases ops[g.1]? <;> rfl
  simp only [Option.map_some, e]
  cases h2 : (ops[g.1]?).bind (·.dst) with
  | none => rfl
  | some t => rfl
theorem AOp.mono {o : Op} {F : Fr} {H : ac} {K K' : AV → ac → Prop} (h : AOp P o F H K) (hk : ∀ x H', K x H' → K' x H') : AOp P o F H K' := by
 unfold AOp at h ⊢
 split at h
 ·exact ⟨h.1, h.2.mono hk⟩
 ·obtain ⟨r, h1, h2⟩ := h; exact ⟨r, h1, hk _ _ h2⟩
theorem AOpD.mono {o : Op} {F : Fr} {H : ac} {K K' : AV → ac → Prop} (h : AOpD P q m o F H K) (hk : ∀ x H', K x H' → K' x H') : AOpD P q m o F H K' := by
 unfold AOpD at h ⊢
 split at h
 ·obtain ⟨h1, x, H', h2, h2', h3, h4⟩ := h; exact ⟨h1, x, H', h2, h2', h3, hk _ _ h4⟩
 ·obtain ⟨h0, r, h1, h2⟩ := h; exact ⟨h0, r, h1, hk _ _ h2⟩
theorem jf {ops : Array Oper} {K : Fr → ac → Prop} : ∀ (l : List Oper) (F : Fr) (H : ac), AOpsL P (l.map (lightOf (dsts ops))) F H K → AOps P ops l F H K
 | [], _, _, h => h
 | o :: os, F, H, h => by
  simp only [List.map_cons] at h
  unfold AOpsL at h
  unfold AOps
  rw [gdL_eq]
  cases hg : gdL F (lightOf (dsts ops) o).g with
  | none => rw [hg] at h; exact h
  | some b =>
   rw [hg] at h
   cases b
   ·exact jf os _ _ h
   ·exact AOp.mono h fun x H' hh => jf os _ _ hh
theorem fc {ops : Array Oper} {K : Fr → ac → Prop} : ∀ (l : List Oper) (F : Fr) (H : ac), AOpsDL P q m (l.map (lightOf (dsts ops))) F H K → fx P q m ops l F H K
 | [], _, _, h => h
 | o :: os, F, H, h => by
  simp only [List.map_cons] at h
  unfold AOpsDL at h
  unfold fx
  rw [gdL_eq]
  cases hg : gdL F (lightOf (dsts ops) o).g with
  | none => rw [hg] at h; exact h
  | some b =>
   rw [hg] at h
   cases b
   ·exact fc os _ _ h
   ·exact AOpD.mono h fun x H' hh => fc os _ _ hh
def AWr (P : Program) (N n : Nat) (q : Bool) : Code → (Exit → Fr → ac → Prop) → Fr → ac → Prop
 | .skip, Q, F, H => Q .normal F H
 | .label _, Q, F, H => Q .normal F H
 | .seq a b, Q, F, H => AWr P N n q a (ej (fun F H => AWr P N n q b Q F H) Q) F H
 | .cond c a b, Q, F, H => ∃ t, aev F c = .bool t ∧ (t = true → AWr P N n q a Q F H) ∧ (t = false → AWr P N n q b Q F H)
 | .block id c, Q, F, H => AWr P N n q c (d8 id Q) F H
 | .exit id, Q, F, H => Q (.exit id) F H
 | .ret, Q, F, H => Q .ret F H
 | .region _ ops draw, Q, F, H => bif draw then AOpsDL P q H.length (ops.toList.map (lightOf (dsts ops))) F H (Q .normal) else AOpsL P (ops.toList.map (lightOf (dsts ops))) F H (Q .normal)
 | .loop c, Q, F, H => AW P N n (.loop c) Q F H
 | _, _, _, _ => False
theorem AOpsL.mono {K K' : Fr → ac → Prop} (hk : ∀ F H, K F H → K' F H) : ∀ (l : List LOp) (F : Fr) (H : ac), AOpsL P l F H K → AOpsL P l F H K'
 | [], F, H, h => hk F H h
 | o :: os, F, H, h => by
  unfold AOpsL at h ⊢
  cases hg : gdL F o.g with
  | none => rw [hg] at h; exact h
  | some b =>
   rw [hg] at h
   cases b
   ·exact AOpsL.mono hk os _ _ h
   ·exact AOp.mono h fun x H' hh => AOpsL.mono hk os _ _ hh
theorem AOpsDL.mono {K K' : Fr → ac → Prop} (hk : ∀ F H, K F H → K' F H) : ∀ (l : List LOp) (F : Fr) (H : ac), AOpsDL P q m l F H K → AOpsDL P q m l F H K'
 | [], F, H, h => hk F H h
 | o :: os, F, H, h => by
  unfold AOpsDL at h ⊢
  cases hg : gdL F o.g with
  | none => rw [hg] at h; exact h
  | some b =>
   rw [hg] at h
   cases b
   ·exact AOpsDL.mono hk os _ _ h
   ·exact AOpD.mono h fun x H' hh => AOpsDL.mono hk os _ _ hh
theorem AWr.mono : ∀ (c : Code) {Q Q' : Exit → Fr → ac → Prop} {F : Fr} {H : ac}, (∀ e F H, Q e F H → Q' e F H) → AWr P N n q c Q F H → AWr P N n q c Q' F H
 | .skip, _, _, _, _, hq, h => hq _ _ _ h
 | .label _, _, _, _, _, hq, h => hq _ _ _ h
 | .seq a b, _, _, _, _, hq, h => AWr.mono a (fun e F H hh => by cases e <;> first | exact AWr.mono b hq hh | exact hq _ _ _ hh) h
 | .cond c a b, _, _, _, _, hq, h => by
  obtain ⟨t, h1, h2, h3⟩ := h
  exact ⟨t, h1, fun e => AWr.mono a hq (h2 e), fun e => AWr.mono b hq (h3 e)⟩
 | .block id c, _, _, _, _, hq, h => AWr.mono c (fun e F H hh => by
   cases e with
   | exit id' =>
    simp only [d8] at hh ⊢
    split
    ·rename_i e; rw [if_pos e] at hh; exact hq _ _ _ hh
    ·rename_i e; rw [if_neg e] at hh; exact hq _ _ _ hh
   | _ => exact hq _ _ _ hh) h
 | .exit _, _, _, _, _, hq, h => hq _ _ _ h
 | .ret, _, _, _, _, hq, h => hq _ _ _ h
 | .region id ops draw, _, _, _, _, hq, h => by
  cases draw
  ·exact AOpsL.mono (fun F H => hq _ F H) _ _ _ h
  ·exact AOpsDL.mono (fun F H => hq _ F H) _ _ _ h
 | .loop c, _, _, _, _, hq, h => AW.mono h hq
 | .rangeFunc .., _, _, _, _, _, h => h.elim
 | .scope _, _, _, _, _, _, h => h.elim
 | .goto _, _, _, _, _, _, h => h.elim
 | .refuse _, _, _, _, _, _, h => h.elim
def cZ (N : Nat) (q : Bool) : Code → Bool
 | .seq a b => cZ N q a && cZ N q b
 | .cond _ a b => cZ N q a && cZ N q b
 | .block _ c => cZ N q c
 | .loop c => cZ N q c
 | .scope c => cZ N q c
 | .region _ ops draw => bif draw then eT q N ops else iG N ops
 | _ => true
theorem fz (hm : P.follows .mixedOrders = true) : ∀ (c : Code), cZ N q c = true → ∀ (Q : Exit → Fr → ac → Prop) (F : Fr) (H : ac), AWr P N n q c Q F H → AW P N n c Q F H
 | .skip, _, _, _, _, h => AW_skip h
 | .label _, _, _, _, _, h => pX h
 | .seq a b, hc, Q, F, H, h => by
  simp only [cZ, Bool.and_eq_true] at hc
  refine fC (AW.mono (fz hm a hc.1 _ F H h) fun e F H hq => ?_)
  cases e with
  | normal => exact fz hm b hc.2 _ F H hq
  | _ => exact hq
 | .cond c a b, hc, Q, F, H, h => by
  simp only [cZ, Bool.and_eq_true] at hc
  obtain ⟨t, h1, h2, h3⟩ := h
  exact ga t h1 (fun e => fz hm a hc.1 _ F H (h2 e)) (fun e => fz hm b hc.2 _ F H (h3 e))
 | .block id c, hc, Q, F, H, h => jX (fz hm c hc _ F H h)
 | .exit _, _, _, _, _, h => AW_exit h
 | .ret, _, _, _, _, h => AW_ret h
 | .region id ops draw, hc, Q, F, H, h => by
  cases draw
  ·exact me hc (jf _ _ _ h)
  ·exact AW_draw q hm hc (fc _ _ _ h)
 | .loop c, _, _, _, _, h => h
 | .rangeFunc .., _, _, _, _, h => h.elim
 | .scope _, _, _, _, _, h => h.elim
 | .goto _, _, _, _, _, h => h.elim
 | .refuse _, _, _, _, _, h => h.elim
inductive It where
 | code (c : Code)
 | ops (l : List LOp)
 | opsD (m : Nat) (l : List LOp)
 | endB (id : Nat)
 | inv (J : Fr → ac → Prop)
def St (P : Program) (N n : Nat) (q : Bool) (Q : Exit → Fr → ac → Prop) : List It → Exit → Fr → ac → Prop
 | [], e, F, H => Q e F H
 | .code c :: r, e, F, H => (match e with | .normal => AWr P N n q c (St P N n q Q r) F H | e => St P N n q Q r e F H)
 | .ops l :: r, e, F, H => (match e with | .normal => AOpsL P l F H (fun F H => St P N n q Q r .normal F H) | e => St P N n q Q r e F H)
 | .opsD m l :: r, e, F, H => (match e with | .normal => AOpsDL P q m l F H (fun F H => St P N n q Q r .normal F H) | e => St P N n q Q r e F H)
 | .endB id :: r, e, F, H => (match e with | .exit id' => if id' = id then St P N n q Q r .normal F H else St P N n q Q r (.exit id') F H | e => St P N n q Q r e F H)
 | .inv J :: r, e, F, H => (match e with | .normal => J F H | e => St P N n q Q r e F H)
def AGo (P : Program) (N n : Nat) (q : Bool) (Q : Exit → Fr → ac → Prop) (r : List It) (F : Fr) (H : ac) : Prop := St P N n q Q r .normal F H
def gG (P : Program) (N n : Nat) (q : Bool) (Q : Exit → Fr → ac → Prop) (id : Nat) (r : List It) (F : Fr) (H : ac) : Prop := St P N n q Q r (.exit id) F H
def eC (Q : Exit → Fr → ac → Prop) (F : Fr) (H : ac) : Prop := Q .ret F H
def itOf (d : Option Nat) (os : List LOp) : It :=
 match d with
 | some m => .opsD m os
 | none => .ops os
theorem mi {os : List LOp} : itOf none os = .ops os := rfl
theorem mj {m : Nat} {os : List LOp} : itOf (some m) os = .opsD m os := rfl
def AK (P : Program) (N n : Nat) (q : Bool) (Q : Exit → Fr → ac → Prop) (d : Option Nat) (x : Option (AV × ac)) (dst : Option Tmp) (os : List LOp) (r : List It) (F : Fr) : Prop :=
 match x with
 | some p => AGo P N n q Q (itOf d os :: r) (putF dst p.1 F) p.2
 | none => False
def gS (P : Program) (N n : Nat) (q : Bool) (Q : Exit → Fr → ac → Prop) (d : Option Nat) (f : FuncId) (args : List AV) (dst : Option Tmp) (os : List LOp) (r : List It) (F : Fr) (H : ac) : Prop :=
 dn P f = true ∧ match d with
  | some m => ∃ x H', (q = true → H' = H) ∧ (H.length ≤ H'.length ∧ ∀ b, b < m → b < H.length → H'[b]? = H[b]?) ∧ ACalls P f args H (fun y H1 => y = x ∧ H1 = H') ∧ AGo P N n q Q (.opsD m os :: r) (putF dst x F) H'
  | none => ACalls P f args H fun x H' => AGo P N n q Q (.ops os :: r) (putF dst x F) H'
def lateD (d : Option Nat) (o : Op) (F : Fr) : Prop :=
 match d with
 | some m => am m o F
 | none => True
theorem ml {o : Op} {F : Fr} : lateD none o F = True := rfl
theorem mm {m : Nat} {o : Op} {F : Fr} : lateD (some m) o F = am m o F := rfl
theorem p7 {b m : Nat} {p : Prop} (h : b < m) : (b < m ∧ p) = p := by simp [h]
def ADo (P : Program) (N n : Nat) (q : Bool) (Q : Exit → Fr → ac → Prop) (d : Option Nat) (o : Op) (dst : Option Tmp) (os : List LOp) (r : List It) (F : Fr) (H : ac) : Prop :=
 match af o F with
 | some p => gS P N n q Q d p.1 p.2 dst os r F H
 | none => lateD d o F ∧ AK P N n q Q d (aop P o F H) dst os r F
def AGd (P : Program) (N n : Nat) (q : Bool) (Q : Exit → Fr → ac → Prop) (d : Option Nat) (b : Option Bool) (o : Op) (dst : Option Tmp) (os : List LOp) (r : List It) (F : Fr) (H : ac) : Prop :=
 match b with
 | some true => ADo P N n q Q d o dst os r F H
 | some false => AGo P N n q Q (itOf d os :: r) (putF dst (.tup []) F) H
 | none => False
def jg (P : Program) (N n : Nat) (q : Bool) (Q : Exit → Fr → ac → Prop) (x : AV) (a b : Code) (r : List It) (F : Fr) (H : ac) : Prop :=
 ∃ t, x = .bool t ∧ (t = true → AGo P N n q Q (.code a :: r) F H) ∧ (t = false → AGo P N n q Q (.code b :: r) F H)
section
variable {Q : Exit → Fr → ac → Prop} {r : List It} {F : Fr} {H : ac}
theorem go_skip : AGo P N n q Q (.code .skip :: r) F H = AGo P N n q Q r F H := rfl
theorem go_label {l : Nat} : AGo P N n q Q (.code (.label l) :: r) F H = AGo P N n q Q r F H := rfl
theorem st_code (c : Code) : St P N n q Q (.code c :: r) = ej (fun F H => AWr P N n q c (St P N n q Q r) F H) (St P N n q Q r) := by
 funext e F H; cases e <;> rfl
theorem go_seq {a b : Code} : AGo P N n q Q (.code (.seq a b) :: r) F H = AGo P N n q Q (.code a :: .code b :: r) F H := by
 show AWr P N n q a (ej _ _) F H = AWr P N n q a (St P N n q Q (.code b :: r)) F H
 rw [st_code]
theorem go_block {id : Nat} {c : Code} : AGo P N n q Q (.code (.block id c) :: r) F H = AGo P N n q Q (.code c :: .endB id :: r) F H := by
 show AWr P N n q c (d8 id _) F H = AWr P N n q c (St P N n q Q (.endB id :: r)) F H
 congr 1
 funext e F H
 cases e <;> rfl
theorem go_endB {id : Nat} : AGo P N n q Q (.endB id :: r) F H = AGo P N n q Q r F H := rfl
theorem go_exit {id : Nat} : AGo P N n q Q (.code (.exit id) :: r) F H = gG P N n q Q id r F H := rfl
theorem mo {id : Nat} {c : Code} : gG P N n q Q id (.code c :: r) F H = gG P N n q Q id r F H := rfl
theorem mq {id id' : Nat} : gG P N n q Q id (.endB id' :: r) F H = bif id == id' then AGo P N n q Q r F H else gG P N n q Q id r F H := by
 show (if id = id' then _ else _) = _
 by_cases e : id = id'
 ·subst e; simp; rfl
 ·have : (id == id') = false := by simp [e]
  rw [if_neg e, this]; rfl
theorem p8 {id : Nat} {J : Fr → ac → Prop} : gG P N n q Q id (.inv J :: r) F H = gG P N n q Q id r F H := rfl
theorem fe : ∀ r : List It, St P N n q Q r .ret F H = eC Q F H
 | [] => rfl
 | .code _ :: r => fe r
 | .ops _ :: r => fe r
 | .opsD _ _ :: r => fe r
 | .endB _ :: r => fe r
 | .inv _ :: r => fe r
theorem go_ret : AGo P N n q Q (.code .ret :: r) F H = eC Q F H := fe r
theorem go_cond {c : Operand} {a b : Code} : AGo P N n q Q (.code (.cond c a b) :: r) F H = jg P N n q Q (aev F c) a b r F H := rfl
theorem cond_t {a b : Code} : jg P N n q Q (.bool true) a b r F H = AGo P N n q Q (.code a :: r) F H := by simp [jg]
theorem cond_f {a b : Code} : jg P N n q Q (.bool false) a b r F H = AGo P N n q Q (.code b :: r) F H := by simp [jg]
theorem aq {t : Bool} {a b : Code} (h1 : t = true → AGo P N n q Q (.code a :: r) F H) (h2 : t = false → AGo P N n q Q (.code b :: r) F H) : jg P N n q Q (.bool t) a b r F H := ⟨t, rfl, h1, h2⟩
theorem go_region {id : Nat} {ops : Array Oper} : AGo P N n q Q (.code (.region id ops false) :: r) F H = AGo P N n q Q (.ops (ops.toList.map (lightOf (dsts ops))) :: r) F H := rfl
theorem go_regionD {id : Nat} {ops : Array Oper} : AGo P N n q Q (.code (.region id ops true) :: r) F H = AGo P N n q Q (.opsD H.length (ops.toList.map (lightOf (dsts ops))) :: r) F H := rfl
theorem go_ops_nil : AGo P N n q Q (.ops [] :: r) F H = AGo P N n q Q r F H := rfl
theorem go_opsD_nil : AGo P N n q Q (.opsD m [] :: r) F H = AGo P N n q Q r F H := rfl
theorem go_ops {o : LOp} {os : List LOp} : AGo P N n q Q (.ops (o :: os) :: r) F H = AGd P N n q Q none (gdL F o.g) o.op o.dst os r F H := by
 show AOpsL P (o :: os) F H _ = _
 unfold AOpsL AGd
 cases hg : gdL F o.g with
 | none => rfl
 | some b =>
  cases b with
  | false => rfl
  | true =>
   simp only
   unfold AOp ADo
   cases hc : af o.op F with
   | some p => rfl
   | none =>
    simp only
    unfold AK
    cases hx : aop P o.op F H with
    | none => simp
    | some p => simp [lateD]; rfl
theorem go_opsD {o : LOp} {os : List LOp} : AGo P N n q Q (.opsD m (o :: os) :: r) F H = AGd P N n q Q (some m) (gdL F o.g) o.op o.dst os r F H := by
 show AOpsDL P q m (o :: os) F H _ = _
 unfold AOpsDL AGd
 cases hg : gdL F o.g with
 | none => rfl
 | some b =>
  cases b with
  | false => rfl
  | true =>
   simp only
   unfold AOpD ADo
   cases hc : af o.op F with
   | some p => rfl
   | none =>
    simp only
    unfold AK
    cases hx : aop P o.op F H with
    | none => simp
    | some p => simp [lateD]; exact fun _ => Iff.rfl
variable {d : Option Nat} {dst : Option Tmp} {os : List LOp} {o : Op}
theorem az {b : Bool} (h1 : b = true → ADo P N n q Q d o dst os r F H) (h2 : b = false → AGo P N n q Q (itOf d os :: r) (putF dst (.tup []) F) H) : AGd P N n q Q d (some b) o dst os r F H := by
 cases b
 ·exact h2 rfl
 ·exact h1 rfl
theorem k_some {x : AV} {H' : ac} : AK P N n q Q d (some (x, H')) dst os r F = AGo P N n q Q (itOf d os :: r) (putF dst x F) H' := rfl
theorem kI : AK P N n q Q d none dst os r F = False := rfl
theorem kJ {p : Prop} [Decidable p] {f : Unit → AV × ac} : AK P N n q Q d ((bx p).map f) dst os r F = (p ∧ AK P N n q Q d (some (f ())) dst os r F) := by
 unfold bx; by_cases h : p
 ·simp [h]
 ·simp [h, kI]
theorem jK {p : Prop} [Decidable p] {f : Unit → Option (AV × ac)} : AK P N n q Q d ((bx p).bind f) dst os r F = (p ∧ AK P N n q Q d (f ()) dst os r F) := by
 unfold bx; by_cases h : p
 ·simp [h]
 ·simp [h, kI]
theorem k_cond {b : Bool} {x y : Option (AV × ac)} : AK P N n q Q d (bif b then x else y) dst os r F = ((b = true → AK P N n q Q d x dst os r F) ∧ (b = false → AK P N n q Q d y dst os r F)) := by
 cases b <;> simp
theorem p9 {α : Type} {p : Prop} [Decidable p] {x : α} : (if p then some x else none) = (bx p).map fun _ => x := by
 unfold bx; by_cases h : p <;> simp [h]
theorem call_of {f : FuncId} {args : List AV} {R : AV → ac → Prop} (hok : dn P f = true) (h : ACalls P f args H R) (k : ∀ x H', R x H' → AGo P N n q Q (.ops os :: r) (putF dst x F) H') : gS P N n q Q none f args dst os r F H :=
 ⟨hok, h.mono k⟩
theorem go_loop {c : Code} (hm : P.follows .mixedOrders = true) (hc : cZ N q c = true) (I : Nat → Fr → ac → Prop) (k0 : Nat) (h0 : ∃ σ F2 H2, I k0 F2 H2 ∧ Abs n σ F H F2 H2)
  (round : ∀ k F H, I k F H → ∀ J : Fr → ac → Prop, (∀ F' H', (∃ k', k' < k ∧ ∃ σ F2 H2, I k' F2 H2 ∧ Abs n σ F' H' F2 H2) → J F' H') → AGo P N n q Q (.code c :: .inv J :: r) F H) : AGo P N n q Q (.code (.loop c) :: r) F H := by
 refine lL I k0 h0 fun k F H hi => fz hm c hc _ F H ?_
 have := round k F H hi _ (fun _ _ h => h)
 have e : St P N n q Q (.inv (fun F' H' => ∃ k', k' < k ∧ ∃ σ F2 H2, I k' F2 H2 ∧ Abs n σ F' H' F2 H2) :: r) = ej (fun F' H' => ∃ k', k' < k ∧ ∃ σ F2 H2, I k' F2 H2 ∧ Abs n σ F' H' F2 H2) (St P N n q Q r) := by
  funext e F H; cases e <;> rfl
 rw [← e]
 exact this
theorem cl {f : FuncId} {fn : Func} {args : List AV} {R : AV → ac → Prop} (hm : P.follows .mixedOrders = true) (hf : P.funcs[f]? = some fn) (q : Bool) (N : Nat) (hN : fn.ntmps = N) (ha : args.length ≤ N)
  (hc : (fn.body.map (cZ N q)) = some true) (h : HBel H.length H → ∀ Q, (∀ F H', dp P fn H.length R .ret F H' → eC Q F H') → (∀ F H', dp P fn H.length R .normal F H' → Q .normal F H') → ∀ c, fn.body = some c → AGo P N H.length q Q [.code c] (argF 0 args) H) : ACalls P f args H R := by
 cases hb : fn.body with
 | none => rw [hb] at hc; cases hc
 | some c =>
  rw [hb] at hc
  simp at hc
  exact iM hf hb hN ha fun hbel => fz hm c hc _ _ _ (h hbel (dp P fn H.length R) (fun _ _ k => k) (fun _ _ k => k) c hb)
end
end
set_option linter.unusedSimpArgs false
set_option linter.unusedVariables false
open Go.RowKit
section
variable {α : Type} {H l : List α} {x y : α}
theorem ae : (H ++ l)[H.length]? = l[0]? := by rw [List.getElem?_append_right (Nat.le_refl _), Nat.sub_self]
theorem ah {k : Nat} : (H ++ l)[H.length + k]? = l[k]? := by rw [List.getElem?_append_right (by omega)]; congr 1; omega
theorem qa : (H ++ l).set H.length x = H ++ l.set 0 x := by rw [List.set_append_right _ _ (Nat.le_refl _), Nat.sub_self]
theorem ib {k : Nat} : (H ++ l).set (H.length + k) x = H ++ l.set k x := by
 rw [List.set_append_right _ _ (by omega)]; congr 2; omega
theorem get_old {b : Nat} (h : H[b]? = some x) (l : List α) : (H ++ l)[b]? = some x := by rw [List.getElem?_append_left (getElem?_lt h)]; exact h
theorem qb : (H ++ [x]).length = H.length + 1 := by simp
theorem len_lit : (H ++ l).length = H.length + l.length := by simp
end
theorem lO {x : Int} (h1 : -9223372036854775808 ≤ x) (h2 : x ≤ 9223372036854775807) : IntKind.i64.wrap x = x := IntWalk.i64_in _ ⟨h1, h2⟩
theorem gu {n m : Nat} {sel : List Nat} {b : Nat} (h : b < n) : sig n m sel b = b := by simp [sig, h]
theorem ff {n m : Nat} {sel : List Nat} : sig n m sel n = match sel[0]? with | some i => n + i | none => n + (n + m) := by
 unfold sig; rw [if_neg (by omega), Nat.sub_self] <;> rfl
theorem fg {n m k : Nat} {sel : List Nat} : sig n m sel (n + k) = match sel[k]? with | some i => n + i | none => n + k + (n + m) := by
 unfold sig; rw [if_neg (by omega), Nat.add_sub_cancel_left] <;> rfl
theorem end_of {P : Program} {fn : Func} {H l1 l2 : ac} {R : AV → ac → Prop} {F : Fr} {e : Exit} (he : e = .ret ∨ e = .normal) (hbel : HBel H.length H) {x1 x2 : AV} (hx : cN P fn F (H ++ l1) = some x1) (sel : List Nat) (hnd : sel.Nodup) (hR : R x2 (H ++ l2))
  (hv : x1 = x2.mv (sig H.length l1.length sel)) (hl : l2.length = sel.length) (hH : ∀ (i b : Nat) (x : ABlk), sel[i]? = some b → l2[i]? = some x → x = .dead ∨ l1[b]? = some (x.mv (sig H.length l1.length sel))) : dp P fn H.length R e F (H ++ l1) := by
 have h := Abs0.abs <| Abs0.of (n := H.length) (H0 := H) (l1 := l1) (l2 := l2) (F1 := [(0, x1)]) (F2 := [(0, x2)]) rfl hbel sel hnd (fun p hp => by simp at hp; subst hp; simp [look, hv, W.refl]) hl (fun i b x h1 h2 => (hH i b x h1 h2).imp id .inl)
 rcases he with rfl | rfl
 ·exact ⟨x1, hx, _, x2, _, hR, h⟩
 ·exact ⟨x1, hx, _, x2, _, hR, h⟩
theorem ai {P : Program} {fn : Func} {H l1 : ac} {R : AV → ac → Prop} {F : Fr} {e : Exit} (he : e = .ret ∨ e = .normal) (hbel : HBel H.length H) {x : AV} (hx : cN P fn F (H ++ l1) = some x) (hp : x.bel 0 = true) (hR : R x H) : dp P fn H.length R e F (H ++ l1) :=
 end_of (l2 := []) he hbel hx [] (by simp) (by simpa using hR) (mv_id (n := 0) (fun b hb => absurd hb (Nat.not_lt_zero b)) x hp).symm rfl (fun i b x h => by simp at h)
theorem ret_of {P : Program} {fn : Func} {F : Fr} {H : ac} {l : List ResultVar} {x : AV} (h1 : fn.results = l.toArray) (h2 : (aRes P l F H).map one1 = some x) : cN P fn F H = some x := by
 unfold cN; rw [h1]; exact h2
theorem aD {α : Type} {H l : List α} {x : α} {b : Nat} (h : H[b]? = some x) : (H ++ l)[b]? = some x := get_old h l
theorem mr : bx True = some () := rfl
theorem mu {n : Nat} : (n + 1 == 0) = false := rfl
theorem rng0 : List.range 0 = [] := rfl
theorem rng1 : List.range 1 = [0] := rfl
theorem rng2 : List.range 2 = [0, 1] := rfl
theorem rng3 : List.range 3 = [0, 1, 2] := rfl
theorem rng4 : List.range 4 = [0, 1, 2, 3] := rfl
theorem rng5 : List.range 5 = [0, 1, 2, 3, 4] := rfl
theorem rng6 : List.range 6 = [0, 1, 2, 3, 4, 5] := rfl
theorem rng7 : List.range 7 = [0, 1, 2, 3, 4, 5, 6] := rfl
theorem rng8 : List.range 8 = [0, 1, 2, 3, 4, 5, 6, 7] := rfl
theorem rng9 : List.range 9 = [0, 1, 2, 3, 4, 5, 6, 7, 8] := rfl
theorem rng10 : List.range 10 = [0, 1, 2, 3, 4, 5, 6, 7, 8, 9] := rfl
theorem rng11 : List.range 11 = [0, 1, 2, 3, 4, 5, 6, 7, 8, 9, 10] := rfl
theorem rng12 : List.range 12 = [0, 1, 2, 3, 4, 5, 6, 7, 8, 9, 10, 11] := rfl
theorem rng16 : List.range 16 = [0, 1, 2, 3, 4, 5, 6, 7, 8, 9, 10, 11, 12, 13, 14, 15] := rfl
def ints (k : IntKind) (xs : List Int) : List AV := xs.map (AV.int k)
theorem c7 {k : IntKind} {xs : List Int} {j : Nat} (h : j < xs.length) : (ints k xs)[j]? = some (.int k (gi xs j)) := by
 simp [ints, gi, h, List.getD_eq_getElem?_getD]
theorem aK {k : IntKind} {xs : List Int} : (ints k xs).length = xs.length := by simp [ints]
theorem j0 {k : IntKind} {xs : List Int} {j : Nat} {v : Int} : (ints k xs).set j (.int k v) = ints k (xs.set j v) := by simp [ints, List.map_set]
theorem bT {k : IntKind} {n : Nat} {v : Int} : List.replicate n (.int k v) = ints k (List.replicate n v) := by simp [ints]
def dB (xs : List Bool) : List AV := xs.map AV.bool
theorem mw {xs : List Bool} : (dB xs).length = xs.length := by simp [dB]
theorem my {xs : List Bool} {j : Nat} {v : Bool} : (dB xs).set j (.bool v) = dB (xs.set j v) := by simp [dB, List.map_set]
theorem mz {n : Nat} {v : Bool} : List.replicate n (.bool v) = dB (List.replicate n v) := by simp [dB]
theorem d9 {σ : Nat → Nat} {k : IntKind} : ∀ {xs : List Int}, AV.mvs σ (ints k xs) = ints k xs
 | [] => rfl
 | x :: r => by show AV.mv σ (.int k x) :: AV.mvs σ (ints k r) = _; rw [d9 (xs := r)]; rfl
theorem eb {σ : Nat → Nat} : ∀ {xs : List Bool}, AV.mvs σ (dB xs) = dB xs
 | [] => rfl
 | x :: r => by show AV.mv σ (.bool x) :: AV.mvs σ (dB r) = _; rw [eb (xs := r)]; rfl
theorem dQ {σ : Nat → Nat} : ∀ {xs ys : List AV}, AV.mvs σ (xs ++ ys) = AV.mvs σ xs ++ AV.mvs σ ys
 | [], _ => rfl
 | x :: r, ys => by show AV.mv σ x :: AV.mvs σ (r ++ ys) = _; rw [dQ (xs := r)]; rfl
def prs (l : List (Int × Int)) : List AV := l.flatMap fun p => [.int .i64 p.1, .int .i64 p.2]
theorem gT : prs [] = [] := rfl
theorem cz {p : Int × Int} {l : List (Int × Int)} : prs (p :: l) = .int .i64 p.1 :: .int .i64 p.2 :: prs l := rfl
theorem ag {l m : List (Int × Int)} : prs (l ++ m) = prs l ++ prs m := by simp [prs]
theorem bE : ∀ {l : List (Int × Int)}, (prs l).length = l.length * 2
 | [] => rfl
 | p :: l => by rw [cz]; simp only [List.length_cons, bE (l := l)]; omega
theorem fh {σ : Nat → Nat} : ∀ {l : List (Int × Int)}, AV.mvs σ (prs l) = prs l
 | [] => rfl
 | p :: l => by
  rw [cz]
  show AV.mv σ _ :: AV.mv σ _ :: AV.mvs σ (prs l) = _
  rw [fh (l := l)]; rfl
theorem prs_at : ∀ {l : List (Int × Int)} {j : Nat} (_h : j < l.length), (prs l).drop (j * 2) = .int .i64 (g1 l j) :: .int .i64 (g2 l j) :: (prs l).drop ((j + 1) * 2)
 | [], j, h => by simp at h
 | p :: l, 0, _ => by rw [cz]; simp [g1, g2]
 | p :: l, j + 1, h => by
  rw [cz, show (j + 1) * 2 = j * 2 + 1 + 1 by omega, List.drop_succ_cons, List.drop_succ_cons, prs_at (l := l) (by simpa using h), show (j + 1 + 1) * 2 = (j + 1) * 2 + 1 + 1 by omega, List.drop_succ_cons, List.drop_succ_cons]
  rfl
theorem cA {l : List (Int × Int)} {j : Nat} (h : j < l.length) : ((prs l).drop (j * 2)).take 2 = [.int .i64 (g1 l j), .int .i64 (g2 l j)] := by rw [prs_at h]; rfl
theorem qc {l : List (Int × Int)} {j : Nat} : (prs l).take (j * 2) = prs (l.take j) := by
 induction l generalizing j with
 | nil => simp [gT]
 | cons p l ih =>
  cases j with
  | zero => simp [gT]
  | succ j => rw [cz, show (j + 1) * 2 = j * 2 + 1 + 1 by omega, List.take_succ_cons, List.take_succ_cons, ih]; rfl
def er (m : Nat) (σ : Nat → Nat) (F1 : Fr) : Fr → Prop
 | [] => True
 | p :: r => W m (look F1 p.1) (p.2.mv σ) ∧ er m σ F1 r
def eD (m : Nat) (σ : Nat → Nat) (l1 : ac) : List Nat → ac → Prop
 | i :: s, x :: l2 => (x = .dead ∨ l1[i]? = some (x.mv σ) ∨ BW m (l1[i]?) (x.mv σ)) ∧ eD m σ l1 s l2
 | [], [] => True
 | _, _ => False
theorem j6 {m : Nat} {σ : Nat → Nat} {F1 : Fr} : ∀ {F2 : Fr}, er m σ F1 F2 → ∀ p ∈ F2, W m (look F1 p.1) (p.2.mv σ)
 | _ :: _, h, p, hp => by
  rcases List.mem_cons.1 hp with rfl | hp
  ·exact h.1
  ·exact j6 h.2 p hp
theorem eE {m : Nat} {σ : Nat → Nat} {l1 : ac} : ∀ {sel : List Nat} {l2 : ac}, eD m σ l1 sel l2 → l2.length = sel.length ∧ ∀ (i b : Nat) (x : ABlk), sel[i]? = some b → l2[i]? = some x → x = .dead ∨ l1[b]? = some (x.mv σ) ∨ BW m (l1[b]?) (x.mv σ)
 | [], [], _ => ⟨rfl, fun i b x h => by simp at h⟩
 | s :: sel, y :: l2, h => by
  obtain ⟨h1, h2⟩ := eE h.2
  refine ⟨by simp [h1], fun i b x hs hl => ?_⟩
  cases i with
  | zero => simp at hs hl; subst hs hl; exact h.1
  | succ i => exact h2 i b x (by simpa using hs) (by simpa using hl)
 | [], _ :: _, h => h.elim
 | _ :: _, [], h => h.elim
theorem Abs.byG {H0 l1 l2 : ac} {F1 F2 : Fr} (hsc : HBel H0.length H0) (G : ac) (hG : G.all fw = true) (sel : List Nat) (hnd : sel.Nodup) (h : er (H0.length + (l1 ++ G).length) (sig H0.length (l1 ++ G).length sel) F1 F2 ∧ eD (H0.length + (l1 ++ G).length) (sig H0.length (l1 ++ G).length sel) (l1 ++ G) sel l2) : Abs H0.length (sig H0.length (l1 ++ G).length sel) F1 (H0 ++ l1) F2 (H0 ++ l2) :=
 Abs.of G hG rfl hsc sel hnd (j6 h.1) (eE h.2).1 (eE h.2).2
theorem Abs.by {H0 l1 l2 : ac} {F1 F2 : Fr} (hsc : HBel H0.length H0) (sel : List Nat) (hnd : sel.Nodup) (h : er (H0.length + l1.length) (sig H0.length l1.length sel) F1 F2 ∧ eD (H0.length + l1.length) (sig H0.length l1.length sel) l1 sel l2) : Abs H0.length (sig H0.length l1.length sel) F1 (H0 ++ l1) F2 (H0 ++ l2) := by
 have := Abs.byG (l1 := l1) (l2 := l2) (F1 := F1) (F2 := F2) hsc [] rfl sel hnd (by simpa using h)
 simpa using this
theorem br {P : Program} {fn : Func} {H l1 l2 : ac} {R : AV → ac → Prop} {F : Fr} {e : Exit} (he : e = .ret ∨ e = .normal) (hbel : HBel H.length H) {x1 : AV} (x2 : AV) (hx : cN P fn F (H ++ l1) = some x1) (G : ac) (hG : G.all fw = true) (sel : List Nat) (hnd : sel.Nodup) (hR : R x2 (H ++ l2))
  (h : W (H.length + (l1 ++ G).length) x1 (x2.mv (sig H.length (l1 ++ G).length sel)) ∧ eD (H.length + (l1 ++ G).length) (sig H.length (l1 ++ G).length sel) (l1 ++ G) sel l2) : dp P fn H.length R e F (H ++ l1) := by
 have h1 := Abs.of (n := H.length) (H0 := H) (l1 := l1) (l2 := l2) (F1 := [(0, x1)]) (F2 := [(0, x2)]) G hG rfl hbel sel hnd (fun p hp => by simp at hp; subst hp; exact h.1) (eE h.2).1 (eE h.2).2
 rcases he with rfl | rfl
 ·exact ⟨x1, hx, _, x2, _, hR, h1⟩
 ·exact ⟨x1, hx, _, x2, _, hR, h1⟩
theorem end_by {P : Program} {fn : Func} {H l1 l2 : ac} {R : AV → ac → Prop} {F : Fr} {e : Exit} (he : e = .ret ∨ e = .normal) (hbel : HBel H.length H) {x1 : AV} (x2 : AV) (hx : cN P fn F (H ++ l1) = some x1) (sel : List Nat) (hnd : sel.Nodup) (hR : R x2 (H ++ l2))
  (h : x1 = x2.mv (sig H.length l1.length sel) ∧ eD (H.length + l1.length) (sig H.length l1.length sel) l1 sel l2) : dp P fn H.length R e F (H ++ l1) :=
 br he hbel x2 hx [] rfl sel hnd hR ⟨by rw [List.append_nil, h.1]; exact W.refl _, by rw [List.append_nil]; exact h.2⟩
theorem aE {P : Program} {fn : Func} {H : ac} {R : AV → ac → Prop} {F : Fr} {e : Exit} (he : e = .ret ∨ e = .normal) (hbel : HBel H.length H) {x : AV} (hx : cN P fn F H = some x) (hp : x.bel 0 = true) (hR : R x H) : dp P fn H.length R e F H := by
 have h := ai (P := P) (fn := fn) (l1 := []) (F := F) (R := R) he hbel (x := x) (by simpa using hx) hp hR
 simpa using h
theorem Abs.by0 {H0 : ac} {F1 F2 : Fr} (hsc : HBel H0.length H0) (h : er H0.length (sig H0.length 0 []) F1 F2) : Abs H0.length (sig H0.length 0 []) F1 H0 F2 H0 := by
 have := Abs.by (l1 := []) (l2 := []) (F1 := F1) (F2 := F2) hsc [] (by simp) ⟨h, trivial⟩
 simpa using this
theorem aj {P : Program} {N n : Nat} {q : Bool} {Q : Exit → Fr → ac → Prop} {dst : Option Tmp} {os : List LOp} {r : List It} {F : Fr} {H H1 : ac} {f : FuncId} {args : List AV} {x : AV} (hok : dn P f = true) (h : ACalls P f args H fun v H' => v = x ∧ H' = H1) (k : AGo P N n q Q (.ops os :: r) (putF dst x F) H1) : gS P N n q Q none f args dst os r F H :=
 call_of hok h fun v H' ⟨h1, h2⟩ => by subst h1 h2; exact k
theorem aP {P : Program} {N n m : Nat} {q : Bool} {Q : Exit → Fr → ac → Prop} {dst : Option Tmp} {os : List LOp} {r : List It} {F : Fr} {H : ac} {f : FuncId} {args : List AV} {x : AV} (hok : dn P f = true) (h : ACalls P f args H fun y H1 => y = x ∧ H1 = H) (k : AGo P N n q Q (.opsD m os :: r) (putF dst x F) H) : gS P N n q Q (some m) f args dst os r F H :=
 ⟨hok, x, H, fun _ => rfl, ⟨Nat.le_refl _, fun _ _ _ => rfl⟩, h, k⟩
theorem bL {P : Program} {N n m : Nat} {Q : Exit → Fr → ac → Prop} {dst : Option Tmp} {os : List LOp} {r : List It} {F : Fr} {H l : ac} {f : FuncId} {args : List AV} {x : AV} (hok : dn P f = true) (_ : True) (h : ACalls P f args H fun y H1 => y = x ∧ H1 = H ++ l) (k : AGo P N n false Q (.opsD m os :: r) (putF dst x F) (H ++ l)) : gS P N n false Q (some m) f args dst os r F H :=
 ⟨hok, x, H ++ l, (fun h => by cases h), ⟨by simp, fun b _ hb => List.getElem?_append_left hb⟩, h, k⟩
set_option linter.unusedSimpArgs false
set_option linter.unusedVariables false
open Go.RowKit
section
variable {E : Env} {H : ac} {w w' : World}
theorem Emb.ownLt (h : Emb E H w) {b : Nat} {x : ABlk} (hx : H[b]? = some x) (ho : x.owned = true) : (E.loc b).blk < w.heap.size := by
 have hk := h.blk b x hx
 cases x with
 | dead => cases ho
 | cells own e ys => exact (hk.2.1 ho).2.1
 | map es => exact hk.2.1
theorem Emb.up (h : Emb E H w) (hb : Below w.heap.size w w') : Emb E H w' where
 n := h.n
 below := h.below.trans (hb.mono h.base)
 base := Nat.le_trans h.base hb.size
 blk b x hx := (h.blk b x hx).mono (Env.le.refl E) hb.size (fun ho => hb.block _ (h.ownLt hx ho)) (fun hB => hb.block _ (Nat.lt_of_lt_of_le hB h.base))
 inj := h.inj
theorem Emb.row (h : Emb E H w) (hb : Below w.heap.size w w') {base n sz : Nat} {e : TypeId} {v : Value} {vs : List Value} {xs : List AV} (hown : w'.ownsRow base e sz v n vs) (hB : w.heap.size ≤ base) (hn : 0 < n) (hr : RelL E xs vs) (ho : ∀ x ∈ xs, x.one = true) :
  ∃ E', E.le E' ∧ Rel E' (.sl (some (H.length, 0)) n none) v ∧ Emb E' (H ++ [.cells true sz xs]) w' := by
 have hs := Seg.of_own (gn hown (Nat.le_trans h.base hB))
 obtain ⟨g, off, cap, rfl, h1, h2, h3, h4, h5⟩ := fV hr ho hs hn
 have hg : base ≤ g := by
  rcases hown.2 with ⟨hv, -⟩ | ⟨g', cap', cur, hv, hb', -⟩
  ·cases hv
  ·injection hv with hv; injection hv with hv; injection hv with hv; omega
 have hle := E.le_push ⟨g, off, cap * sz, sz⟩
 refine ⟨E.push ⟨g, off, cap * sz, sz⟩, hle, ?_, h.grow (row := none) ⟨hb.os, hb.tape, hb.output, hb.size, fun k hk _ => hb.block k hk⟩ (fun k hk => by cases hk) rfl (fun c x hx => .inr ⟨hx, fun _ => by simp⟩) _ _ (h5 _ hle) (fun c x hx ho => ?_)⟩
 ·have e1 : (E.push ⟨g, off, cap * sz, sz⟩).loc H.length = ⟨g, off, cap * sz, sz⟩ := by rw [← h.n]; exact Env.push_new _ _
  refine .sl _ _ _ _ _ _ (by simp [Env.push, h.n]) h3 h4 (.inl rfl) (.inr (by rw [e1]; rfl)) ?_
  rw [e1]; simp
 ·have := h.ownLt hx ho
  show (E.loc c).blk ≠ g
  omega
theorem lP {k : IntKind} {n : Int} {v : Value} (h : Rel E (.int k n) v) : v = .int k n := by cases h; rfl
theorem iN {x : AV} {xs : List AV} {vs : List Value} (h : RelL E (x :: xs) vs) : ∃ v us, vs = v :: us ∧ Rel E x v ∧ RelL E xs us := by
 cases vs with
 | nil => have := h.1; simp at this
 | cons v us => exact ⟨v, us, rfl, h.uncons⟩
theorem qd {vs : List Value} (h : RelL E [] vs) : vs = [] := by
 have := h.1
 exact List.eq_nil_of_length_eq_zero (by simpa using this.symm)
end
set_option linter.unusedSimpArgs false
set_option linter.unusedVariables false
open Go.RowKit Go.ChangeShapes Go.WideShapes

def bI (P : Program) : Nat → TypeId → Option (List TypeId)
 | 0, _ => none
 | n + 1, t =>
  match P.underlying t with
  | some (.int _) => some [t]
  | some .bool => some [t]
  | some (.slice e) => (bI P n e).bind fun l => if l.length = P.cellsOf e ∧ 0 < l.length then some [t] else none
  | some (.struct fs) => (fs.toList.foldl (fun acc f => acc.bind fun (l : List TypeId) => (bI P n f.type).bind fun m => if f.offset = l.length ∧ m.length = P.cellsOf f.type then some (l ++ m) else none) (some [])).bind fun l => if l.length = P.cellsOf t then some l else none
  | _ => none
def LTy (P : Program) (H : ac) : Nat → TypeId → AV → Prop
 | 0, _, _ => False
 | n + 1, t, x =>
  match P.underlying t with
  | some .bool => ∃ b, x = .bool b
  | some (.int k) => ∃ z, x = .int k z ∧ (Lit.int k z).wf = true
  | some (.slice e) => ∃ (b : Nat) (rows : List (List AV)) (ls : List TypeId), x = .sl (some (b, 0)) rows.length none ∧ bI P n e = some ls ∧ rows.length ≤ maxLen ∧ H[b]? = some (.cells false ls.length rows.flatten) ∧
    ∀ r : List AV, r ∈ rows → r.length = ls.length ∧ ∀ (j : Nat) (l : TypeId) (y : AV), ls[j]? = some l → r[j]? = some y → LTy P H n l y
  | _ => False
theorem LTy.app {P : Program} {H : ac} (l' : ac) : ∀ {n : Nat} {t : TypeId} {x : AV}, LTy P H n t x → LTy P (H ++ l') n t x
 | 0, _, _, h => by simp [LTy] at h
 | n + 1, t, x, h => by
  unfold LTy at h ⊢
  split at h
  ·exact h
  ·exact h
  ·obtain ⟨b, rows, ls, h1, h2, h2', h3, h4⟩ := h
   exact ⟨b, rows, ls, h1, h2, h2', aD h3, fun r hr => ⟨(h4 r hr).1, fun j l y hj hy => ((h4 r hr).2 j l y hj hy).app l'⟩⟩
  ·exact h
def RTy (P : Program) (H : ac) (n : Nat) (ls : List TypeId) (r : List AV) : Prop := r.length = ls.length ∧ ∀ (j : Nat) (l : TypeId) (y : AV), ls[j]? = some l → r[j]? = some y → LTy P H n l y
theorem RTy.app {P : Program} {H : ac} (l' : ac) {n : Nat} {ls : List TypeId} {r : List AV} (h : RTy P H n ls r) : RTy P (H ++ l') n ls r := ⟨h.1, fun j l y a b => (h.2 j l y a b).app l'⟩
def ATy (P : Program) (H : ac) (n : Nat) (t : TypeId) (x : AV) : Prop := ∃ ls xs, bI P n t = some ls ∧ RTy P H n ls xs ∧ ((ba P t = some true ∧ x = .agg xs) ∨ (ba P t = some false ∧ xs = [x]))
theorem ATy.app {P : Program} {H : ac} (l' : ac) {n : Nat} {t : TypeId} {x : AV} (h : ATy P H n t x) : ATy P (H ++ l') n t x := by
 obtain ⟨ls, xs, h1, h2, h3⟩ := h
 exact ⟨ls, xs, h1, h2.app l', h3⟩
section
variable {K : Type} {enc : TypeId × Value → K} {P : Program} {w : World} {base : Nat} {held : Bool}
def Reads (enc : TypeId × Value → K) (P : Program) (w : World) (base : Nat) (held : Bool) (ls : List TypeId) (cs : List Value) : Prop :=
 cs.length = ls.length ∧ ∀ (j : Nat) (l : TypeId) (v : Value), ls[j]? = some l → cs[j]? = some v → ∃ fuel y, DataW.trod enc P w base (fun _ => true) held fuel l [v] = some y
theorem Reads.append {ls ms : List TypeId} {cs ds : List Value} (h : Reads enc P w base held ls cs) (k : Reads enc P w base held ms ds) : Reads enc P w base held (ls ++ ms) (cs ++ ds) := by
 refine ⟨by simp [h.1, k.1], fun j l v hl hv => ?_⟩
 by_cases hj : j < ls.length
 ·rw [List.getElem?_append_left hj] at hl
  rw [List.getElem?_append_left (by rw [h.1]; exact hj)] at hv
  exact h.2 j l v hl hv
 ·rw [List.getElem?_append_right (by omega)] at hl
  rw [List.getElem?_append_right (by rw [h.1]; omega), h.1] at hv
  exact k.2 _ l v hl hv
theorem gM : ∀ (n : Nat) (t : TypeId) (ls : List TypeId), bI P n t = some ls → ∀ (fuel : Nat) (cs : List Value) (y : DataW K × List MemPlace), DataW.trod enc P w base (fun _ => true) held fuel t cs = some y → Reads enc P w base held ls cs
 | 0, _, _, h => by simp [bI] at h
 | n + 1, t, ls, h => by
  intro fuel cs y hy
  unfold bI at h
  split at h
  ·rename_i k ht
   simp at h; subst h
   obtain ⟨z, rfl, -, -⟩ := DataW.trod_int ht hy
   exact ⟨rfl, fun j l v hl hv => by cases j with
    | zero => simp at hl hv; subst hl hv; exact ⟨fuel, y, hy⟩
    | succ j => simp at hl⟩
  ·rename_i ht
   simp at h; subst h
   obtain ⟨z, rfl, -⟩ := DataW.trod_bool ht hy
   exact ⟨rfl, fun j l v hl hv => by cases j with
    | zero => simp at hl hv; subst hl hv; exact ⟨fuel, y, hy⟩
    | succ j => simp at hl⟩
  ·rename_i e ht
   obtain ⟨l, -, h⟩ := aA h
   split at h
   ·simp at h; subst h
    have h1 : ∃ v, cs = [v] := by
     rcases DataW.trod_slice ht hy with ⟨rfl, -⟩ | ⟨a, len, cap, _, _, _, -, rfl, -⟩
     ·exact ⟨_, rfl⟩
     ·exact ⟨_, rfl⟩
    obtain ⟨v, rfl⟩ := h1
    exact ⟨rfl, fun j l v hl hv => by cases j with
     | zero => simp at hl hv; subst hl hv; exact ⟨fuel, y, hy⟩
     | succ j => simp at hl⟩
   ·cases h
  ·rename_i fs ht
   obtain ⟨L, hL, h⟩ := aA h
   split at h
   ·rename_i hlen
    simp at h; subst h
    obtain ⟨xs, m, -, -, hcl, hxl, hf⟩ := DataW.trod_struct ht hy
    have gen : ∀ (l : List Field) (done : List TypeId), (∀ f ∈ l, ∃ i : Nat, fs[i]? = some f) → done.length ≤ cs.length → Reads enc P w base held done (cs.take done.length) →
      l.foldl (fun acc f => acc.bind fun (l : List TypeId) => (bI P n f.type).bind fun m => if f.offset = l.length ∧ m.length = P.cellsOf f.type then some (l ++ m) else none) (some done) = some L → Reads enc P w base held L (cs.take L.length) := by
     intro l
     induction l with
     | nil => intro done _ _ hd h; simp at h; subst h; exact hd
     | cons f l ih =>
      intro done hmem hle hd h
      simp only [List.foldl_cons, Option.bind_some] at h
      cases hm : bI P n f.type with
      | none =>
       rw [hm] at h
       simp only [Option.bind_none] at h
       exfalso
       clear ih hd hmem hL
       induction l with
       | nil => simp at h
       | cons f' l ih => simp only [List.foldl_cons, Option.bind_none] at h; exact ih h
      | some ms =>
       rw [hm] at h
       simp only [Option.bind_some] at h
       by_cases hc : f.offset = done.length ∧ ms.length = P.cellsOf f.type
       ·rw [if_pos hc] at h
        obtain ⟨i, hi⟩ := hmem f (by simp)
        have h1 := hf i f hi
        have hxi : ∃ z, xs[i]? = some z := by
         have : i < xs.length := by
          have a := (Array.getElem?_eq_some_iff.1 hi).1
          have b := hxl
          omega
         exact ⟨_, List.getElem?_eq_getElem this⟩
        obtain ⟨z, hz⟩ := hxi
        rw [hz] at h1
        have hr := gM n f.type ms hm m _ z h1
        have hrl := hr.1
        rw [List.length_take, List.length_drop] at hrl
        have e1 : cs.take (done ++ ms).length = cs.take done.length ++ (cs.drop f.offset).take (P.cellsOf f.type) := by
         rw [List.length_append, hc.1, ← hc.2, List.take_add]
        refine ih (done ++ ms) (fun f' hf' => hmem f' (by simp [hf'])) (by rw [List.length_append]; omega) ?_ h
        rw [e1]
        exact hd.append hr
       ·rw [if_neg hc] at h
        exfalso
        clear ih hd hmem hL
        induction l with
        | nil => simp at h
        | cons f' l ih => simp only [List.foldl_cons, Option.bind_none] at h; exact ih h
    have := gen fs.toList [] (fun f hf => by
     obtain ⟨i, hi⟩ := List.getElem?_of_mem hf
     exact ⟨i, by simpa using hi⟩) (by simp) ⟨by simp, fun j l v hl => by simp at hl⟩ hL
    rwa [List.take_of_length_le (by omega)] at this
   ·cases h
  ·cases h
structure Top (E : Env) (H : ac) (w : World) : Prop where
 emb : Emb E H w
 B : E.B = w.heap.size
 w0 : E.w0 = w
theorem Top.push {E : Env} {H : ac} (h : Top E H w) {a : Addr} {len cap es : Nat} {xs : List AV} (hsp : 0 < cap → a.spot = none) (hes : 0 < es) (hlen : xs.length = len * es) (hlc : len ≤ cap) (hcm : cap ≤ maxLen)
  (hx : ∀ (j : Nat) (x : AV), xs[j]? = some x → x.one = true ∧ ∃ v, w.cell? ⟨a.block, a.off + j, none⟩ = some v ∧ Rel E x v) (hb : 0 < xs.length → a.block < w.heap.size) :
  ∃ E', E.le E' ∧ Top E' (H ++ [.cells false es xs]) w ∧ Rel E' (.sl (some (H.length, 0)) len none) (.slice (some a) len cap) := by
 have hle := E.le_push ⟨a.block, a.off, cap * es, es⟩
 have hn := h.emb.n
 have e1 : (E.push ⟨a.block, a.off, cap * es, es⟩).loc H.length = ⟨a.block, a.off, cap * es, es⟩ := by rw [← hn]; exact Env.push_new _ _
 refine ⟨E.push ⟨a.block, a.off, cap * es, es⟩, hle, ⟨⟨by simp [Env.push, hn], h.emb.below, h.emb.base, fun b x hbx => ?_, fun b c x y hbx hcy ox oy hbc => ?_⟩, h.B, h.w0⟩, ?_⟩
 ·by_cases hbl : b < H.length
  ·rw [List.getElem?_append_left hbl] at hbx
   rw [Env.push_old _ _ (by omega)]
   exact (h.emb.blk b x hbx).mono hle (Nat.le_refl _) (fun _ => rfl) (fun _ => rfl)
  ·have hbe : b = H.length := by have := getElem?_lt hbx; simp at this; omega
   subst hbe
   rw [List.getElem?_append_right (Nat.le_refl _), Nat.sub_self] at hbx
   simp at hbx; subst hbx
   rw [e1]
   refine ⟨fun j x hj => ?_, (fun h => by cases h), fun _ h0 => ?_, rfl⟩
   ·obtain ⟨h1, v, h2, h3⟩ := hx j x hj
    exact ⟨h1, v, h2, h3.mono hle⟩
   ·show a.block < E.B
    rw [h.B]; exact hb h0
 ·by_cases hbl : b < H.length
  ·by_cases hcl : c < H.length
   ·rw [List.getElem?_append_left hbl] at hbx
    rw [List.getElem?_append_left hcl] at hcy
    rw [Env.push_old _ _ (by omega), Env.push_old _ _ (by omega)]
    exact h.emb.inj b c x y hbx hcy ox oy hbc
   ·have hbe : c = H.length := by have := getElem?_lt hcy; simp at this; omega
    subst hbe
    rw [List.getElem?_append_right (Nat.le_refl _), Nat.sub_self] at hcy
    simp at hcy; subst hcy; cases oy
  ·have hbe : b = H.length := by have := getElem?_lt hbx; simp at this; omega
   subst hbe
   rw [List.getElem?_append_right (Nat.le_refl _), Nat.sub_self] at hbx
   simp at hbx; subst hbx; cases ox
 ·refine .sl _ _ _ _ _ _ (by simp [Env.push, hn]) hlc hcm (.inl rfl) ?_ ?_
  ·rcases Nat.eq_zero_or_pos cap with h0 | h0
   ·exact .inl h0
   ·right
    rw [e1]
    obtain ⟨b, o, s⟩ := a
    simp only at hsp
    rw [hsp h0]; rfl
  ·rw [e1]; simp
def el (P : Program) (t : TypeId) : Bool := match P.underlying t with
 | some (.int _) | some .bool | some (.slice _) => true
 | _ => false
theorem eW {α β : Type} (f : Option β → α → Option β) (hf : ∀ a, f none a = none) : ∀ l : List α, l.foldl f none = none
 | [] => rfl
 | a :: l => by rw [List.foldl_cons, hf]; exact eW f hf l
theorem kK {n : Nat} : ∀ (l : List Field) (done L : List TypeId), l.foldl (fun acc f => acc.bind fun (l : List TypeId) => (bI P n f.type).bind fun m => if f.offset = l.length ∧ m.length = P.cellsOf f.type then some (l ++ m) else none) (some done) = some L →
  ∀ x ∈ L, x ∈ done ∨ ∃ f ∈ l, ∃ m, bI P n f.type = some m ∧ x ∈ m
 | [], done, L, h, x, hx => by simp at h; subst h; exact .inl hx
 | f :: l, done, L, h, x, hx => by
  simp only [List.foldl_cons, Option.bind_some] at h
  cases hm : bI P n f.type with
  | none => rw [hm, Option.bind_none, eW _ (fun _ => rfl)] at h; cases h
  | some m =>
   rw [hm, Option.bind_some] at h
   split at h
   ·rcases kK l _ L h x hx with h1 | ⟨f', h1, h2⟩
    ·rcases List.mem_append.1 h1 with h1 | h1
     ·exact .inl h1
     ·exact .inr ⟨f, by simp, m, hm, h1⟩
    ·exact .inr ⟨f', by simp [h1], h2⟩
   ·rw [eW _ (fun _ => rfl)] at h; cases h
theorem ic : ∀ (n : Nat) (t : TypeId) (ls : List TypeId), bI P n t = some ls → bI P (n + 1) t = some ls
 | 0, _, _, h => by simp [bI] at h
 | n + 1, t, ls, h => by
  unfold bI at h ⊢
  split at h
  ·exact h
  ·exact h
  ·obtain ⟨l, h1, h2⟩ := aA h
   rw [ic n _ l h1]
   exact h2
  ·rename_i fs ht
   obtain ⟨L, h1, h2⟩ := aA h
   have gen : ∀ (l : List Field) (done : List TypeId), l.foldl (fun acc f => acc.bind fun (l : List TypeId) => (bI P n f.type).bind fun m => if f.offset = l.length ∧ m.length = P.cellsOf f.type then some (l ++ m) else none) (some done) = some L →
     l.foldl (fun acc f => acc.bind fun (l : List TypeId) => (bI P (n + 1) f.type).bind fun m => if f.offset = l.length ∧ m.length = P.cellsOf f.type then some (l ++ m) else none) (some done) = some L := by
    intro l
    induction l with
    | nil => exact fun _ h => h
    | cons f l ih =>
     intro done h
     simp only [List.foldl_cons, Option.bind_some] at h ⊢
     cases hm : bI P n f.type with
     | none => rw [hm, Option.bind_none, eW _ (fun _ => rfl)] at h; cases h
     | some m =>
      rw [hm, Option.bind_some] at h
      rw [ic n _ m hm, Option.bind_some]
      split at h
      ·rename_i hc; rw [if_pos hc]; exact ih _ h
      ·rw [eW _ (fun _ => rfl)] at h; cases h
   rw [gen _ _ h1]
   exact h2
  ·cases h
theorem ig : ∀ (n : Nat) (t : TypeId) (ls : List TypeId), bI P n t = some ls → ∀ l ∈ ls, el P l = true ∧ bI P n l = some [l]
 | 0, _, _, h => by simp [bI] at h
 | n + 1, t, ls, h => by
  have h0 := h
  unfold bI at h
  split at h
  ·rename_i k ht
   simp at h; subst h
   exact fun l hl => by simp at hl; subst hl; exact ⟨by unfold el; rw [ht], h0⟩
  ·rename_i ht
   simp at h; subst h
   exact fun l hl => by simp at hl; subst hl; exact ⟨by unfold el; rw [ht], h0⟩
  ·rename_i e ht
   obtain ⟨l, h1, h2⟩ := aA h
   split at h2
   ·simp at h2; subst h2
    exact fun l hl => by simp at hl; subst hl; exact ⟨by unfold el; rw [ht], h0⟩
   ·cases h2
  ·rename_i fs ht
   obtain ⟨L, h1, h2⟩ := aA h
   split at h2
   ·simp at h2; subst h2
    intro l hl
    rcases kK _ _ _ h1 l hl with h3 | ⟨f, -, m, h4, h5⟩
    ·simp at h3
    ·obtain ⟨k1, k2⟩ := ig n f.type m h4 l h5
     exact ⟨k1, ic n l _ k2⟩
   ·cases h2
  ·cases h
def OpenAt (K : Type) (enc : TypeId × Value → K) (P : Program) (w : World) (base : Nat) (held : Bool) (n : Nat) : Prop :=
 ∀ (t : TypeId) (v : Value) (fuel : Nat) (y : DataW K × List MemPlace), el P t = true → bI P n t = some [t] → DataW.trod enc P w base (fun _ => true) held fuel t [v] = some y → ∀ (E : Env) (H : ac), Top E H w →
  ∃ (E' : Env) (l : ac) (x : AV), E.le E' ∧ Top E' (H ++ l) w ∧ Rel E' x v ∧ x.one = true ∧ LTy P (H ++ l) n t x
theorem j7 {n : Nat} (IH : OpenAt K enc P w base held n) : ∀ (ls : List TypeId) (cs : List Value), (∀ l ∈ ls, el P l = true ∧ bI P n l = some [l]) → Reads enc P w base held ls cs → ∀ (E : Env) (H : ac), Top E H w →
  ∃ (E' : Env) (l : ac) (xs : List AV), E.le E' ∧ Top E' (H ++ l) w ∧ RelL E' xs cs ∧ (∀ x ∈ xs, x.one = true) ∧ RTy P (H ++ l) n ls xs
 | [], cs, _, hr, E, H, hT => by
  have : cs = [] := List.eq_nil_of_length_eq_zero hr.1
  subst this
  exact ⟨E, [], [], .refl E, by simpa using hT, .nil E, fun x hx => by simp at hx, rfl, fun j l y h => by simp at h⟩
 | t :: ls, cs, hl, hr, E, H, hT => by
  cases cs with
  | nil => have := hr.1; simp at this
  | cons v cs =>
   obtain ⟨fuel, y, hy⟩ := hr.2 0 t v rfl rfl
   obtain ⟨E1, l1, x, e1, t1, r1, o1, y1⟩ := IH t v fuel y (hl t (by simp)).1 (hl t (by simp)).2 hy E H hT
   obtain ⟨E2, l2, xs, e2, t2, r2, o2, y2⟩ := j7 IH ls cs (fun l h => hl l (by simp [h])) ⟨by have := hr.1; simpa using this, fun j l u h1 h2 => hr.2 (j + 1) l u (by simpa using h1) (by simpa using h2)⟩ E1 (H ++ l1) t1
   refine ⟨E2, l1 ++ l2, x :: xs, e1.trans e2, by simpa using t2, .cons (r1.mono e2) r2, fun z hz => ?_, by simp [y2.1], fun j l u h1 h2 => ?_⟩
   ·rcases List.mem_cons.1 hz with rfl | hz
    ·exact o1
    ·exact o2 z hz
   ·cases j with
    | zero =>
     simp at h1 h2; subst h1 h2
     have := y1.app l2
     simpa using this
    | succ j => 
     have := y2.2 j l u (by simpa using h1) (by simpa using h2)
     simpa using this
theorem j8 {es : Nat} : ∀ (rows : List (List AV)), (∀ r : List AV, r ∈ rows → r.length = es) → rows.flatten.length = rows.length * es
 | [], _ => by simp
 | r :: rows, h => by
  have := j8 rows (fun r' h' => h r' (by simp [h']))
  have := h r (by simp)
  simp only [List.flatten_cons, List.length_append, List.length_cons, Nat.add_mul, Nat.one_mul]
  omega
theorem iO : ∀ (n : Nat), OpenAt K enc P w base held n
 | 0 => fun _ _ _ _ _ h => by simp [bI] at h
 | n + 1 => fun t v fuel y hp h hy E H hT => by
  unfold bI at h
  split at h
  ·rename_i k ht
   obtain ⟨z, hz, -, hw⟩ := DataW.trod_int ht hy
   simp at hz; subst hz
   exact ⟨E, [], .int k z, .refl E, by simpa using hT, .int k z, rfl, by unfold LTy; rw [ht]; exact ⟨z, rfl, hw⟩⟩
  ·rename_i ht
   obtain ⟨z, hz, -⟩ := DataW.trod_bool ht hy
   simp at hz; subst hz
   exact ⟨E, [], .bool z, .refl E, by simpa using hT, .bool z, rfl, by unfold LTy; rw [ht]; exact ⟨z, rfl⟩⟩
  ·rename_i e ht
   obtain ⟨ls, hls, h⟩ := aA h
   split at h
   ·rename_i hc
    rcases DataW.trod_slice ht hy with ⟨hv, -⟩ | ⟨a, len, cap, elems, rest, m, -, hv, -, hb, hlc, hcm, hel, hei, hsp, -⟩
    ·simp at hv; subst hv
     refine ⟨E.push ⟨0, 0, 0, ls.length⟩, [.cells false ls.length []], .sl (some (H.length, 0)) 0 none, E.le_push _, ⟨hT.emb.phantom rfl, hT.B, hT.w0⟩, .nils _ _ (by rw [← hT.emb.n]; exact Nat.lt_succ_self _) (.inl rfl), rfl, ?_⟩
     unfold LTy; rw [ht]
     exact ⟨H.length, [], ls, rfl, hls, by simp, by simp, fun r h => by simp at h⟩
    ·simp at hv; subst hv
     obtain ⟨hrl, hri⟩ := hsp rfl
     have hrow : ∀ i, i < len → ∃ cs, w.cells? base (a.add (i * P.cellsOf e)) (P.cellsOf e) = some cs ∧ Reads enc P w base held ls cs := fun i hi => by
      have h1 := hei i hi
      have hi' : i < elems.length := by omega
      rw [List.getElem?_eq_getElem hi'] at h1
      obtain ⟨cs, h2, h3⟩ := Option.bind_eq_some_iff.1 h1
      exact ⟨cs, h2, gM n e ls hls _ _ _ h3⟩
     have hspot : 0 < cap → a.spot = none := fun h0 => by
      have hz : ∃ cs, w.cells? base (a.add (0 * P.cellsOf e)) (P.cellsOf e) = some cs := by
       rcases Nat.eq_zero_or_pos len with hl0 | hl0
       ·have h1 := hri 0 (by omega)
        have hi' : 0 < rest.length := by omega
        rw [List.getElem?_eq_getElem hi', hl0, Nat.zero_add] at h1
        obtain ⟨cs, h2, -⟩ := Option.bind_eq_some_iff.1 h1
        exact ⟨cs, h2⟩
       ·obtain ⟨cs, h2, -⟩ := hrow 0 hl0
        exact ⟨cs, h2⟩
      obtain ⟨cs, hz⟩ := hz
      obtain ⟨-, hcl, hc0⟩ := World.cells?_some hz
      have := hc0 0 (by omega)
      rw [List.getElem?_eq_getElem (by omega)] at this
      have hs := World.cell?_spot this
      simpa [Addr.add] using hs
     have hrowlt : ∀ i, i < len → a.block < w.heap.size := fun i hi => by
      obtain ⟨cs, h2, -⟩ := hrow i hi
      have := World.cells?_block h2 (by omega)
      rwa [block_add] at this
     -- all rows, one behind the other
     have all : ∀ k, k ≤ len → ∃ (E' : Env) (l : ac) (rows : List (List AV)), E.le E' ∧ Top E' (H ++ l) w ∧ rows.length = k ∧ (∀ r : List AV, r ∈ rows → RTy P (H ++ l) n ls r) ∧
       ∀ (j : Nat) (x : AV), rows.flatten[j]? = some x → x.one = true ∧ ∃ v, w.cell? ⟨a.block, a.off + j, none⟩ = some v ∧ Rel E' x v := by
      intro k
      induction k with
      | zero => exact fun _ => ⟨E, [], [], .refl E, by simpa using hT, rfl, fun r hr => by simp at hr, fun j x h => by simp at h⟩
      | succ k ih =>
       intro hk
       obtain ⟨E1, l1, rows, e1, t1, r1, r2, r3⟩ := ih (by omega)
       obtain ⟨cs, c1, c2⟩ := hrow k (by omega)
       obtain ⟨E2, l2, xs, e2, t2, x1, x2, x3⟩ := j7 (iO n) ls cs (fun l hl => ig n e ls hls l hl) c2 E1 (H ++ l1) t1
       obtain ⟨-, hcl, hcc⟩ := World.cells?_some c1
       have hfl : rows.flatten.length = k * ls.length := by rw [j8 rows (fun r hr => (r2 r hr).1), r1]
       refine ⟨E2, l1 ++ l2, rows ++ [xs], e1.trans e2, by simpa using t2, by simp [r1], fun r hr => ?_, fun j x hj => ?_⟩
       ·rcases List.mem_append.1 hr with hr | hr
        ·have := (r2 r hr).app l2
         simpa using this
        ·simp at hr; subst hr
         simpa using x3
       ·rw [List.flatten_append] at hj
        simp only [List.flatten_cons, List.flatten_nil, List.append_nil] at hj
        by_cases hjl : j < rows.flatten.length
        ·rw [List.getElem?_append_left hjl] at hj
         obtain ⟨q1, v, q2, q3⟩ := r3 j x hj
         exact ⟨q1, v, q2, q3.mono e2⟩
        ·rw [List.getElem?_append_right (by omega)] at hj
         have hjx := getElem?_lt hj
         have hxl : xs.length = cs.length := x1.1
         have hcj := hcc (j - rows.flatten.length) (by omega)
         obtain ⟨v, hv, hr⟩ := x1.get hj
         refine ⟨x2 x (List.mem_of_getElem? hj), v, ?_, hr⟩
         rw [hv, hfl] at hcj
         have hs := hspot (by omega)
         obtain ⟨ab, ao, sp⟩ := a
         simp only at hs
         subst hs
         rw [← hc.1] at hcj
         have ea : (({ block := ab, off := ao, spot := none } : Addr).add (k * ls.length)).add (j - k * ls.length) = ⟨ab, ao + j, none⟩ := by
          have : ∀ (m : Nat), ({ block := ab, off := ao, spot := none } : Addr).add m = ⟨ab, ao + m, none⟩ := fun m => dm ab ao m
          rw [this, dm]
          congr 1; omega
         rw [ea] at hcj
         exact hcj
     obtain ⟨E1, l1, rows, e1, t1, r1, r2, r3⟩ := all len (Nat.le_refl _)
     have hfl : rows.flatten.length = len * ls.length := by rw [j8 rows (fun r hr => (r2 r hr).1), r1]
     obtain ⟨E2, e2, t2, hrel⟩ := t1.push (a := a) (len := len) (cap := cap) (es := ls.length) (xs := rows.flatten) hspot hc.2 hfl hlc hcm r3 (fun h0 => hrowlt 0 (by
      rcases Nat.eq_zero_or_pos len with hl0 | hl0
      ·rw [hfl, hl0] at h0; simp at h0
      ·exact hl0))
     refine ⟨E2, l1 ++ [.cells false ls.length rows.flatten], .sl (some ((H ++ l1).length, 0)) len none, e1.trans e2, by simpa using t2, hrel, rfl, ?_⟩
     unfold LTy
     rw [ht]
     refine ⟨(H ++ l1).length, rows, ls, by rw [r1], hls, by omega, ?_, fun r hr => ?_⟩
     ·rw [← List.append_assoc, List.getElem?_append_right (Nat.le_refl _), Nat.sub_self]; rfl
     ·have := (r2 r hr).app [.cells false ls.length rows.flatten]
      rw [List.append_assoc] at this
      exact this
   ·cases h
  ·rename_i fs ht
   unfold el at hp; rw [ht] at hp; cases hp
  ·cases h
theorem tAgg_leaf {t : TypeId} (h : el P t = true) : ba P t = some false := by
 unfold el at h
 unfold ba
 split at h <;> first | (rename_i h1; rw [h1]) | cases h
theorem open_arg {r : Reach} {b0 : Nat} {n : Nat} {t : TypeId} {v : Value} {d : DataW K} {p : List MemPlace} {ls : List TypeId} (hl : bI P n t = some ls) (hok : Value.okWide P w r b0 t v) (h : DataW.Trod enc P w base (fun _ => true) held t v d p) {E : Env} {H : ac} (hT : Top E H w) :
  ∃ (E' : Env) (l : ac) (x : AV), E.le E' ∧ Top E' (H ++ l) w ∧ Rel E' x v ∧ ATy P (H ++ l) n t x := by
 obtain ⟨fuel, hf⟩ := h
 cases n with
 | zero => simp [bI] at hl
 | succ n =>
  have hl0 := hl
  have leaf : ∀ (hp : el P t = true) (hs : bI P (n + 1) t = some [t]) (hv : v.cells.toList = [v]), ∃ (E' : Env) (l : ac) (x : AV), E.le E' ∧ Top E' (H ++ l) w ∧ Rel E' x v ∧ ATy P (H ++ l) (n + 1) t x := fun hp hs hv => by
   rw [hv] at hf
   obtain ⟨E', l, x, e1, t1, r1, o1, y1⟩ := iO (n + 1) t v fuel _ hp hs hf E H hT
   exact ⟨E', l, x, e1, t1, r1, [t], [x], hs, ⟨rfl, fun j l y hj hy => by cases j with
    | zero => simp at hj hy; subst hj hy; exact y1
    | succ j => simp at hj⟩, .inr ⟨tAgg_leaf hp, rfl⟩⟩
  unfold bI at hl
  split at hl
  ·rename_i k ht
   simp at hl; subst hl
   obtain ⟨z, rfl⟩ := okWide_int ht hok
   exact leaf (by unfold el; rw [ht]) hl0 rfl
  ·rename_i ht
   simp at hl; subst hl
   obtain ⟨z, rfl⟩ := okWide_bool ht hok
   exact leaf (by unfold el; rw [ht]) hl0 rfl
  ·rename_i e ht
   obtain ⟨l, h1, h2⟩ := aA hl
   split at h2
   ·simp at h2; subst h2
    obtain ⟨a, b, c, rfl⟩ := okWide_slice ht hok
    exact leaf (by unfold el; rw [ht]) hl0 rfl
   ·cases h2
  ·rename_i fs ht
   obtain ⟨cs, rfl, hsz⟩ := okWide_struct ht hok
   have hr := gM (n + 1) t ls hl0 fuel _ _ hf
   obtain ⟨E', l, xs, e1, t1, r1, o1, y1⟩ := j7 (iO (n + 1)) ls _ (fun l hl => ig _ _ _ hl0 l hl) hr E H hT
   refine ⟨E', l, .agg xs, e1, t1, ?_, ls, xs, hl0, y1, .inl ⟨by unfold ba; rw [ht], rfl⟩⟩
   have := RelL.agg r1
   simpa [Value.cells] using this
  ·cases hl
theorem mA {r : Reach} {b0 n : Nat} : ∀ (ts : List TypeId) (vs : List Value) (ds : List (DataW K)) (p : List MemPlace), DataW.TrodAll enc P w base (fun _ => true) held ts vs ds p →
  (∀ (j : Nat) (t : TypeId) (v : Value), ts[j]? = some t → vs[j]? = some v → Value.okWide P w r b0 t v) → (ts.all fun t => (bI P n t).isSome) = true → ∀ (E : Env) (H : ac), Top E H w →
  ∃ (E' : Env) (l : ac) (xs : List AV), E.le E' ∧ Top E' (H ++ l) w ∧ RelL E' xs vs ∧ xs.length = ts.length ∧ ∀ (j : Nat) (t : TypeId) (x : AV), ts[j]? = some t → xs[j]? = some x → ATy P (H ++ l) n t x
 | [], [], [], _, _, _, _, E, H, hT => ⟨E, [], [], .refl E, by simpa using hT, .nil E, rfl, fun j t x h => by simp at h⟩
 | t :: ts, v :: vs, d :: ds, _, h, hok, hl, E, H, hT => by
  obtain ⟨p, q, h1, h2, -⟩ := h
  simp only [List.all_cons, Bool.and_eq_true] at hl
  obtain ⟨ls, hls⟩ := Option.isSome_iff_exists.1 hl.1
  obtain ⟨E1, l1, x, e1, t1, r1, y1⟩ := open_arg hls (hok 0 t v rfl rfl) h1 hT
  obtain ⟨E2, l2, xs, e2, t2, r2, n2, y2⟩ := mA ts vs ds q h2 (fun j t v a b => hok (j + 1) t v (by simpa using a) (by simpa using b)) hl.2 E1 (H ++ l1) t1
  refine ⟨E2, l1 ++ l2, x :: xs, e1.trans e2, by simpa using t2, .cons (r1.mono e2) r2, by simp [n2], fun j t' x' a b => ?_⟩
  cases j with
  | zero =>
   simp at a b; subst a b
   have := y1.app l2
   simpa using this
  | succ j =>
   have := y2 j t' x' (by simpa using a) (by simpa using b)
   simpa using this
 | [], _ :: _, _, _, h, _, _, _, _, _ => by simp [DataW.TrodAll] at h
 | [], [], _ :: _, _, h, _, _, _, _, _ => by simp [DataW.TrodAll] at h
 | _ :: _, [], _, _, h, _, _, _, _, _ => by simp [DataW.TrodAll] at h
 | _ :: _, _ :: _, [], _, h, _, _, _, _, _ => by simp [DataW.TrodAll] at h
theorem calls_top {r : Reach} {b0 n : Nat} {f : FuncId} {ts : List TypeId} {vs : List Value} {ds : List (DataW K)} {p : List MemPlace} (hA : DataW.TrodAll enc P w base (fun _ => true) held ts vs ds p)
  (hok : ∀ (j : Nat) (t : TypeId) (v : Value), ts[j]? = some t → vs[j]? = some v → Value.okWide P w r b0 t v) (hl : (ts.all fun t => (bI P n t).isSome) = true)
  (hc : ∀ (H : ac) (xs : List AV), xs.length = ts.length → (∀ (j : Nat) (t : TypeId) (x : AV), ts[j]? = some t → xs[j]? = some x → ATy P H n t x) → ACalls P f xs H (fun v H' => v = .bool true ∧ H' = H)) :
  Calls P f vs.toArray w fun e w' => e = .returned (.bool true) ∧ Below w.heap.size w w' := by
 have hT0 : Top ⟨w.heap.size, w, 0, fun _ => ⟨0, 0, 0, 0⟩⟩ [] w := ⟨⟨rfl, .refl _ _, Nat.le_refl _, fun b x h => by simp at h, fun b c x y h => by simp at h⟩, rfl, rfl⟩
 obtain ⟨E, l, xs, -, hT, hr, hn, hy⟩ := mA ts vs ds p hA hok hl _ [] hT0
 refine (hc ([] ++ l) xs hn hy E w vs hT.emb hr).mono fun e w' ⟨E', v, H', x, he, ⟨hx, _⟩, hle, hrel, hemb⟩ => ⟨?_, ?_⟩
 ·subst hx; cases hrel; exact he
 ·have := hemb.below
  rw [hle.B, hle.w0, hT.B, hT.w0] at this
  exact this
end
section
variable {P : Program} {H : ac} {n : Nat}
def IsP (H : ac) (s : AV) (l : List (Int × Int)) : Prop := (l = [] ∧ s = .sl none 0 (some 0)) ∨ ∃ b own cap, s = .sl (some (b, 0)) l.length cap ∧ H[b]? = some (.cells own 2 (prs l))
theorem IsP.app {s : AV} {l : List (Int × Int)} (h : IsP H s l) (l' : ac) : IsP (H ++ l') s l := by
 rcases h with h | ⟨b, own, cap, h1, h2⟩
 ·exact .inl h
 ·exact .inr ⟨b, own, cap, h1, aD h2⟩
def IsI (H : ac) (k : IntKind) (s : AV) (l : List Int) : Prop := (l = [] ∧ s = .sl none 0 (some 0)) ∨ ∃ b own cap, s = .sl (some (b, 0)) l.length cap ∧ H[b]? = some (.cells own 1 (ints k l))
theorem IsI.app {k : IntKind} {s : AV} {l : List Int} (h : IsI H k s l) (l' : ac) : IsI (H ++ l') k s l := by
 rcases h with h | ⟨b, own, cap, h1, h2⟩
 ·exact .inl h
 ·exact .inr ⟨b, own, cap, h1, aD h2⟩
theorem wf_u8 {z : Int} (h : (Lit.int .u8 z).wf = true) : 0 ≤ z ∧ z ≤ 255 := by
 simp [Lit.wf, IntKind.min, IntKind.max, IntKind.bits, IntKind.signed] at h
 omega
theorem RTy.cons {t : TypeId} {ls : List TypeId} {r : List AV} (h : RTy P H n (t :: ls) r) : ∃ y r', r = y :: r' ∧ LTy P H n t y ∧ RTy P H n ls r' := by
 cases r with
 | nil => have := h.1; simp at this
 | cons y r => exact ⟨y, r, rfl, h.2 0 t y rfl rfl, by have := h.1; simpa using this, fun j l u a b => h.2 (j + 1) l u (by simpa using a) (by simpa using b)⟩
theorem RTy.nil {r : List AV} (h : RTy P H n [] r) : r = [] := List.eq_nil_of_length_eq_zero h.1
theorem LTy.int {t : TypeId} {k : IntKind} {x : AV} (ht : P.underlying t = some (.int k)) (h : LTy P H (n + 1) t x) : ∃ z, x = .int k z ∧ (Lit.int k z).wf = true := by
 unfold LTy at h; rw [ht] at h; exact h
theorem LTy.bool {t : TypeId} {x : AV} (ht : P.underlying t = some .bool) (h : LTy P H (n + 1) t x) : ∃ b, x = .bool b := by
 unfold LTy at h; rw [ht] at h; exact h
theorem LTy.slice {t e : TypeId} {x : AV} {ls : List TypeId} (ht : P.underlying t = some (.slice e)) (hl : bI P n e = some ls) (h : LTy P H (n + 1) t x) :
  ∃ (b : Nat) (rows : List (List AV)), x = .sl (some (b, 0)) rows.length none ∧ rows.length ≤ maxLen ∧ H[b]? = some (.cells false ls.length rows.flatten) ∧ ∀ r : List AV, r ∈ rows → RTy P H n ls r := by
 unfold LTy at h; rw [ht] at h
 obtain ⟨b, rows, ls', h1, h2, h3, h4, h5⟩ := h
 rw [hl] at h2; simp at h2; subst h2
 exact ⟨b, rows, h1, h3, h4, h5⟩
theorem ATy.agg {t : TypeId} {x : AV} {ls : List TypeId} (hl : bI P n t = some ls) (ha : ba P t = some true) (h : ATy P H n t x) : ∃ xs, x = .agg xs ∧ RTy P H n ls xs := by
 obtain ⟨ls', xs, h1, h2, h3⟩ := h
 rw [hl] at h1; simp at h1; subst h1
 rcases h3 with ⟨-, h3⟩ | ⟨h3, -⟩
 ·exact ⟨xs, h3, h2⟩
 ·rw [ha] at h3; cases h3
theorem ATy.one {t : TypeId} {x : AV} (hl : bI P n t = some [t]) (ha : ba P t = some false) (h : ATy P H n t x) : LTy P H n t x := by
 obtain ⟨ls', xs, h1, h2, h3⟩ := h
 rw [hl] at h1; simp at h1; subst h1
 rcases h3 with ⟨h3, -⟩ | ⟨-, h3⟩
 ·rw [ha] at h3; cases h3
 ·subst h3; exact h2.2 0 t x rfl rfl
theorem iP {k : IntKind} {t : TypeId} (ht : P.underlying t = some (.int k)) : ∀ rows : List (List AV), (∀ r : List AV, r ∈ rows → RTy P H (n + 1) [t] r) → ∃ l : List Int, l.length = rows.length ∧ rows.flatten = ints k l ∧ ∀ z ∈ l, (Lit.int k z).wf = true
 | [], _ => ⟨[], rfl, rfl, fun z h => by simp at h⟩
 | r :: rows, h => by
  obtain ⟨l, h1, h2, h3⟩ := iP ht rows fun r' hr => h r' (by simp [hr])
  obtain ⟨y, r', rfl, hy, hr⟩ := (h r (by simp)).cons
  obtain rfl := hr.nil
  obtain ⟨z, rfl, hz⟩ := hy.int ht
  exact ⟨z :: l, by simp [h1], by simp [h2, ints], fun z' h' => by
   rcases List.mem_cons.1 h' with rfl | h'
   ·exact hz
   ·exact h3 _ h'⟩
theorem qe {t u : TypeId} (ht : P.underlying t = some (.int .i64)) (hu : P.underlying u = some (.int .i64)) : ∀ rows : List (List AV), (∀ r : List AV, r ∈ rows → RTy P H (n + 1) [t, u] r) → ∃ l : List (Int × Int), l.length = rows.length ∧ rows.flatten = prs l ∧ ∀ p ∈ l, (Lit.int .i64 p.1).wf = true ∧ (Lit.int .i64 p.2).wf = true
 | [], _ => ⟨[], rfl, rfl, fun z h => by simp at h⟩
 | r :: rows, h => by
  obtain ⟨l, h1, h2, h3⟩ := qe ht hu rows fun r' hr => h r' (by simp [hr])
  obtain ⟨y, r', rfl, hy, hr⟩ := (h r (by simp)).cons
  obtain ⟨y2, r', rfl, hy2, hr⟩ := hr.cons
  obtain rfl := hr.nil
  obtain ⟨z, rfl, hz⟩ := hy.int ht
  obtain ⟨z2, rfl, hz2⟩ := hy2.int hu
  exact ⟨(z, z2) :: l, by simp [h1], by simp [h2, cz], fun z' h' => by
   rcases List.mem_cons.1 h' with rfl | h'
   ·exact ⟨hz, hz2⟩
   ·exact h3 _ h'⟩
theorem LTy.ints {t e : TypeId} {k : IntKind} {x : AV} (ht : P.underlying t = some (.slice e)) (he : P.underlying e = some (.int k)) (hl : bI P (n + 1) e = some [e]) (h : LTy P H (n + 2) t x) : ∃ l : List Int, IsI H k x l ∧ l.length ≤ maxLen ∧ ∀ z ∈ l, (Lit.int k z).wf = true := by
 obtain ⟨b, rows, rfl, h1, h2, h3⟩ := h.slice ht hl
 obtain ⟨l, k1, k2, k3⟩ := iP he rows h3
 exact ⟨l, .inr ⟨b, false, none, by rw [k1], by rw [← k2]; exact h2⟩, by omega, k3⟩
end
set_option linter.unusedSimpArgs false
set_option linter.unusedVariables false
open Go.RowKit
theorem amset0 : type_of% (aiX @Int.natCast_zero <| And.intro (@gt_iff_lt.{0}) <| And.intro (@ge_iff_le.{0}) <| aiX @go_skip <| aiX @go_label <| aiX @go_seq <| aiX @go_block <| aiX @go_endB <| aiX @go_exit <| aiX @mo <| aiX @mq <| aiX @p8 <| aiX @go_ret <| aiX @go_cond <| aiX @cond_t <| aiX @cond_f <| aiX @go_region <| aiX @go_regionD <| aiX @go_ops_nil <| aiX @go_opsD_nil <| aiX @go_ops <| aiX @go_opsD <| And.intro (@Option.getD_some.{0}) <| (@mi)) :=
 aiX @Int.natCast_zero <| And.intro (@gt_iff_lt.{0}) <| And.intro (@ge_iff_le.{0}) <| aiX @go_skip <| aiX @go_label <| aiX @go_seq <| aiX @go_block <| aiX @go_endB <| aiX @go_exit <| aiX @mo <| aiX @mq <| aiX @p8 <| aiX @go_ret <| aiX @go_cond <| aiX @cond_t <| aiX @cond_f <| aiX @go_region <| aiX @go_regionD <| aiX @go_ops_nil <| aiX @go_opsD_nil <| aiX @go_ops <| aiX @go_opsD <| And.intro (@Option.getD_some.{0}) <| (@mi)
theorem amset1 : type_of% (aiX @mj <| aiX @ml <| aiX @mm <| aiX @p7 <| aiX @k_some <| aiX @kI <| aiX @kJ <| aiX @jK <| aiX @k_cond <| And.intro (@bne_self_eq_false.{0}) <| aiX @Nat.add_sub_cancel <| aiX @mr <| aiX @mu <| And.intro (@if_true.{1}) <| And.intro (@if_false.{1}) <| aiX @p9 <| aiX @Int.toNat_natCast <| aiX @ae <| aiX @ah <| aiX @qa <| aiX @ib <| aiX @len_lit <| aiX @qb <| (@cond_true.{1})) :=
 aiX @mj <| aiX @ml <| aiX @mm <| aiX @p7 <| aiX @k_some <| aiX @kI <| aiX @kJ <| aiX @jK <| aiX @k_cond <| And.intro (@bne_self_eq_false.{0}) <| aiX @Nat.add_sub_cancel <| aiX @mr <| aiX @mu <| And.intro (@if_true.{1}) <| And.intro (@if_false.{1}) <| aiX @p9 <| aiX @Int.toNat_natCast <| aiX @ae <| aiX @ah <| aiX @qa <| aiX @ib <| aiX @len_lit <| aiX @qb <| (@cond_true.{1})
theorem amset2 : type_of% (And.intro (@cond_false.{1}) <| And.intro (@List.map_cons.{0, 0}) <| And.intro (@List.map_nil.{0, 0}) <| And.intro (@Option.map_some.{0, 0}) <| And.intro (@Option.map_none.{0, 0}) <| And.intro (@Option.bind_some.{0, 0}) <| And.intro (@Option.bind_none.{0, 0}) <| And.intro (@Option.map_map.{0, 0, 0}) <| And.intro (@Option.map_bind.{0, 0, 0}) <| And.intro (@Option.bind_map.{0, 0, 0}) <| And.intro (@Function.comp_apply.{1, 1, 1}) <| And.intro (@List.cons_append.{0}) <| And.intro (@List.nil_append.{0}) <| And.intro (@List.append_assoc.{0}) <| And.intro (@List.append_nil.{0}) <| And.intro (@List.length_cons.{0}) <| And.intro (@List.length_nil.{0}) <| aiX @Nat.zero_add <| aiX @Nat.add_zero <| And.intro (@List.getElem?_cons_zero.{0}) <| And.intro (@List.getElem?_cons_succ.{0}) <| And.intro (@List.set_cons_zero.{0}) <| And.intro (@List.set_cons_succ.{0}) <| (@List.all_cons.{0})) :=
 And.intro (@cond_false.{1}) <| And.intro (@List.map_cons.{0, 0}) <| And.intro (@List.map_nil.{0, 0}) <| And.intro (@Option.map_some.{0, 0}) <| And.intro (@Option.map_none.{0, 0}) <| And.intro (@Option.bind_some.{0, 0}) <| And.intro (@Option.bind_none.{0, 0}) <| And.intro (@Option.map_map.{0, 0, 0}) <| And.intro (@Option.map_bind.{0, 0, 0}) <| And.intro (@Option.bind_map.{0, 0, 0}) <| And.intro (@Function.comp_apply.{1, 1, 1}) <| And.intro (@List.cons_append.{0}) <| And.intro (@List.nil_append.{0}) <| And.intro (@List.append_assoc.{0}) <| And.intro (@List.append_nil.{0}) <| And.intro (@List.length_cons.{0}) <| And.intro (@List.length_nil.{0}) <| aiX @Nat.zero_add <| aiX @Nat.add_zero <| And.intro (@List.getElem?_cons_zero.{0}) <| And.intro (@List.getElem?_cons_succ.{0}) <| And.intro (@List.set_cons_zero.{0}) <| And.intro (@List.set_cons_succ.{0}) <| (@List.all_cons.{0})
theorem amset3 : type_of% (And.intro (@List.all_nil.{0}) <| aiX @Bool.and_true <| aiX @Bool.true_and <| aiX @Bool.and_self <| And.intro (@List.drop_zero.{0}) <| And.intro (@List.drop_succ_cons.{0}) <| And.intro (@List.take_succ_cons.{0}) <| And.intro (@List.take_zero.{0}) <| And.intro (@List.drop_nil.{0}) <| And.intro (@List.take_nil.{0}) <| And.intro (@beq_self_eq_true.{0}) <| aiX @true_and <| aiX @and_true <| aiX @Nat.lt_add_one <| aiX @decide_true <| aiX @decide_false <| aiX @Bool.not_true <| aiX @Bool.not_false <| aiX @Bool.or_true <| aiX @Bool.or_false <| aiX @Bool.false_or <| aiX @Bool.true_or <| aiX @beq_true <| (@beq_false)) :=
 And.intro (@List.all_nil.{0}) <| aiX @Bool.and_true <| aiX @Bool.true_and <| aiX @Bool.and_self <| And.intro (@List.drop_zero.{0}) <| And.intro (@List.drop_succ_cons.{0}) <| And.intro (@List.take_succ_cons.{0}) <| And.intro (@List.take_zero.{0}) <| And.intro (@List.drop_nil.{0}) <| And.intro (@List.take_nil.{0}) <| And.intro (@beq_self_eq_true.{0}) <| aiX @true_and <| aiX @and_true <| aiX @Nat.lt_add_one <| aiX @decide_true <| aiX @decide_false <| aiX @Bool.not_true <| aiX @Bool.not_false <| aiX @Bool.or_true <| aiX @Bool.or_false <| aiX @Bool.false_or <| aiX @Bool.true_or <| aiX @beq_true <| (@beq_false)
theorem amset4 : type_of% (aiX @lO <| aiX @rng0 <| aiX @rng1 <| aiX @rng2 <| aiX @rng3 <| aiX @rng4 <| aiX @rng5 <| aiX @rng6 <| aiX @rng7 <| aiX @rng8 <| aiX @rng9 <| aiX @rng10 <| aiX @rng11 <| aiX @rng12 <| aiX @rng16 <| aiX @aK <| aiX @j0 <| aiX @bT <| aiX @mw <| aiX @my <| aiX @mz <| aiX @bE <| And.intro (@List.length_append.{0}) <| (@Option.getD_none.{0})) :=
 aiX @lO <| aiX @rng0 <| aiX @rng1 <| aiX @rng2 <| aiX @rng3 <| aiX @rng4 <| aiX @rng5 <| aiX @rng6 <| aiX @rng7 <| aiX @rng8 <| aiX @rng9 <| aiX @rng10 <| aiX @rng11 <| aiX @rng12 <| aiX @rng16 <| aiX @aK <| aiX @j0 <| aiX @bT <| aiX @mw <| aiX @my <| aiX @mz <| aiX @bE <| And.intro (@List.length_append.{0}) <| (@Option.getD_none.{0})
theorem amset5 : type_of% (And.intro (@List.length_set.{0}) <| And.intro (@List.length_replicate.{0}) <| And.intro (@List.getD_cons_zero.{0}) <| And.intro (@List.getD_cons_succ.{0}) <| aiX @Nat.mul_one <| aiX @Nat.one_mul <| aiX @Nat.zero_mul <| (@Nat.mul_zero)) :=
 And.intro (@List.length_set.{0}) <| And.intro (@List.length_replicate.{0}) <| And.intro (@List.getD_cons_zero.{0}) <| And.intro (@List.getD_cons_succ.{0}) <| aiX @Nat.mul_one <| aiX @Nat.one_mul <| aiX @Nat.zero_mul <| (@Nat.mul_zero)
theorem amdef0 : type_of% (aiX @AGd.eq_1 <| aiX @AGd.eq_2 <| aiX @gdL.eq_1 <| aiX @gdL.eq_2 <| aiX @gdL.eq_3 <| aiX @lightOf.eq_1 <| aiX @dsts.eq_1 <| aiX @ADo.eq_1 <| aiX @lenV.eq_1 <| aiX @lenV.eq_2 <| aiX @aev.eq_1 <| aiX @aev.eq_2 <| aiX @aev.eq_3 <| aiX @aev.eq_4 <| aiX @look.eq_1 <| aiX @look.eq_2 <| aiX @putF.eq_1 <| aiX @putF.eq_2 <| aiX @AV.cells.eq_1 <| aiX @AV.cells.eq_2 <| aiX @AV.flat.eq_1 <| aiX @AV.flat.eq_2 <| aiX @AV.flat.eq_3 <| (@AV.flat.eq_4)) :=
 aiX @AGd.eq_1 <| aiX @AGd.eq_2 <| aiX @gdL.eq_1 <| aiX @gdL.eq_2 <| aiX @gdL.eq_3 <| aiX @lightOf.eq_1 <| aiX @dsts.eq_1 <| aiX @ADo.eq_1 <| aiX @lenV.eq_1 <| aiX @lenV.eq_2 <| aiX @aev.eq_1 <| aiX @aev.eq_2 <| aiX @aev.eq_3 <| aiX @aev.eq_4 <| aiX @look.eq_1 <| aiX @look.eq_2 <| aiX @putF.eq_1 <| aiX @putF.eq_2 <| aiX @AV.cells.eq_1 <| aiX @AV.cells.eq_2 <| aiX @AV.flat.eq_1 <| aiX @AV.flat.eq_2 <| aiX @AV.flat.eq_3 <| (@AV.flat.eq_4)
theorem amdef1 : type_of% (aiX @aAlloc.eq_1 <| aiX @aNew.eq_1 <| aiX @aBox.eq_1 <| aiX @aBuild.eq_1 <| aiX @afill.eq_1 <| aiX @afill.eq_2 <| aiX @splice.eq_1 <| aiX @splice.eq_2 <| aiX @aBuildSlice.eq_1 <| aiX @arep.eq_1 <| aiX @arep.eq_2 <| aiX @aLoad.eq_1 <| aiX @aLoad.eq_2 <| aiX @ard.eq_1 <| aiX @ards.eq_1 <| aiX @aStore.eq_1 <| aiX @aStore.eq_2 <| aiX @awrite.eq_1 <| aiX @aFieldAddr.eq_1 <| aiX @aFieldAddr.eq_2 <| aiX @aField.eq_1 <| aiX @aField.eq_2 <| aiX @aIndexAddr.eq_1 <| (@aIndexAddr.eq_2)) :=
 aiX @aAlloc.eq_1 <| aiX @aNew.eq_1 <| aiX @aBox.eq_1 <| aiX @aBuild.eq_1 <| aiX @afill.eq_1 <| aiX @afill.eq_2 <| aiX @splice.eq_1 <| aiX @splice.eq_2 <| aiX @aBuildSlice.eq_1 <| aiX @arep.eq_1 <| aiX @arep.eq_2 <| aiX @aLoad.eq_1 <| aiX @aLoad.eq_2 <| aiX @ard.eq_1 <| aiX @ards.eq_1 <| aiX @aStore.eq_1 <| aiX @aStore.eq_2 <| aiX @awrite.eq_1 <| aiX @aFieldAddr.eq_1 <| aiX @aFieldAddr.eq_2 <| aiX @aField.eq_1 <| aiX @aField.eq_2 <| aiX @aIndexAddr.eq_1 <| (@aIndexAddr.eq_2)
theorem amdef2 : type_of% (aiX @aIndexAddr.eq_3 <| aiX @aIndex.eq_1 <| aiX @aIndex.eq_2 <| aiX @aExtract.eq_1 <| aiX @aExtract.eq_2 <| aiX @aBound.eq_1 <| aiX @aBound.eq_2 <| aiX @aBound.eq_3 <| aiX @aSlice.eq_1 <| aiX @aSlice.eq_2 <| aiX @aSlice.eq_3 <| aiX @aInt.eq_1 <| aiX @aInt.eq_2 <| aiX @aInt.eq_3 <| aiX @aInt.eq_4 <| aiX @aInt.eq_5 <| aiX @aInt.eq_6 <| aiX @aInt.eq_7 <| aiX @aInt.eq_8 <| aiX @aInt.eq_9 <| aiX @aInt.eq_10 <| aiX @aInt.eq_11 <| aiX @aInt.eq_12 <| (@aInt.eq_13)) :=
 aiX @aIndexAddr.eq_3 <| aiX @aIndex.eq_1 <| aiX @aIndex.eq_2 <| aiX @aExtract.eq_1 <| aiX @aExtract.eq_2 <| aiX @aBound.eq_1 <| aiX @aBound.eq_2 <| aiX @aBound.eq_3 <| aiX @aSlice.eq_1 <| aiX @aSlice.eq_2 <| aiX @aSlice.eq_3 <| aiX @aInt.eq_1 <| aiX @aInt.eq_2 <| aiX @aInt.eq_3 <| aiX @aInt.eq_4 <| aiX @aInt.eq_5 <| aiX @aInt.eq_6 <| aiX @aInt.eq_7 <| aiX @aInt.eq_8 <| aiX @aInt.eq_9 <| aiX @aInt.eq_10 <| aiX @aInt.eq_11 <| aiX @aInt.eq_12 <| (@aInt.eq_13)
theorem amdef3 : type_of% (aiX @aInt.eq_14 <| aiX @aInt.eq_15 <| aiX @aInt.eq_16 <| aiX @aInt.eq_17 <| aiX @aUn.eq_1 <| aiX @aUn.eq_2 <| aiX @aUn.eq_3 <| aiX @aLen.eq_1 <| aiX @aLen.eq_2 <| aiX @aLen.eq_3 <| aiX @aLen.eq_4 <| aiX @aElems.eq_1 <| aiX @aElems.eq_2 <| aiX @aElems.eq_3 <| aiX @aCopy.eq_1 <| aiX @aMin2.eq_1 <| aiX @aMin2.eq_2 <| aiX @aMax2.eq_1 <| aiX @aMax2.eq_2 <| aiX @aFold.eq_1 <| aiX @aFold.eq_2 <| aiX @aBuiltin.eq_1 <| aiX @aBuiltin.eq_2 <| (@aBuiltin.eq_3)) :=
 aiX @aInt.eq_14 <| aiX @aInt.eq_15 <| aiX @aInt.eq_16 <| aiX @aInt.eq_17 <| aiX @aUn.eq_1 <| aiX @aUn.eq_2 <| aiX @aUn.eq_3 <| aiX @aLen.eq_1 <| aiX @aLen.eq_2 <| aiX @aLen.eq_3 <| aiX @aLen.eq_4 <| aiX @aElems.eq_1 <| aiX @aElems.eq_2 <| aiX @aElems.eq_3 <| aiX @aCopy.eq_1 <| aiX @aMin2.eq_1 <| aiX @aMin2.eq_2 <| aiX @aMax2.eq_1 <| aiX @aMax2.eq_2 <| aiX @aFold.eq_1 <| aiX @aFold.eq_2 <| aiX @aBuiltin.eq_1 <| aiX @aBuiltin.eq_2 <| (@aBuiltin.eq_3)
theorem amdef4 : type_of% (aiX @aBuiltin.eq_4 <| aiX @aBuiltin.eq_5 <| aiX @aBuiltin.eq_6 <| aiX @aBuiltin.eq_7 <| aiX @aBuiltin.eq_8 <| aiX @aClear.eq_1 <| aiX @aMakeSlice.eq_1 <| aiX @aMakeSlice.eq_2 <| aiX @aMapUpdate.eq_1 <| aiX @aMapUpdate.eq_2 <| aiX @aDelete.eq_1 <| aiX @aDelete.eq_2 <| aiX @aLookup.eq_1 <| aiX @argF.eq_1 <| aiX @argF.eq_2 <| aiX @isSh.eq_1 <| aiX @isSh.eq_2 <| aiX @isSh.eq_3 <| aiX @aRes.eq_1 <| aiX @aRes.eq_2 <| aiX @aRes.eq_3 <| aiX @one1.eq_1 <| aiX @one1.eq_2 <| (@or_false)) :=
 aiX @aBuiltin.eq_4 <| aiX @aBuiltin.eq_5 <| aiX @aBuiltin.eq_6 <| aiX @aBuiltin.eq_7 <| aiX @aBuiltin.eq_8 <| aiX @aClear.eq_1 <| aiX @aMakeSlice.eq_1 <| aiX @aMakeSlice.eq_2 <| aiX @aMapUpdate.eq_1 <| aiX @aMapUpdate.eq_2 <| aiX @aDelete.eq_1 <| aiX @aDelete.eq_2 <| aiX @aLookup.eq_1 <| aiX @argF.eq_1 <| aiX @argF.eq_2 <| aiX @isSh.eq_1 <| aiX @isSh.eq_2 <| aiX @isSh.eq_3 <| aiX @aRes.eq_1 <| aiX @aRes.eq_2 <| aiX @aRes.eq_3 <| aiX @one1.eq_1 <| aiX @one1.eq_2 <| (@or_false)
theorem amdef5 : type_of% (aiX @or_true <| (@true_or)) :=
 aiX @or_true <| (@true_or)
theorem amdef : type_of% (aiX @amdef0 <| aiX @amdef1 <| aiX @amdef2 <| aiX @amdef3 <| aiX @amdef4 <| (@amdef5)) :=
 aiX @amdef0 <| aiX @amdef1 <| aiX @amdef2 <| aiX @amdef3 <| aiX @amdef4 <| (@amdef5)
theorem qf : type_of% (aiX @Bool.not_eq_true' <| aiX @Bool.not_eq_false' <| aiX @decide_eq_true_eq <| aiX @decide_eq_false_iff_not <| And.intro (@beq_iff_eq Int _ _) <| And.intro (@bne_iff_ne Int _ _) <| aiX @Bool.not_eq_true <| aiX @Bool.not_eq_false <| And.intro (@beq_eq_false_iff_ne Int _ _) <| And.intro (@bne_eq_false_iff_eq Int _ _) <| aiX @Classical.not_not <| aiX @Bool.and_eq_true <| (@Bool.and_eq_false_imp)) :=
 aiX @Bool.not_eq_true' <| aiX @Bool.not_eq_false' <| aiX @decide_eq_true_eq <| aiX @decide_eq_false_iff_not <| And.intro (@beq_iff_eq Int _ _) <| And.intro (@bne_iff_ne Int _ _) <| aiX @Bool.not_eq_true <| aiX @Bool.not_eq_false <| And.intro (@beq_eq_false_iff_ne Int _ _) <| And.intro (@bne_eq_false_iff_eq Int _ _) <| aiX @Classical.not_not <| aiX @Bool.and_eq_true <| (@Bool.and_eq_false_imp)
theorem boolset : type_of% ((@qf)) :=
 (@qf)
theorem ax : type_of% (aiX @amset0 <| aiX @amset1 <| aiX @amset2 <| aiX @amset3 <| aiX @amset4 <| aiX @amset5 <| (@amdef)) :=
 aiX @amset0 <| aiX @amset1 <| aiX @amset2 <| aiX @amset3 <| aiX @amset4 <| aiX @amset5 <| (@amdef)
theorem jn {a b : Prop} (x : a) (y : b) : a ∧ b := ⟨x, y⟩
theorem av {P : Program} {fn : Func} {F : Fr} {H : ac} {l : List ResultVar} {x : AV} (h1 : fn.results = l.toArray) (h2 : (aRes P l F H).map one1 = some x := by simp -implicitDefEqProofs (disch := omega) only [simprocAttr, ax, ay, Function.comp_apply, one1, lenV, af, am, ap, aop, AV.ofValue, AV.ofCell, AV.cells, AV.flat, AV.one, arep, aB, aH, aw]) : cN P fn F H = some x := ret_of h1 h2
theorem resTf {r : Prop} (f : r) {P : Program} {fn : Func} {F : Fr} {H : ac} {l : List ResultVar} {x : AV} (h1 : fn.results = l.toArray) (h2 : r → (aRes P l F H).map one1 = some x := by intro hs; simp -implicitDefEqProofs (disch := omega) only [hs, simprocAttr, ax, ay, Function.comp_apply, one1, lenV, af, am, ap, aop, AV.ofValue, AV.ofCell, AV.cells, AV.flat, AV.one, arep, aB, aH, aw]) : cN P fn F H = some x := ret_of h1 (h2 f)
theorem absT {p : Prop} (h : p := by
 simp -implicitDefEqProofs (disch := omega) only [er, eD, gf, gR, jd, je, ge, e8, e9, fa, gg, look, List.cons_append, List.nil_append, List.append_nil, List.length_cons, List.length_nil, Nat.zero_add, Nat.reduceAdd, AV.mv, AV.mvs, ABlk.mv, ff, fg, gu, List.getElem?_cons_zero, List.getElem?_cons_succ, d9, eb, fh, dQ, cond_true, cond_false, beq_self_eq_true, Nat.reduceBEq, true_and, and_true, or_true, true_or, and_self, decide_true, Nat.add_zero, reduceCtorEq, false_or, or_false]
 repeat' (first | exact True.intro | exact Nat.add_lt_add_left (by decide) _ | exact Nat.lt_add_of_pos_right (by decide) | refine dA ?_ (Or.inr rfl) | refine dA ?_ (Or.inl rfl) | refine dd ?_ (Or.inr rfl) | refine dd ?_ (Or.inl rfl) | exact ia | rfl | refine And.intro ?_ ?_ | exact Or.inl rfl | exact Or.inr rfl | exact Or.inr (Or.inl rfl) | exact Or.inr (Or.inr BW.emp) | exact Or.inr BW.emp | exact BW.emp | exact Or.inr (Or.inr BW.pre) | exact Or.inr BW.pre | exact BW.pre | refine Or.inr (BW.cells ?_) | refine BW.cells ?_ | refine Or.inr (Or.inr (BW.cells ?_)) | exact gt)) : p := h
theorem absTf {p r : Prop} (f : r) (h : r → p := by
 intro hs
 simp -implicitDefEqProofs (disch := omega) only [hs, er, eD, gf, gR, jd, je, ge, e8, e9, fa, gg, look, List.cons_append, List.nil_append, List.append_nil, List.length_cons, List.length_nil, Nat.zero_add, Nat.reduceAdd, AV.mv, AV.mvs, ABlk.mv, ff, fg, gu, List.getElem?_cons_zero, List.getElem?_cons_succ, d9, eb, fh, dQ, cond_true, cond_false, beq_self_eq_true, Nat.reduceBEq, true_and, and_true, or_true, true_or, and_self, decide_true, Nat.add_zero, reduceCtorEq, false_or, or_false]
 repeat' (first | exact True.intro | exact Nat.add_lt_add_left (by decide) _ | exact Nat.lt_add_of_pos_right (by decide) | refine dA ?_ (Or.inr rfl) | refine dA ?_ (Or.inl rfl) | refine dd ?_ (Or.inr rfl) | refine dd ?_ (Or.inl rfl) | exact ia | rfl | refine And.intro ?_ ?_ | exact Or.inl rfl | exact Or.inr rfl | exact Or.inr (Or.inl rfl) | exact Or.inr (Or.inr BW.emp) | exact Or.inr BW.emp | exact BW.emp | exact Or.inr (Or.inr BW.pre) | exact Or.inr BW.pre | exact BW.pre | refine Or.inr (BW.cells ?_) | refine BW.cells ?_ | refine Or.inr (Or.inr (BW.cells ?_)) | exact gt)) : p := h f
theorem bj {p : Prop} (h : p := by
 simp -implicitDefEqProofs (disch := omega) only [ln, lp, lq, jj, jk, jl, er, eD, gf, gR, jd, je, ge, e8, e9, fa, gg, look, List.cons_append, List.nil_append, List.append_nil, List.length_cons, List.length_nil, Nat.zero_add, Nat.reduceAdd, AV.mv, AV.mvs, ABlk.mv, ff, fg, gu, List.getElem?_cons_zero, List.getElem?_cons_succ, d9, eb, fh, dQ, cond_true, cond_false, beq_self_eq_true, Nat.reduceBEq, true_and, and_true, or_true, true_or, and_self, decide_true, Nat.add_zero, reduceCtorEq, false_or, or_false]
 repeat' (first | exact True.intro | exact Nat.add_lt_add_left (by decide) _ | exact Nat.lt_add_of_pos_right (by decide) | refine dA ?_ (Or.inr rfl) | refine dA ?_ (Or.inl rfl) | refine dd ?_ (Or.inr rfl) | refine dd ?_ (Or.inl rfl) | exact ia | rfl | refine And.intro ?_ ?_ | exact Or.inl rfl | exact Or.inr rfl | exact Or.inr (Or.inl rfl) | exact Or.inr (Or.inr BW.emp) | exact Or.inr BW.emp | exact BW.emp | exact Or.inr (Or.inr BW.pre) | exact Or.inr BW.pre | exact BW.pre | refine Or.inr (BW.cells ?_) | refine BW.cells ?_ | refine Or.inr (Or.inr (BW.cells ?_)) | exact gt)) : p := h
theorem bl {p r : Prop} (f : r) (h : r → p := by
 intro hs
 simp -implicitDefEqProofs (disch := omega) only [hs, ln, lp, lq, jj, jk, jl, er, eD, gf, gR, jd, je, ge, e8, e9, fa, gg, look, List.cons_append, List.nil_append, List.append_nil, List.length_cons, List.length_nil, Nat.zero_add, Nat.reduceAdd, AV.mv, AV.mvs, ABlk.mv, ff, fg, gu, List.getElem?_cons_zero, List.getElem?_cons_succ, d9, eb, fh, dQ, cond_true, cond_false, beq_self_eq_true, Nat.reduceBEq, true_and, and_true, or_true, true_or, and_self, decide_true, Nat.add_zero, reduceCtorEq, false_or, or_false]
 repeat' (first | exact True.intro | exact Nat.add_lt_add_left (by decide) _ | exact Nat.lt_add_of_pos_right (by decide) | refine dA ?_ (Or.inr rfl) | refine dA ?_ (Or.inl rfl) | refine dd ?_ (Or.inr rfl) | refine dd ?_ (Or.inl rfl) | exact ia | rfl | refine And.intro ?_ ?_ | exact Or.inl rfl | exact Or.inr rfl | exact Or.inr (Or.inl rfl) | exact Or.inr (Or.inr BW.emp) | exact Or.inr BW.emp | exact BW.emp | exact Or.inr (Or.inr BW.pre) | exact Or.inr BW.pre | exact BW.pre | refine Or.inr (BW.cells ?_) | refine BW.cells ?_ | refine Or.inr (Or.inr (BW.cells ?_)) | exact gt)) : p := h f
theorem eX {p : Prop} (h : p := by
 simp -implicitDefEqProofs (disch := omega) only [List.length_append, List.length_cons, List.length_nil, dI, ownG_s, lk, ll, ag, cz, gT, tp, pm, tq, pn, lm, pq, ln, lp, lq, jj, jk, jl, er, eD, gf, gR, jd, je, ge, e8, e9, fa, gg, look, List.cons_append, List.nil_append, List.append_nil, List.length_cons, List.length_nil, Nat.zero_add, Nat.reduceAdd, AV.mv, AV.mvs, ABlk.mv, ff, fg, gu, List.getElem?_cons_zero, List.getElem?_cons_succ, d9, eb, fh, dQ, cond_true, cond_false, beq_self_eq_true, Nat.reduceBEq, true_and, and_true, or_true, true_or, and_self, decide_true, Nat.add_zero, reduceCtorEq, false_or, or_false]
 repeat' (first | exact True.intro | exact Nat.add_lt_add_left (by decide) _ | exact Nat.lt_add_of_pos_right (by decide) | refine dA ?_ (Or.inr rfl) | refine dA ?_ (Or.inl rfl) | refine dd ?_ (Or.inr rfl) | refine dd ?_ (Or.inl rfl) | exact ia | rfl | refine And.intro ?_ ?_ | exact Or.inl rfl | exact Or.inr rfl | exact Or.inr (Or.inl rfl) | exact Or.inr (Or.inr BW.emp) | exact Or.inr BW.emp | exact BW.emp | exact Or.inr (Or.inr BW.pre) | exact Or.inr BW.pre | exact BW.pre | refine Or.inr (BW.cells ?_) | refine BW.cells ?_ | refine Or.inr (Or.inr (BW.cells ?_)) | exact gt)) : p := h
theorem aN {p r : Prop} (f : r) (h : r → p := by
 intro hs
 simp -implicitDefEqProofs (disch := omega) only [hs, List.length_append, List.length_cons, List.length_nil, dI, ownG_s, lk, ll, ag, cz, gT, tp, pm, tq, pn, lm, pq, ln, lp, lq, jj, jk, jl, er, eD, gf, gR, jd, je, ge, e8, e9, fa, gg, look, List.cons_append, List.nil_append, List.append_nil, List.length_cons, List.length_nil, Nat.zero_add, Nat.reduceAdd, AV.mv, AV.mvs, ABlk.mv, ff, fg, gu, List.getElem?_cons_zero, List.getElem?_cons_succ, d9, eb, fh, dQ, cond_true, cond_false, beq_self_eq_true, Nat.reduceBEq, true_and, and_true, or_true, true_or, and_self, decide_true, Nat.add_zero, reduceCtorEq, false_or, or_false]
 repeat' (first | exact True.intro | exact Nat.add_lt_add_left (by decide) _ | exact Nat.lt_add_of_pos_right (by decide) | refine dA ?_ (Or.inr rfl) | refine dA ?_ (Or.inl rfl) | refine dd ?_ (Or.inr rfl) | refine dd ?_ (Or.inl rfl) | exact ia | rfl | refine And.intro ?_ ?_ | exact Or.inl rfl | exact Or.inr rfl | exact Or.inr (Or.inl rfl) | exact Or.inr (Or.inr BW.emp) | exact Or.inr BW.emp | exact BW.emp | exact Or.inr (Or.inr BW.pre) | exact Or.inr BW.pre | exact BW.pre | refine Or.inr (BW.cells ?_) | refine BW.cells ?_ | refine Or.inr (Or.inr (BW.cells ?_)) | exact gt)) : p := h f
theorem try_mixed : Tryz.prog.follows .mixedOrders = true := by kernel_rfl
theorem tAgg2 : ba Tryz.prog 2 = some false := by kernel_rfl
theorem tSz2 : tSz Tryz.prog 2 = some 1 := by kernel_rfl
theorem tBytes2 : aV Tryz.prog 2 = some 8 := by kernel_rfl
theorem tZero2 : aX Tryz.prog 2 = some [.int .i64 0] := by kernel_rfl
theorem tInt2 : ez Tryz.prog 2 = some .i64 := by kernel_rfl
theorem tUnd2 : Tryz.prog.underlying 2 = some (.int .i64) := by kernel_rfl
theorem tAgg3 : ba Tryz.prog 3 = some false := by kernel_rfl
theorem tSz3 : tSz Tryz.prog 3 = some 1 := by kernel_rfl
theorem tBytes3 : aV Tryz.prog 3 = some 8 := by kernel_rfl
theorem tZero3 : aX Tryz.prog 3 = some [.int .i64 0] := by kernel_rfl
theorem tInt3 : ez Tryz.prog 3 = some .i64 := by kernel_rfl
theorem tUnd3 : Tryz.prog.underlying 3 = some (.int .i64) := by kernel_rfl
theorem tAgg4 : ba Tryz.prog 4 = some false := by kernel_rfl
theorem tSz4 : tSz Tryz.prog 4 = some 1 := by kernel_rfl
theorem tBytes4 : aV Tryz.prog 4 = some 1 := by kernel_rfl
theorem tZero4 : aX Tryz.prog 4 = some [.bool false] := by kernel_rfl
theorem qg : ja Tryz.prog 4 = true := by kernel_rfl
theorem tAgg5 : ba Tryz.prog 5 = some false := by kernel_rfl
theorem tSz5 : tSz Tryz.prog 5 = some 1 := by kernel_rfl
theorem tBytes5 : aV Tryz.prog 5 = some 1 := by kernel_rfl
theorem tZero5 : aX Tryz.prog 5 = some [.int .u8 0] := by kernel_rfl
theorem tInt5 : ez Tryz.prog 5 = some .u8 := by kernel_rfl
theorem tUnd5 : Tryz.prog.underlying 5 = some (.int .u8) := by kernel_rfl
theorem tAgg7 : ba Tryz.prog 7 = some true := by kernel_rfl
theorem tSz7 : tSz Tryz.prog 7 = some 4 := by kernel_rfl
theorem tBytes7 : aV Tryz.prog 7 = some 24 := by kernel_rfl
theorem tZero7 : aX Tryz.prog 7 = some [.int .i64 0, .int .i64 0, .bool false, .int .u8 0] := by kernel_rfl
theorem qh : bp Tryz.prog 7 = some [(0, 1), (1, 1), (2, 1), (3, 1)] := by kernel_rfl
theorem tFld7_0 : aQ Tryz.prog 7 0 = some (0, 2) := by kernel_rfl
theorem tFld7_1 : aQ Tryz.prog 7 1 = some (1, 3) := by kernel_rfl
theorem tFld7_2 : aQ Tryz.prog 7 2 = some (2, 4) := by kernel_rfl
theorem tFld7_3 : aQ Tryz.prog 7 3 = some (3, 6) := by kernel_rfl
theorem tGuard7 : Tryz.prog.eqGuardType Tryz.prog.depth 7 = false := by kernel_rfl
theorem tAgg9 : ba Tryz.prog 9 = some false := by kernel_rfl
theorem tSz9 : tSz Tryz.prog 9 = some 1 := by kernel_rfl
theorem tBytes9 : aV Tryz.prog 9 = some 16 := by kernel_rfl
theorem tZero9 : aX Tryz.prog 9 = some [.str []] := by kernel_rfl
theorem tAgg12 : ba Tryz.prog 12 = some false := by kernel_rfl
theorem tSz12 : tSz Tryz.prog 12 = some 1 := by kernel_rfl
theorem qi : aV Tryz.prog 12 = some 8 := by kernel_rfl
theorem tZero12 : aX Tryz.prog 12 = some [.int .u64 0] := by kernel_rfl
theorem tInt12 : ez Tryz.prog 12 = some .u64 := by kernel_rfl
theorem tUnd12 : Tryz.prog.underlying 12 = some (.int .u64) := by kernel_rfl
theorem tAgg17 : ba Tryz.prog 17 = some false := by kernel_rfl
theorem tSz17 : tSz Tryz.prog 17 = some 1 := by kernel_rfl
theorem qj : aV Tryz.prog 17 = some 8 := by kernel_rfl
theorem tZero17 : aX Tryz.prog 17 = some [.ptr none] := by kernel_rfl
theorem qk : eR Tryz.prog 17 = true := by kernel_rfl
theorem tAgg18 : ba Tryz.prog 18 = some true := by kernel_rfl
theorem tSz18 : tSz Tryz.prog 18 = some 1 := by kernel_rfl
theorem ql : aV Tryz.prog 18 = some 8 := by kernel_rfl
theorem tZero18 : aX Tryz.prog 18 = some [.ptr none] := by kernel_rfl
theorem mB : bp Tryz.prog 18 = some [(0, 1)] := by kernel_rfl
theorem qm : aQ Tryz.prog 18 0 = some (0, 17) := by kernel_rfl
theorem qn : Tryz.prog.eqGuardType Tryz.prog.depth 18 = false := by kernel_rfl
theorem tAgg21 : ba Tryz.prog 21 = some false := by kernel_rfl
theorem tSz21 : tSz Tryz.prog 21 = some 1 := by kernel_rfl
theorem qo : aV Tryz.prog 21 = some 4 := by kernel_rfl
theorem tZero21 : aX Tryz.prog 21 = some [.int .i32 0] := by kernel_rfl
theorem tInt21 : ez Tryz.prog 21 = some .i32 := by kernel_rfl
theorem tUnd21 : Tryz.prog.underlying 21 = some (.int .i32) := by kernel_rfl
theorem tAgg22 : ba Tryz.prog 22 = some false := by kernel_rfl
theorem tSz22 : tSz Tryz.prog 22 = some 1 := by kernel_rfl
theorem qp : aV Tryz.prog 22 = some 24 := by kernel_rfl
theorem tZero22 : aX Tryz.prog 22 = some [.sl none 0 (some 0)] := by kernel_rfl
theorem lQ : ck Tryz.prog 22 = some 5 := by kernel_rfl
theorem kL : c6 Tryz.prog 22 = true := by kernel_rfl
theorem tAgg23 : ba Tryz.prog 23 = some true := by kernel_rfl
theorem tSz23 : tSz Tryz.prog 23 = some 3 := by kernel_rfl
theorem qq : aV Tryz.prog 23 = some 40 := by kernel_rfl
theorem tZero23 : aX Tryz.prog 23 = some [.int .i64 0, .int .i64 0, .sl none 0 (some 0)] := by kernel_rfl
theorem mC : bp Tryz.prog 23 = some [(0, 1), (1, 1), (2, 1)] := by kernel_rfl
theorem qr : aQ Tryz.prog 23 0 = some (0, 3) := by kernel_rfl
theorem qs : aQ Tryz.prog 23 1 = some (1, 3) := by kernel_rfl
theorem qt : aQ Tryz.prog 23 2 = some (2, 22) := by kernel_rfl
theorem qu : Tryz.prog.eqGuardType Tryz.prog.depth 23 = false := by kernel_rfl
theorem tAgg24 : ba Tryz.prog 24 = some true := by kernel_rfl
theorem tSz24 : tSz Tryz.prog 24 = some 3 := by kernel_rfl
theorem qv : aV Tryz.prog 24 = some 40 := by kernel_rfl
theorem tZero24 : aX Tryz.prog 24 = some [.int .i64 0, .int .i64 0, .sl none 0 (some 0)] := by kernel_rfl
theorem mD : bp Tryz.prog 24 = some [(0, 1), (1, 1), (2, 1)] := by kernel_rfl
theorem qw : aQ Tryz.prog 24 0 = some (0, 3) := by kernel_rfl
theorem qx : aQ Tryz.prog 24 1 = some (1, 3) := by kernel_rfl
theorem qy : aQ Tryz.prog 24 2 = some (2, 22) := by kernel_rfl
theorem qz : Tryz.prog.eqGuardType Tryz.prog.depth 24 = false := by kernel_rfl
theorem tAgg25 : ba Tryz.prog 25 = some true := by kernel_rfl
theorem tSz25 : tSz Tryz.prog 25 = some 4 := by kernel_rfl
theorem qA : aV Tryz.prog 25 = some 32 := by kernel_rfl
theorem tZero25 : aX Tryz.prog 25 = some [.int .i64 0, .int .i64 0, .int .i64 0, .int .i64 0] := by kernel_rfl
theorem mE : bp Tryz.prog 25 = some [(0, 1), (1, 1), (2, 1), (3, 1)] := by kernel_rfl
theorem qB : aQ Tryz.prog 25 0 = some (0, 3) := by kernel_rfl
theorem qC : aQ Tryz.prog 25 1 = some (1, 3) := by kernel_rfl
theorem qD : aQ Tryz.prog 25 2 = some (2, 3) := by kernel_rfl
theorem qE : aQ Tryz.prog 25 3 = some (3, 3) := by kernel_rfl
theorem qF : Tryz.prog.eqGuardType Tryz.prog.depth 25 = false := by kernel_rfl
theorem tEq25 (a0 a1 a2 a3 b0 b1 b2 b3 : Int) : aEq Tryz.prog 20 25 [.int .i64 a0, .int .i64 a1, .int .i64 a2, .int .i64 a3] [.int .i64 b0, .int .i64 b1, .int .i64 b2, .int .i64 b3] = some ((a0 == b0) && ((a1 == b1) && ((a2 == b2) && ((a3 == b3) && true)))) := by kernel_rfl
theorem tAgg26 : ba Tryz.prog 26 = some true := by kernel_rfl
theorem tSz26 : tSz Tryz.prog 26 = some 4 := by kernel_rfl
theorem qG : aV Tryz.prog 26 = some 32 := by kernel_rfl
theorem tZero26 : aX Tryz.prog 26 = some [.int .i64 0, .int .i64 0, .int .i64 0, .int .i64 0] := by kernel_rfl
theorem mF : bp Tryz.prog 26 = some [(0, 1), (1, 1), (2, 1), (3, 1)] := by kernel_rfl
theorem qH : aQ Tryz.prog 26 0 = some (0, 3) := by kernel_rfl
theorem qI : aQ Tryz.prog 26 1 = some (1, 3) := by kernel_rfl
theorem qJ : aQ Tryz.prog 26 2 = some (2, 3) := by kernel_rfl
theorem qK : aQ Tryz.prog 26 3 = some (3, 3) := by kernel_rfl
theorem qL : Tryz.prog.eqGuardType Tryz.prog.depth 26 = false := by kernel_rfl
theorem tEq26 (a0 a1 a2 a3 b0 b1 b2 b3 : Int) : aEq Tryz.prog 20 26 [.int .i64 a0, .int .i64 a1, .int .i64 a2, .int .i64 a3] [.int .i64 b0, .int .i64 b1, .int .i64 b2, .int .i64 b3] = some ((a0 == b0) && ((a1 == b1) && ((a2 == b2) && ((a3 == b3) && true)))) := by kernel_rfl
theorem tAgg27 : ba Tryz.prog 27 = some true := by kernel_rfl
theorem tSz27 : tSz Tryz.prog 27 = some 3 := by kernel_rfl
theorem qM : aV Tryz.prog 27 = some 24 := by kernel_rfl
theorem tZero27 : aX Tryz.prog 27 = some [.int .i64 0, .int .i64 0, .int .i64 0] := by kernel_rfl
theorem mG : bp Tryz.prog 27 = some [(0, 1), (1, 1), (2, 1)] := by kernel_rfl
theorem qN : aQ Tryz.prog 27 0 = some (0, 3) := by kernel_rfl
theorem qO : aQ Tryz.prog 27 1 = some (1, 3) := by kernel_rfl
theorem qP : aQ Tryz.prog 27 2 = some (2, 3) := by kernel_rfl
theorem qQ : Tryz.prog.eqGuardType Tryz.prog.depth 27 = false := by kernel_rfl
theorem tEq27 (a0 a1 a2 b0 b1 b2 : Int) : aEq Tryz.prog 20 27 [.int .i64 a0, .int .i64 a1, .int .i64 a2] [.int .i64 b0, .int .i64 b1, .int .i64 b2] = some ((a0 == b0) && ((a1 == b1) && ((a2 == b2) && true))) := by kernel_rfl
theorem tAgg28 : ba Tryz.prog 28 = some true := by kernel_rfl
theorem tSz28 : tSz Tryz.prog 28 = some 3 := by kernel_rfl
theorem qR : aV Tryz.prog 28 = some 24 := by kernel_rfl
theorem tZero28 : aX Tryz.prog 28 = some [.int .i64 0, .int .i64 0, .int .i64 0] := by kernel_rfl
theorem mH : bp Tryz.prog 28 = some [(0, 1), (1, 1), (2, 1)] := by kernel_rfl
theorem qS : aQ Tryz.prog 28 0 = some (0, 3) := by kernel_rfl
theorem qT : aQ Tryz.prog 28 1 = some (1, 3) := by kernel_rfl
theorem qU : aQ Tryz.prog 28 2 = some (2, 3) := by kernel_rfl
theorem qV : Tryz.prog.eqGuardType Tryz.prog.depth 28 = false := by kernel_rfl
theorem tEq28 (a0 a1 a2 b0 b1 b2 : Int) : aEq Tryz.prog 20 28 [.int .i64 a0, .int .i64 a1, .int .i64 a2] [.int .i64 b0, .int .i64 b1, .int .i64 b2] = some ((a0 == b0) && ((a1 == b1) && ((a2 == b2) && true))) := by kernel_rfl
theorem tAgg31 : ba Tryz.prog 31 = some false := by kernel_rfl
theorem tSz31 : tSz Tryz.prog 31 = some 1 := by kernel_rfl
theorem qW : aV Tryz.prog 31 = some 24 := by kernel_rfl
theorem tZero31 : aX Tryz.prog 31 = some [.sl none 0 (some 0)] := by kernel_rfl
theorem tElem31 : ck Tryz.prog 31 = some 73 := by kernel_rfl
theorem kM : c6 Tryz.prog 31 = true := by kernel_rfl
theorem tAgg32 : ba Tryz.prog 32 = some true := by kernel_rfl
theorem tSz32 : tSz Tryz.prog 32 = some 2 := by kernel_rfl
theorem qX : aV Tryz.prog 32 = some 48 := by kernel_rfl
theorem tZero32 : aX Tryz.prog 32 = some [.sl none 0 (some 0), .sl none 0 (some 0)] := by kernel_rfl
theorem mI : bp Tryz.prog 32 = some [(0, 1), (1, 1)] := by kernel_rfl
theorem qY : aQ Tryz.prog 32 0 = some (0, 31) := by kernel_rfl
theorem qZ : aQ Tryz.prog 32 1 = some (1, 22) := by kernel_rfl
theorem rb : Tryz.prog.eqGuardType Tryz.prog.depth 32 = false := by kernel_rfl
theorem tAgg41 : ba Tryz.prog 41 = some false := by kernel_rfl
theorem tSz41 : tSz Tryz.prog 41 = some 1 := by kernel_rfl
theorem rc : aV Tryz.prog 41 = some 8 := by kernel_rfl
theorem tZero41 : aX Tryz.prog 41 = some [.ptr none] := by kernel_rfl
theorem rd : eR Tryz.prog 41 = true := by kernel_rfl
theorem tAgg42 : ba Tryz.prog 42 = some false := by kernel_rfl
theorem tSz42 : tSz Tryz.prog 42 = some 1 := by kernel_rfl
theorem re : aV Tryz.prog 42 = some 8 := by kernel_rfl
theorem tZero42 : aX Tryz.prog 42 = some [.int .i64 0] := by kernel_rfl
theorem tInt42 : ez Tryz.prog 42 = some .i64 := by kernel_rfl
theorem tUnd42 : Tryz.prog.underlying 42 = some (.int .i64) := by kernel_rfl
theorem tAgg46 : ba Tryz.prog 46 = some true := by kernel_rfl
theorem tSz46 : tSz Tryz.prog 46 = some 2 := by kernel_rfl
theorem rf : aV Tryz.prog 46 = some 16 := by kernel_rfl
theorem tZero46 : aX Tryz.prog 46 = some [.int .i64 0, .int .i64 0] := by kernel_rfl
theorem mJ : bp Tryz.prog 46 = some [(0, 1), (1, 1)] := by kernel_rfl
theorem rg : aQ Tryz.prog 46 0 = some (0, 3) := by kernel_rfl
theorem rh : aQ Tryz.prog 46 1 = some (1, 3) := by kernel_rfl
theorem ri : Tryz.prog.eqGuardType Tryz.prog.depth 46 = false := by kernel_rfl
theorem tEq46 (a0 a1 b0 b1 : Int) : aEq Tryz.prog 20 46 [.int .i64 a0, .int .i64 a1] [.int .i64 b0, .int .i64 b1] = some ((a0 == b0) && ((a1 == b1) && true)) := by kernel_rfl
theorem tAgg47 : ba Tryz.prog 47 = some true := by kernel_rfl
theorem tSz47 : tSz Tryz.prog 47 = some 2 := by kernel_rfl
theorem rj : aV Tryz.prog 47 = some 16 := by kernel_rfl
theorem tZero47 : aX Tryz.prog 47 = some [.int .i64 0, .int .i64 0] := by kernel_rfl
theorem mK : bp Tryz.prog 47 = some [(0, 1), (1, 1)] := by kernel_rfl
theorem rl : aQ Tryz.prog 47 0 = some (0, 3) := by kernel_rfl
theorem rm : aQ Tryz.prog 47 1 = some (1, 3) := by kernel_rfl
theorem rn : Tryz.prog.eqGuardType Tryz.prog.depth 47 = false := by kernel_rfl
theorem tEq47 (a0 a1 b0 b1 : Int) : aEq Tryz.prog 20 47 [.int .i64 a0, .int .i64 a1] [.int .i64 b0, .int .i64 b1] = some ((a0 == b0) && ((a1 == b1) && true)) := by kernel_rfl
theorem tAgg48 : ba Tryz.prog 48 = some false := by kernel_rfl
theorem tSz48 : tSz Tryz.prog 48 = some 1 := by kernel_rfl
theorem ro : aV Tryz.prog 48 = some 24 := by kernel_rfl
theorem tZero48 : aX Tryz.prog 48 = some [.sl none 0 (some 0)] := by kernel_rfl
theorem tElem48 : ck Tryz.prog 48 = some 75 := by kernel_rfl
theorem kN : c6 Tryz.prog 48 = true := by kernel_rfl
theorem tAgg49 : ba Tryz.prog 49 = some true := by kernel_rfl
theorem tSz49 : tSz Tryz.prog 49 = some 5 := by kernel_rfl
theorem rp : aV Tryz.prog 49 = some 56 := by kernel_rfl
theorem tZero49 : aX Tryz.prog 49 = some [.int .i64 0, .int .i64 0, .int .i64 0, .bool false, .sl none 0 (some 0)] := by kernel_rfl
theorem mL : bp Tryz.prog 49 = some [(0, 1), (1, 2), (3, 1), (4, 1)] := by kernel_rfl
theorem rq : aQ Tryz.prog 49 0 = some (0, 3) := by kernel_rfl
theorem rr : aQ Tryz.prog 49 1 = some (1, 47) := by kernel_rfl
theorem rt : aQ Tryz.prog 49 2 = some (3, 4) := by kernel_rfl
theorem ru : aQ Tryz.prog 49 3 = some (4, 48) := by kernel_rfl
theorem rv : Tryz.prog.eqGuardType Tryz.prog.depth 49 = false := by kernel_rfl
theorem tAgg50 : ba Tryz.prog 50 = some true := by kernel_rfl
theorem tSz50 : tSz Tryz.prog 50 = some 5 := by kernel_rfl
theorem rx : aV Tryz.prog 50 = some 56 := by kernel_rfl
theorem tZero50 : aX Tryz.prog 50 = some [.int .i64 0, .int .i64 0, .int .i64 0, .bool false, .sl none 0 (some 0)] := by kernel_rfl
theorem mM : bp Tryz.prog 50 = some [(0, 1), (1, 2), (3, 1), (4, 1)] := by kernel_rfl
theorem ry : aQ Tryz.prog 50 0 = some (0, 3) := by kernel_rfl
theorem rz : aQ Tryz.prog 50 1 = some (1, 47) := by kernel_rfl
theorem rA : aQ Tryz.prog 50 2 = some (3, 4) := by kernel_rfl
theorem rB : aQ Tryz.prog 50 3 = some (4, 48) := by kernel_rfl
theorem rC : Tryz.prog.eqGuardType Tryz.prog.depth 50 = false := by kernel_rfl
theorem tAgg61 : ba Tryz.prog 61 = some false := by kernel_rfl
theorem tSz61 : tSz Tryz.prog 61 = some 1 := by kernel_rfl
theorem rD : aV Tryz.prog 61 = some 24 := by kernel_rfl
theorem tZero61 : aX Tryz.prog 61 = some [.sl none 0 (some 0)] := by kernel_rfl
theorem tElem61 : ck Tryz.prog 61 = some 104 := by kernel_rfl
theorem kO : c6 Tryz.prog 61 = true := by kernel_rfl
theorem tAgg63 : ba Tryz.prog 63 = some false := by kernel_rfl
theorem tSz63 : tSz Tryz.prog 63 = some 1 := by kernel_rfl
theorem rE : aV Tryz.prog 63 = some 24 := by kernel_rfl
theorem tZero63 : aX Tryz.prog 63 = some [.sl none 0 (some 0)] := by kernel_rfl
theorem tElem63 : ck Tryz.prog 63 = some 50 := by kernel_rfl
theorem kP : c6 Tryz.prog 63 = true := by kernel_rfl
theorem tAgg64 : ba Tryz.prog 64 = some false := by kernel_rfl
theorem tSz64 : tSz Tryz.prog 64 = some 1 := by kernel_rfl
theorem rF : aV Tryz.prog 64 = some 24 := by kernel_rfl
theorem tZero64 : aX Tryz.prog 64 = some [.sl none 0 (some 0)] := by kernel_rfl
theorem tElem64 : ck Tryz.prog 64 = some 28 := by kernel_rfl
theorem kQ : c6 Tryz.prog 64 = true := by kernel_rfl
theorem tAgg72 : ba Tryz.prog 72 = some true := by kernel_rfl
theorem tSz72 : tSz Tryz.prog 72 = some 6 := by kernel_rfl
theorem rG : aV Tryz.prog 72 = some 48 := by kernel_rfl
theorem tZero72 : aX Tryz.prog 72 = some [.int .i64 0, .int .i64 0, .int .i64 0, .int .i64 0, .int .i64 0, .int .i64 0] := by kernel_rfl
theorem mN : bp Tryz.prog 72 = some [(0, 1), (1, 1), (2, 1), (3, 1), (4, 1), (5, 1)] := by kernel_rfl
theorem rH : aQ Tryz.prog 72 0 = some (0, 3) := by kernel_rfl
theorem rI : aQ Tryz.prog 72 1 = some (1, 3) := by kernel_rfl
theorem rJ : aQ Tryz.prog 72 2 = some (2, 3) := by kernel_rfl
theorem rK : aQ Tryz.prog 72 3 = some (3, 3) := by kernel_rfl
theorem rL : aQ Tryz.prog 72 4 = some (4, 3) := by kernel_rfl
theorem rM : aQ Tryz.prog 72 5 = some (5, 3) := by kernel_rfl
theorem rN : Tryz.prog.eqGuardType Tryz.prog.depth 72 = false := by kernel_rfl
theorem tEq72 (a0 a1 a2 a3 a4 a5 b0 b1 b2 b3 b4 b5 : Int) : aEq Tryz.prog 20 72 [.int .i64 a0, .int .i64 a1, .int .i64 a2, .int .i64 a3, .int .i64 a4, .int .i64 a5] [.int .i64 b0, .int .i64 b1, .int .i64 b2, .int .i64 b3, .int .i64 b4, .int .i64 b5] = some ((a0 == b0) && ((a1 == b1) && ((a2 == b2) && ((a3 == b3) && ((a4 == b4) && ((a5 == b5) && true)))))) := by kernel_rfl
theorem tAgg73 : ba Tryz.prog 73 = some true := by kernel_rfl
theorem tSz73 : tSz Tryz.prog 73 = some 6 := by kernel_rfl
theorem rO : aV Tryz.prog 73 = some 48 := by kernel_rfl
theorem tZero73 : aX Tryz.prog 73 = some [.int .i64 0, .int .i64 0, .int .i64 0, .int .i64 0, .int .i64 0, .int .i64 0] := by kernel_rfl
theorem mO : bp Tryz.prog 73 = some [(0, 1), (1, 1), (2, 1), (3, 1), (4, 1), (5, 1)] := by kernel_rfl
theorem rP : aQ Tryz.prog 73 0 = some (0, 3) := by kernel_rfl
theorem rQ : aQ Tryz.prog 73 1 = some (1, 3) := by kernel_rfl
theorem rR : aQ Tryz.prog 73 2 = some (2, 3) := by kernel_rfl
theorem rS : aQ Tryz.prog 73 3 = some (3, 3) := by kernel_rfl
theorem rT : aQ Tryz.prog 73 4 = some (4, 3) := by kernel_rfl
theorem rU : aQ Tryz.prog 73 5 = some (5, 3) := by kernel_rfl
theorem rV : Tryz.prog.eqGuardType Tryz.prog.depth 73 = false := by kernel_rfl
theorem tEq73 (a0 a1 a2 a3 a4 a5 b0 b1 b2 b3 b4 b5 : Int) : aEq Tryz.prog 20 73 [.int .i64 a0, .int .i64 a1, .int .i64 a2, .int .i64 a3, .int .i64 a4, .int .i64 a5] [.int .i64 b0, .int .i64 b1, .int .i64 b2, .int .i64 b3, .int .i64 b4, .int .i64 b5] = some ((a0 == b0) && ((a1 == b1) && ((a2 == b2) && ((a3 == b3) && ((a4 == b4) && ((a5 == b5) && true)))))) := by kernel_rfl
theorem tAgg74 : ba Tryz.prog 74 = some true := by kernel_rfl
theorem tSz74 : tSz Tryz.prog 74 = some 2 := by kernel_rfl
theorem rW : aV Tryz.prog 74 = some 16 := by kernel_rfl
theorem tZero74 : aX Tryz.prog 74 = some [.int .i64 0, .int .i64 0] := by kernel_rfl
theorem mP : bp Tryz.prog 74 = some [(0, 1), (1, 1)] := by kernel_rfl
theorem rX : aQ Tryz.prog 74 0 = some (0, 3) := by kernel_rfl
theorem rY : aQ Tryz.prog 74 1 = some (1, 3) := by kernel_rfl
theorem rZ : Tryz.prog.eqGuardType Tryz.prog.depth 74 = false := by kernel_rfl
theorem tEq74 (a0 a1 b0 b1 : Int) : aEq Tryz.prog 20 74 [.int .i64 a0, .int .i64 a1] [.int .i64 b0, .int .i64 b1] = some ((a0 == b0) && ((a1 == b1) && true)) := by kernel_rfl
theorem tAgg75 : ba Tryz.prog 75 = some true := by kernel_rfl
theorem tSz75 : tSz Tryz.prog 75 = some 2 := by kernel_rfl
theorem r7 : aV Tryz.prog 75 = some 16 := by kernel_rfl
theorem tZero75 : aX Tryz.prog 75 = some [.int .i64 0, .int .i64 0] := by kernel_rfl
theorem mQ : bp Tryz.prog 75 = some [(0, 1), (1, 1)] := by kernel_rfl
theorem r8 : aQ Tryz.prog 75 0 = some (0, 3) := by kernel_rfl
theorem sa : aQ Tryz.prog 75 1 = some (1, 3) := by kernel_rfl
theorem sb : Tryz.prog.eqGuardType Tryz.prog.depth 75 = false := by kernel_rfl
theorem tEq75 (a0 a1 b0 b1 : Int) : aEq Tryz.prog 20 75 [.int .i64 a0, .int .i64 a1] [.int .i64 b0, .int .i64 b1] = some ((a0 == b0) && ((a1 == b1) && true)) := by kernel_rfl
theorem tAgg84 : ba Tryz.prog 84 = some true := by kernel_rfl
theorem tSz84 : tSz Tryz.prog 84 = some 9 := by kernel_rfl
theorem sd : aV Tryz.prog 84 = some 104 := by kernel_rfl
theorem tZero84 : aX Tryz.prog 84 = some [.int .i64 0, .int .i64 0, .sl none 0 (some 0), .sl none 0 (some 0), .int .i64 0, .int .i64 0, .int .i64 0, .int .i64 0, .bool false] := by kernel_rfl
theorem mR : bp Tryz.prog 84 = some [(0, 3), (3, 1), (4, 4), (8, 1)] := by kernel_rfl
theorem se : aQ Tryz.prog 84 0 = some (0, 24) := by kernel_rfl
theorem sf : aQ Tryz.prog 84 1 = some (3, 31) := by kernel_rfl
theorem sg : aQ Tryz.prog 84 2 = some (4, 26) := by kernel_rfl
theorem sh : aQ Tryz.prog 84 3 = some (8, 4) := by kernel_rfl
theorem si : Tryz.prog.eqGuardType Tryz.prog.depth 84 = false := by kernel_rfl
theorem tAgg85 : ba Tryz.prog 85 = some true := by kernel_rfl
theorem tSz85 : tSz Tryz.prog 85 = some 9 := by kernel_rfl
theorem sj : aV Tryz.prog 85 = some 104 := by kernel_rfl
theorem tZero85 : aX Tryz.prog 85 = some [.int .i64 0, .int .i64 0, .sl none 0 (some 0), .sl none 0 (some 0), .int .i64 0, .int .i64 0, .int .i64 0, .int .i64 0, .bool false] := by kernel_rfl
theorem mS : bp Tryz.prog 85 = some [(0, 3), (3, 1), (4, 4), (8, 1)] := by kernel_rfl
theorem sk : aQ Tryz.prog 85 0 = some (0, 24) := by kernel_rfl
theorem sm : aQ Tryz.prog 85 1 = some (3, 31) := by kernel_rfl
theorem sn : aQ Tryz.prog 85 2 = some (4, 26) := by kernel_rfl
theorem so : aQ Tryz.prog 85 3 = some (8, 4) := by kernel_rfl
theorem sq : Tryz.prog.eqGuardType Tryz.prog.depth 85 = false := by kernel_rfl
theorem tAgg89 : ba Tryz.prog 89 = some true := by kernel_rfl
theorem tSz89 : tSz Tryz.prog 89 = some 2 := by kernel_rfl
theorem sr : aV Tryz.prog 89 = some 16 := by kernel_rfl
theorem tZero89 : aX Tryz.prog 89 = some [.int .i64 0, .int .i64 0] := by kernel_rfl
theorem mT : bp Tryz.prog 89 = some [(0, 1), (1, 1)] := by kernel_rfl
theorem ss : aQ Tryz.prog 89 0 = some (0, 3) := by kernel_rfl
theorem su : aQ Tryz.prog 89 1 = some (1, 3) := by kernel_rfl
theorem sw : Tryz.prog.eqGuardType Tryz.prog.depth 89 = false := by kernel_rfl
theorem tEq89 (a0 a1 b0 b1 : Int) : aEq Tryz.prog 20 89 [.int .i64 a0, .int .i64 a1] [.int .i64 b0, .int .i64 b1] = some ((a0 == b0) && ((a1 == b1) && true)) := by kernel_rfl
theorem tAgg90 : ba Tryz.prog 90 = some true := by kernel_rfl
theorem tSz90 : tSz Tryz.prog 90 = some 2 := by kernel_rfl
theorem sx : aV Tryz.prog 90 = some 16 := by kernel_rfl
theorem tZero90 : aX Tryz.prog 90 = some [.int .i64 0, .int .i64 0] := by kernel_rfl
theorem mU : bp Tryz.prog 90 = some [(0, 1), (1, 1)] := by kernel_rfl
theorem sy : aQ Tryz.prog 90 0 = some (0, 3) := by kernel_rfl
theorem sA : aQ Tryz.prog 90 1 = some (1, 3) := by kernel_rfl
theorem sB : Tryz.prog.eqGuardType Tryz.prog.depth 90 = false := by kernel_rfl
theorem tEq90 (a0 a1 b0 b1 : Int) : aEq Tryz.prog 20 90 [.int .i64 a0, .int .i64 a1] [.int .i64 b0, .int .i64 b1] = some ((a0 == b0) && ((a1 == b1) && true)) := by kernel_rfl
theorem tAgg100 : ba Tryz.prog 100 = some true := by kernel_rfl
theorem tSz100 : tSz Tryz.prog 100 = some 4 := by kernel_rfl
theorem mV : aV Tryz.prog 100 = some 32 := by kernel_rfl
theorem sC : aX Tryz.prog 100 = some [.int .i64 0, .int .i64 0, .int .i64 0, .int .i64 0] := by kernel_rfl
theorem kR : bp Tryz.prog 100 = some [(0, 1), (1, 1), (2, 1), (3, 1)] := by kernel_rfl
theorem mW : aQ Tryz.prog 100 0 = some (0, 3) := by kernel_rfl
theorem mX : aQ Tryz.prog 100 1 = some (1, 3) := by kernel_rfl
theorem mY : aQ Tryz.prog 100 2 = some (2, 3) := by kernel_rfl
theorem mZ : aQ Tryz.prog 100 3 = some (3, 3) := by kernel_rfl
theorem m6 : Tryz.prog.eqGuardType Tryz.prog.depth 100 = false := by kernel_rfl
theorem tEq100 (a0 a1 a2 a3 b0 b1 b2 b3 : Int) : aEq Tryz.prog 20 100 [.int .i64 a0, .int .i64 a1, .int .i64 a2, .int .i64 a3] [.int .i64 b0, .int .i64 b1, .int .i64 b2, .int .i64 b3] = some ((a0 == b0) && ((a1 == b1) && ((a2 == b2) && ((a3 == b3) && true)))) := by kernel_rfl
theorem tAgg101 : ba Tryz.prog 101 = some true := by kernel_rfl
theorem tSz101 : tSz Tryz.prog 101 = some 4 := by kernel_rfl
theorem m7 : aV Tryz.prog 101 = some 32 := by kernel_rfl
theorem sD : aX Tryz.prog 101 = some [.int .i64 0, .int .i64 0, .int .i64 0, .int .i64 0] := by kernel_rfl
theorem kS : bp Tryz.prog 101 = some [(0, 1), (1, 1), (2, 1), (3, 1)] := by kernel_rfl
theorem m8 : aQ Tryz.prog 101 0 = some (0, 3) := by kernel_rfl
theorem m9 : aQ Tryz.prog 101 1 = some (1, 3) := by kernel_rfl
theorem na : aQ Tryz.prog 101 2 = some (2, 3) := by kernel_rfl
theorem nb : aQ Tryz.prog 101 3 = some (3, 3) := by kernel_rfl
theorem nd : Tryz.prog.eqGuardType Tryz.prog.depth 101 = false := by kernel_rfl
theorem tEq101 (a0 a1 a2 a3 b0 b1 b2 b3 : Int) : aEq Tryz.prog 20 101 [.int .i64 a0, .int .i64 a1, .int .i64 a2, .int .i64 a3] [.int .i64 b0, .int .i64 b1, .int .i64 b2, .int .i64 b3] = some ((a0 == b0) && ((a1 == b1) && ((a2 == b2) && ((a3 == b3) && true)))) := by kernel_rfl
theorem tAgg102 : ba Tryz.prog 102 = some false := by kernel_rfl
theorem tSz102 : tSz Tryz.prog 102 = some 1 := by kernel_rfl
theorem ne : aV Tryz.prog 102 = some 24 := by kernel_rfl
theorem sE : aX Tryz.prog 102 = some [.sl none 0 (some 0)] := by kernel_rfl
theorem sF : ck Tryz.prog 102 = some 3 := by kernel_rfl
theorem jL : c6 Tryz.prog 102 = true := by kernel_rfl
theorem tAgg103 : ba Tryz.prog 103 = some true := by kernel_rfl
theorem tSz103 : tSz Tryz.prog 103 = some 8 := by kernel_rfl
theorem ng : aV Tryz.prog 103 = some 96 := by kernel_rfl
theorem sG : aX Tryz.prog 103 = some [.int .i64 0, .int .i64 0, .int .i64 0, .int .i64 0, .int .i64 0, .int .i64 0, .sl none 0 (some 0), .sl none 0 (some 0)] := by kernel_rfl
theorem kT : bp Tryz.prog 103 = some [(0, 2), (2, 4), (6, 1), (7, 1)] := by kernel_rfl
theorem nh : aQ Tryz.prog 103 0 = some (0, 47) := by kernel_rfl
theorem ni : aQ Tryz.prog 103 1 = some (2, 101) := by kernel_rfl
theorem nj : aQ Tryz.prog 103 2 = some (6, 102) := by kernel_rfl
theorem nk : aQ Tryz.prog 103 3 = some (7, 102) := by kernel_rfl
theorem nl : Tryz.prog.eqGuardType Tryz.prog.depth 103 = false := by kernel_rfl
theorem tAgg104 : ba Tryz.prog 104 = some true := by kernel_rfl
theorem tSz104 : tSz Tryz.prog 104 = some 8 := by kernel_rfl
theorem nm : aV Tryz.prog 104 = some 96 := by kernel_rfl
theorem sH : aX Tryz.prog 104 = some [.int .i64 0, .int .i64 0, .int .i64 0, .int .i64 0, .int .i64 0, .int .i64 0, .sl none 0 (some 0), .sl none 0 (some 0)] := by kernel_rfl
theorem kU : bp Tryz.prog 104 = some [(0, 2), (2, 4), (6, 1), (7, 1)] := by kernel_rfl
theorem nn : aQ Tryz.prog 104 0 = some (0, 47) := by kernel_rfl
theorem no : aQ Tryz.prog 104 1 = some (2, 101) := by kernel_rfl
theorem np : aQ Tryz.prog 104 2 = some (6, 102) := by kernel_rfl
theorem nq : aQ Tryz.prog 104 3 = some (7, 102) := by kernel_rfl
theorem nr : Tryz.prog.eqGuardType Tryz.prog.depth 104 = false := by kernel_rfl
theorem tAgg116 : ba Tryz.prog 116 = some true := by kernel_rfl
theorem tSz116 : tSz Tryz.prog 116 = some 2 := by kernel_rfl
theorem nt : aV Tryz.prog 116 = some 16 := by kernel_rfl
theorem sI : aX Tryz.prog 116 = some [.int .i64 0, .int .i64 0] := by kernel_rfl
theorem kV : bp Tryz.prog 116 = some [(0, 1), (1, 1)] := by kernel_rfl
theorem nu : aQ Tryz.prog 116 0 = some (0, 3) := by kernel_rfl
theorem nv : aQ Tryz.prog 116 1 = some (1, 3) := by kernel_rfl
theorem nw : Tryz.prog.eqGuardType Tryz.prog.depth 116 = false := by kernel_rfl
theorem tEq116 (a0 a1 b0 b1 : Int) : aEq Tryz.prog 20 116 [.int .i64 a0, .int .i64 a1] [.int .i64 b0, .int .i64 b1] = some ((a0 == b0) && ((a1 == b1) && true)) := by kernel_rfl
theorem tAgg117 : ba Tryz.prog 117 = some true := by kernel_rfl
theorem tSz117 : tSz Tryz.prog 117 = some 2 := by kernel_rfl
theorem ny : aV Tryz.prog 117 = some 16 := by kernel_rfl
theorem sJ : aX Tryz.prog 117 = some [.int .i64 0, .int .i64 0] := by kernel_rfl
theorem kW : bp Tryz.prog 117 = some [(0, 1), (1, 1)] := by kernel_rfl
theorem nz : aQ Tryz.prog 117 0 = some (0, 3) := by kernel_rfl
theorem nA : aQ Tryz.prog 117 1 = some (1, 3) := by kernel_rfl
theorem nB : Tryz.prog.eqGuardType Tryz.prog.depth 117 = false := by kernel_rfl
theorem tEq117 (a0 a1 b0 b1 : Int) : aEq Tryz.prog 20 117 [.int .i64 a0, .int .i64 a1] [.int .i64 b0, .int .i64 b1] = some ((a0 == b0) && ((a1 == b1) && true)) := by kernel_rfl
theorem tAgg127 : ba Tryz.prog 127 = some true := by kernel_rfl
theorem tSz127 : tSz Tryz.prog 127 = some 3 := by kernel_rfl
theorem nC : aV Tryz.prog 127 = some 24 := by kernel_rfl
theorem sK : aX Tryz.prog 127 = some [.int .i64 0, .int .i64 0, .int .i64 0] := by kernel_rfl
theorem kX : bp Tryz.prog 127 = some [(0, 1), (1, 1), (2, 1)] := by kernel_rfl
theorem nD : aQ Tryz.prog 127 0 = some (0, 3) := by kernel_rfl
theorem nE : aQ Tryz.prog 127 1 = some (1, 3) := by kernel_rfl
theorem nF : aQ Tryz.prog 127 2 = some (2, 3) := by kernel_rfl
theorem nG : Tryz.prog.eqGuardType Tryz.prog.depth 127 = false := by kernel_rfl
theorem tEq127 (a0 a1 a2 b0 b1 b2 : Int) : aEq Tryz.prog 20 127 [.int .i64 a0, .int .i64 a1, .int .i64 a2] [.int .i64 b0, .int .i64 b1, .int .i64 b2] = some ((a0 == b0) && ((a1 == b1) && ((a2 == b2) && true))) := by kernel_rfl
theorem tAgg128 : ba Tryz.prog 128 = some true := by kernel_rfl
theorem tSz128 : tSz Tryz.prog 128 = some 3 := by kernel_rfl
theorem nH : aV Tryz.prog 128 = some 24 := by kernel_rfl
theorem sL : aX Tryz.prog 128 = some [.int .i64 0, .int .i64 0, .int .i64 0] := by kernel_rfl
theorem kY : bp Tryz.prog 128 = some [(0, 1), (1, 1), (2, 1)] := by kernel_rfl
theorem nI : aQ Tryz.prog 128 0 = some (0, 3) := by kernel_rfl
theorem nJ : aQ Tryz.prog 128 1 = some (1, 3) := by kernel_rfl
theorem nK : aQ Tryz.prog 128 2 = some (2, 3) := by kernel_rfl
theorem nL : Tryz.prog.eqGuardType Tryz.prog.depth 128 = false := by kernel_rfl
theorem tEq128 (a0 a1 a2 b0 b1 b2 : Int) : aEq Tryz.prog 20 128 [.int .i64 a0, .int .i64 a1, .int .i64 a2] [.int .i64 b0, .int .i64 b1, .int .i64 b2] = some ((a0 == b0) && ((a1 == b1) && ((a2 == b2) && true))) := by kernel_rfl
theorem tAgg132 : ba Tryz.prog 132 = some true := by kernel_rfl
theorem tSz132 : tSz Tryz.prog 132 = some 2 := by kernel_rfl
theorem nM : aV Tryz.prog 132 = some 16 := by kernel_rfl
theorem sM : aX Tryz.prog 132 = some [.int .i64 0, .int .i64 0] := by kernel_rfl
theorem kZ : bp Tryz.prog 132 = some [(0, 1), (1, 1)] := by kernel_rfl
theorem nN : aQ Tryz.prog 132 0 = some (0, 3) := by kernel_rfl
theorem nO : aQ Tryz.prog 132 1 = some (1, 3) := by kernel_rfl
theorem nP : Tryz.prog.eqGuardType Tryz.prog.depth 132 = false := by kernel_rfl
theorem tEq132 (a0 a1 b0 b1 : Int) : aEq Tryz.prog 20 132 [.int .i64 a0, .int .i64 a1] [.int .i64 b0, .int .i64 b1] = some ((a0 == b0) && ((a1 == b1) && true)) := by kernel_rfl
theorem tAgg133 : ba Tryz.prog 133 = some true := by kernel_rfl
theorem tSz133 : tSz Tryz.prog 133 = some 2 := by kernel_rfl
theorem nQ : aV Tryz.prog 133 = some 16 := by kernel_rfl
theorem sN : aX Tryz.prog 133 = some [.int .i64 0, .int .i64 0] := by kernel_rfl
theorem k6 : bp Tryz.prog 133 = some [(0, 1), (1, 1)] := by kernel_rfl
theorem nR : aQ Tryz.prog 133 0 = some (0, 3) := by kernel_rfl
theorem nS : aQ Tryz.prog 133 1 = some (1, 3) := by kernel_rfl
theorem nT : Tryz.prog.eqGuardType Tryz.prog.depth 133 = false := by kernel_rfl
theorem tEq133 (a0 a1 b0 b1 : Int) : aEq Tryz.prog 20 133 [.int .i64 a0, .int .i64 a1] [.int .i64 b0, .int .i64 b1] = some ((a0 == b0) && ((a1 == b1) && true)) := by kernel_rfl
theorem tAgg147 : ba Tryz.prog 147 = some false := by kernel_rfl
theorem tSz147 : tSz Tryz.prog 147 = some 1 := by kernel_rfl
theorem nU : aV Tryz.prog 147 = some 24 := by kernel_rfl
theorem sO : aX Tryz.prog 147 = some [.sl none 0 (some 0)] := by kernel_rfl
theorem sP : ck Tryz.prog 147 = some 149 := by kernel_rfl
theorem jM : c6 Tryz.prog 147 = true := by kernel_rfl
theorem tAgg149 : ba Tryz.prog 149 = some true := by kernel_rfl
theorem tSz149 : tSz Tryz.prog 149 = some 2 := by kernel_rfl
theorem nV : aV Tryz.prog 149 = some 16 := by kernel_rfl
theorem sQ : aX Tryz.prog 149 = some [.int .i64 0, .int .i64 0] := by kernel_rfl
theorem k7 : bp Tryz.prog 149 = some [(0, 1), (1, 1)] := by kernel_rfl
theorem nW : aQ Tryz.prog 149 0 = some (0, 3) := by kernel_rfl
theorem nX : aQ Tryz.prog 149 1 = some (1, 3) := by kernel_rfl
theorem nY : Tryz.prog.eqGuardType Tryz.prog.depth 149 = false := by kernel_rfl
theorem tEq149 (a0 a1 b0 b1 : Int) : aEq Tryz.prog 20 149 [.int .i64 a0, .int .i64 a1] [.int .i64 b0, .int .i64 b1] = some ((a0 == b0) && ((a1 == b1) && true)) := by kernel_rfl
theorem tAgg150 : ba Tryz.prog 150 = some false := by kernel_rfl
theorem tSz150 : tSz Tryz.prog 150 = some 1 := by kernel_rfl
theorem nZ : aV Tryz.prog 150 = some 8 := by kernel_rfl
theorem sR : aX Tryz.prog 150 = some [.ptr none] := by kernel_rfl
theorem n0 : eR Tryz.prog 150 = true := by kernel_rfl
theorem tAgg176 : ba Tryz.prog 176 = some true := by kernel_rfl
theorem tSz176 : tSz Tryz.prog 176 = some 4 := by kernel_rfl
theorem n7 : aV Tryz.prog 176 = some 32 := by kernel_rfl
theorem sS : aX Tryz.prog 176 = some [.int .i64 0, .int .i64 0, .int .i64 0, .int .i64 0] := by kernel_rfl
theorem k8 : bp Tryz.prog 176 = some [(0, 1), (1, 1), (2, 1), (3, 1)] := by kernel_rfl
theorem n8 : aQ Tryz.prog 176 0 = some (0, 3) := by kernel_rfl
theorem n9 : aQ Tryz.prog 176 1 = some (1, 3) := by kernel_rfl
theorem oa : aQ Tryz.prog 176 2 = some (2, 3) := by kernel_rfl
theorem ob : aQ Tryz.prog 176 3 = some (3, 3) := by kernel_rfl
theorem oc : Tryz.prog.eqGuardType Tryz.prog.depth 176 = false := by kernel_rfl
theorem tEq176 (a0 a1 a2 a3 b0 b1 b2 b3 : Int) : aEq Tryz.prog 20 176 [.int .i64 a0, .int .i64 a1, .int .i64 a2, .int .i64 a3] [.int .i64 b0, .int .i64 b1, .int .i64 b2, .int .i64 b3] = some ((a0 == b0) && ((a1 == b1) && ((a2 == b2) && ((a3 == b3) && true)))) := by kernel_rfl
theorem tAgg177 : ba Tryz.prog 177 = some true := by kernel_rfl
theorem tSz177 : tSz Tryz.prog 177 = some 4 := by kernel_rfl
theorem od : aV Tryz.prog 177 = some 32 := by kernel_rfl
theorem sT : aX Tryz.prog 177 = some [.int .i64 0, .int .i64 0, .int .i64 0, .int .i64 0] := by kernel_rfl
theorem k9 : bp Tryz.prog 177 = some [(0, 1), (1, 1), (2, 1), (3, 1)] := by kernel_rfl
theorem oe : aQ Tryz.prog 177 0 = some (0, 3) := by kernel_rfl
theorem og : aQ Tryz.prog 177 1 = some (1, 3) := by kernel_rfl
theorem oh : aQ Tryz.prog 177 2 = some (2, 3) := by kernel_rfl
theorem oi : aQ Tryz.prog 177 3 = some (3, 3) := by kernel_rfl
theorem oj : Tryz.prog.eqGuardType Tryz.prog.depth 177 = false := by kernel_rfl
theorem tEq177 (a0 a1 a2 a3 b0 b1 b2 b3 : Int) : aEq Tryz.prog 20 177 [.int .i64 a0, .int .i64 a1, .int .i64 a2, .int .i64 a3] [.int .i64 b0, .int .i64 b1, .int .i64 b2, .int .i64 b3] = some ((a0 == b0) && ((a1 == b1) && ((a2 == b2) && ((a3 == b3) && true)))) := by kernel_rfl
theorem tAgg188 : ba Tryz.prog 188 = some false := by kernel_rfl
theorem tSz188 : tSz Tryz.prog 188 = some 1 := by kernel_rfl
theorem ol : aV Tryz.prog 188 = some 24 := by kernel_rfl
theorem sU : aX Tryz.prog 188 = some [.sl none 0 (some 0)] := by kernel_rfl
theorem sV : ck Tryz.prog 188 = some 191 := by kernel_rfl
theorem jN : c6 Tryz.prog 188 = true := by kernel_rfl
theorem tAgg190 : ba Tryz.prog 190 = some true := by kernel_rfl
theorem tSz190 : tSz Tryz.prog 190 = some 9 := by kernel_rfl
theorem om : aV Tryz.prog 190 = some 72 := by kernel_rfl
theorem sW : aX Tryz.prog 190 = some [.int .i64 0, .int .i64 0, .int .i64 0, .int .i64 0, .int .i64 0, .int .i64 0, .int .i64 0, .int .i64 0, .int .i64 0] := by kernel_rfl
theorem la : bp Tryz.prog 190 = some [(0, 6), (6, 3)] := by kernel_rfl
theorem ot : aQ Tryz.prog 190 0 = some (0, 73) := by kernel_rfl
theorem ou : aQ Tryz.prog 190 1 = some (6, 128) := by kernel_rfl
theorem ov : Tryz.prog.eqGuardType Tryz.prog.depth 190 = false := by kernel_rfl
theorem tEq190 (a0 a1 a2 a3 a4 a5 a6 a7 a8 b0 b1 b2 b3 b4 b5 b6 b7 b8 : Int) : aEq Tryz.prog 20 190 [.int .i64 a0, .int .i64 a1, .int .i64 a2, .int .i64 a3, .int .i64 a4, .int .i64 a5, .int .i64 a6, .int .i64 a7, .int .i64 a8] [.int .i64 b0, .int .i64 b1, .int .i64 b2, .int .i64 b3, .int .i64 b4, .int .i64 b5, .int .i64 b6, .int .i64 b7, .int .i64 b8] = some (((a0 == b0) && ((a1 == b1) && ((a2 == b2) && ((a3 == b3) && ((a4 == b4) && ((a5 == b5) && true)))))) && (((a6 == b6) && ((a7 == b7) && ((a8 == b8) && true))) && true)) := by kernel_rfl
theorem tAgg191 : ba Tryz.prog 191 = some true := by kernel_rfl
theorem tSz191 : tSz Tryz.prog 191 = some 9 := by kernel_rfl
theorem oA : aV Tryz.prog 191 = some 72 := by kernel_rfl
theorem sX : aX Tryz.prog 191 = some [.int .i64 0, .int .i64 0, .int .i64 0, .int .i64 0, .int .i64 0, .int .i64 0, .int .i64 0, .int .i64 0, .int .i64 0] := by kernel_rfl
theorem lb : bp Tryz.prog 191 = some [(0, 6), (6, 3)] := by kernel_rfl
theorem oB : aQ Tryz.prog 191 0 = some (0, 73) := by kernel_rfl
theorem oC : aQ Tryz.prog 191 1 = some (6, 128) := by kernel_rfl
theorem oD : Tryz.prog.eqGuardType Tryz.prog.depth 191 = false := by kernel_rfl
theorem tEq191 (a0 a1 a2 a3 a4 a5 a6 a7 a8 b0 b1 b2 b3 b4 b5 b6 b7 b8 : Int) : aEq Tryz.prog 20 191 [.int .i64 a0, .int .i64 a1, .int .i64 a2, .int .i64 a3, .int .i64 a4, .int .i64 a5, .int .i64 a6, .int .i64 a7, .int .i64 a8] [.int .i64 b0, .int .i64 b1, .int .i64 b2, .int .i64 b3, .int .i64 b4, .int .i64 b5, .int .i64 b6, .int .i64 b7, .int .i64 b8] = some (((a0 == b0) && ((a1 == b1) && ((a2 == b2) && ((a3 == b3) && ((a4 == b4) && ((a5 == b5) && true)))))) && (((a6 == b6) && ((a7 == b7) && ((a8 == b8) && true))) && true)) := by kernel_rfl
theorem tAgg212 : ba Tryz.prog 212 = some true := by kernel_rfl
theorem tSz212 : tSz Tryz.prog 212 = some 2 := by kernel_rfl
theorem oE : aV Tryz.prog 212 = some 16 := by kernel_rfl
theorem sY : aX Tryz.prog 212 = some [.int .i64 0, .int .i64 0] := by kernel_rfl
theorem tIdx212 : tIdx Tryz.prog 212 = some (some 2, 3) := by kernel_rfl
theorem lc : bp Tryz.prog 212 = some [(0, 1), (1, 1)] := by kernel_rfl
theorem tAgg223 : ba Tryz.prog 223 = some false := by kernel_rfl
theorem tSz223 : tSz Tryz.prog 223 = some 1 := by kernel_rfl
theorem oF : aV Tryz.prog 223 = some 24 := by kernel_rfl
theorem sZ : aX Tryz.prog 223 = some [.sl none 0 (some 0)] := by kernel_rfl
theorem s6 : ck Tryz.prog 223 = some 90 := by kernel_rfl
theorem jO : c6 Tryz.prog 223 = true := by kernel_rfl
theorem tAgg230 : ba Tryz.prog 230 = some false := by kernel_rfl
theorem tSz230 : tSz Tryz.prog 230 = some 1 := by kernel_rfl
theorem oG : aV Tryz.prog 230 = some 8 := by kernel_rfl
theorem s7 : aX Tryz.prog 230 = some [.int .u64 0] := by kernel_rfl
theorem tInt230 : ez Tryz.prog 230 = some .u64 := by kernel_rfl
theorem tUnd230 : Tryz.prog.underlying 230 = some (.int .u64) := by kernel_rfl
theorem tAgg239 : ba Tryz.prog 239 = some true := by kernel_rfl
theorem tSz239 : tSz Tryz.prog 239 = some 4 := by kernel_rfl
theorem oH : aV Tryz.prog 239 = some 32 := by kernel_rfl
theorem s8 : aX Tryz.prog 239 = some [.int .i64 0, .int .i64 0, .int .i64 0, .int .i64 0] := by kernel_rfl
theorem ld : bp Tryz.prog 239 = some [(0, 2), (2, 2)] := by kernel_rfl
theorem oI : aQ Tryz.prog 239 0 = some (0, 133) := by kernel_rfl
theorem oJ : aQ Tryz.prog 239 1 = some (2, 133) := by kernel_rfl
theorem oK : Tryz.prog.eqGuardType Tryz.prog.depth 239 = false := by kernel_rfl
theorem tEq239 (a0 a1 a2 a3 b0 b1 b2 b3 : Int) : aEq Tryz.prog 20 239 [.int .i64 a0, .int .i64 a1, .int .i64 a2, .int .i64 a3] [.int .i64 b0, .int .i64 b1, .int .i64 b2, .int .i64 b3] = some (((a0 == b0) && ((a1 == b1) && true)) && (((a2 == b2) && ((a3 == b3) && true)) && true)) := by kernel_rfl
theorem tAgg240 : ba Tryz.prog 240 = some true := by kernel_rfl
theorem tSz240 : tSz Tryz.prog 240 = some 4 := by kernel_rfl
theorem oL : aV Tryz.prog 240 = some 32 := by kernel_rfl
theorem s9 : aX Tryz.prog 240 = some [.int .i64 0, .int .i64 0, .int .i64 0, .int .i64 0] := by kernel_rfl
theorem lf : bp Tryz.prog 240 = some [(0, 2), (2, 2)] := by kernel_rfl
theorem oM : aQ Tryz.prog 240 0 = some (0, 133) := by kernel_rfl
theorem oN : aQ Tryz.prog 240 1 = some (2, 133) := by kernel_rfl
theorem oO : Tryz.prog.eqGuardType Tryz.prog.depth 240 = false := by kernel_rfl
theorem tEq240 (a0 a1 a2 a3 b0 b1 b2 b3 : Int) : aEq Tryz.prog 20 240 [.int .i64 a0, .int .i64 a1, .int .i64 a2, .int .i64 a3] [.int .i64 b0, .int .i64 b1, .int .i64 b2, .int .i64 b3] = some (((a0 == b0) && ((a1 == b1) && true)) && (((a2 == b2) && ((a3 == b3) && true)) && true)) := by kernel_rfl
theorem tAgg245 : ba Tryz.prog 245 = some true := by kernel_rfl
theorem tSz245 : tSz Tryz.prog 245 = some 4 := by kernel_rfl
theorem oP : aV Tryz.prog 245 = some 32 := by kernel_rfl
theorem ta : aX Tryz.prog 245 = some [.int .i64 0, .int .i64 0, .int .i64 0, .int .i64 0] := by kernel_rfl
theorem tIdx245 : tIdx Tryz.prog 245 = some (some 4, 3) := by kernel_rfl
theorem lg : bp Tryz.prog 245 = some [(0, 1), (1, 1), (2, 1), (3, 1)] := by kernel_rfl
theorem tAgg251 : ba Tryz.prog 251 = some false := by kernel_rfl
theorem tSz251 : tSz Tryz.prog 251 = some 1 := by kernel_rfl
theorem oQ : aV Tryz.prog 251 = some 8 := by kernel_rfl
theorem tc : aX Tryz.prog 251 = some [.int .i64 0] := by kernel_rfl
theorem tInt251 : ez Tryz.prog 251 = some .i64 := by kernel_rfl
theorem tUnd251 : Tryz.prog.underlying 251 = some (.int .i64) := by kernel_rfl
theorem tAgg259 : ba Tryz.prog 259 = some false := by kernel_rfl
theorem tSz259 : tSz Tryz.prog 259 = some 1 := by kernel_rfl
theorem oR : aV Tryz.prog 259 = some 4 := by kernel_rfl
theorem tf : aX Tryz.prog 259 = some [.int .u32 0] := by kernel_rfl
theorem tInt259 : ez Tryz.prog 259 = some .u32 := by kernel_rfl
theorem tUnd259 : Tryz.prog.underlying 259 = some (.int .u32) := by kernel_rfl
theorem tAgg261 : ba Tryz.prog 261 = some false := by kernel_rfl
theorem tSz261 : tSz Tryz.prog 261 = some 1 := by kernel_rfl
theorem oS : aV Tryz.prog 261 = some 8 := by kernel_rfl
theorem tg : aX Tryz.prog 261 = some [.int .u64 0] := by kernel_rfl
theorem tInt261 : ez Tryz.prog 261 = some .u64 := by kernel_rfl
theorem tUnd261 : Tryz.prog.underlying 261 = some (.int .u64) := by kernel_rfl
theorem tAgg269 : ba Tryz.prog 269 = some true := by kernel_rfl
theorem tSz269 : tSz Tryz.prog 269 = some 8 := by kernel_rfl
theorem oT : aV Tryz.prog 269 = some 64 := by kernel_rfl
theorem th : aX Tryz.prog 269 = some [.int .i64 0, .int .i64 0, .int .i64 0, .int .i64 0, .int .i64 0, .int .i64 0, .int .i64 0, .int .i64 0] := by kernel_rfl
theorem tIdx269 : tIdx Tryz.prog 269 = some (some 4, 90) := by kernel_rfl
theorem lh : bp Tryz.prog 269 = some [(0, 2), (2, 2), (4, 2), (6, 2)] := by kernel_rfl
theorem tAgg273 : ba Tryz.prog 273 = some false := by kernel_rfl
theorem tSz273 : tSz Tryz.prog 273 = some 1 := by kernel_rfl
theorem oU : aV Tryz.prog 273 = some 8 := by kernel_rfl
theorem tj : aX Tryz.prog 273 = some [.int .u64 0] := by kernel_rfl
theorem tInt273 : ez Tryz.prog 273 = some .u64 := by kernel_rfl
theorem tUnd273 : Tryz.prog.underlying 273 = some (.int .u64) := by kernel_rfl
theorem tAgg277 : ba Tryz.prog 277 = some false := by kernel_rfl
theorem tSz277 : tSz Tryz.prog 277 = some 1 := by kernel_rfl
theorem oV : aV Tryz.prog 277 = some 8 := by kernel_rfl
theorem tk : aX Tryz.prog 277 = some [.ptr none] := by kernel_rfl
theorem oW : eR Tryz.prog 277 = true := by kernel_rfl
theorem tAgg282 : ba Tryz.prog 282 = some false := by kernel_rfl
theorem tSz282 : tSz Tryz.prog 282 = some 1 := by kernel_rfl
theorem oX : aV Tryz.prog 282 = some 8 := by kernel_rfl
theorem tl : aX Tryz.prog 282 = some [.ptr none] := by kernel_rfl
theorem oY : eR Tryz.prog 282 = true := by kernel_rfl
theorem tAgg284 : ba Tryz.prog 284 = some false := by kernel_rfl
theorem tSz284 : tSz Tryz.prog 284 = some 1 := by kernel_rfl
theorem oZ : aV Tryz.prog 284 = some 8 := by kernel_rfl
theorem tm : aX Tryz.prog 284 = some [.ptr none] := by kernel_rfl
theorem o0 : eR Tryz.prog 284 = true := by kernel_rfl
theorem tAgg299 : ba Tryz.prog 299 = some true := by kernel_rfl
theorem tSz299 : tSz Tryz.prog 299 = some 11 := by kernel_rfl
theorem o6 : aV Tryz.prog 299 = some 48 := by kernel_rfl
theorem tn : aX Tryz.prog 299 = some [.int .u64 0, .int .u64 0, .int .u32 0, .int .u8 0, .int .u8 0, .int .u8 0, .int .u8 0, .nilfn, .ptr none, .int .i32 0, .int .i32 0] := by kernel_rfl
theorem li : bp Tryz.prog 299 = some [(0, 1), (1, 1), (2, 1), (3, 1), (4, 1), (5, 1), (6, 1), (7, 1), (8, 1), (9, 1), (10, 1)] := by kernel_rfl
theorem o7 : aQ Tryz.prog 299 0 = some (0, 12) := by kernel_rfl
theorem o8 : aQ Tryz.prog 299 1 = some (1, 12) := by kernel_rfl
theorem o9 : aQ Tryz.prog 299 2 = some (2, 259) := by kernel_rfl
theorem pd : aQ Tryz.prog 299 3 = some (3, 294) := by kernel_rfl
theorem pe : aQ Tryz.prog 299 4 = some (4, 5) := by kernel_rfl
theorem pf : aQ Tryz.prog 299 5 = some (5, 5) := by kernel_rfl
theorem pg : aQ Tryz.prog 299 6 = some (6, 295) := by kernel_rfl
theorem ph : aQ Tryz.prog 299 7 = some (7, 296) := by kernel_rfl
theorem pi : aQ Tryz.prog 299 8 = some (8, 150) := by kernel_rfl
theorem pj : aQ Tryz.prog 299 9 = some (9, 297) := by kernel_rfl
theorem lj : aQ Tryz.prog 299 10 = some (10, 298) := by kernel_rfl
theorem pk : Tryz.prog.eqGuardType Tryz.prog.depth 299 = false := by kernel_rfl
theorem tyset0 : type_of% (aiX @tAgg2 <| aiX @tSz2 <| aiX @tBytes2 <| aiX @tZero2 <| aiX @tInt2 <| aiX @tUnd2 <| aiX @tAgg3 <| aiX @tSz3 <| aiX @tBytes3 <| aiX @tZero3 <| aiX @tInt3 <| aiX @tUnd3 <| aiX @tAgg4 <| aiX @tSz4 <| aiX @tBytes4 <| aiX @tZero4 <| aiX @qg <| aiX @tAgg5 <| aiX @tSz5 <| aiX @tBytes5 <| aiX @tZero5 <| aiX @tInt5 <| aiX @tUnd5 <| (@tAgg7)) :=
 aiX @tAgg2 <| aiX @tSz2 <| aiX @tBytes2 <| aiX @tZero2 <| aiX @tInt2 <| aiX @tUnd2 <| aiX @tAgg3 <| aiX @tSz3 <| aiX @tBytes3 <| aiX @tZero3 <| aiX @tInt3 <| aiX @tUnd3 <| aiX @tAgg4 <| aiX @tSz4 <| aiX @tBytes4 <| aiX @tZero4 <| aiX @qg <| aiX @tAgg5 <| aiX @tSz5 <| aiX @tBytes5 <| aiX @tZero5 <| aiX @tInt5 <| aiX @tUnd5 <| (@tAgg7)
theorem tyset1 : type_of% (aiX @tSz7 <| aiX @tBytes7 <| aiX @tZero7 <| aiX @qh <| aiX @tFld7_0 <| aiX @tFld7_1 <| aiX @tFld7_2 <| aiX @tFld7_3 <| aiX @tGuard7 <| aiX @tAgg9 <| aiX @tSz9 <| aiX @tBytes9 <| aiX @tZero9 <| aiX @tAgg12 <| aiX @tSz12 <| aiX @qi <| aiX @tZero12 <| aiX @tInt12 <| (@tUnd12)) :=
 aiX @tSz7 <| aiX @tBytes7 <| aiX @tZero7 <| aiX @qh <| aiX @tFld7_0 <| aiX @tFld7_1 <| aiX @tFld7_2 <| aiX @tFld7_3 <| aiX @tGuard7 <| aiX @tAgg9 <| aiX @tSz9 <| aiX @tBytes9 <| aiX @tZero9 <| aiX @tAgg12 <| aiX @tSz12 <| aiX @qi <| aiX @tZero12 <| aiX @tInt12 <| (@tUnd12)
theorem tyset2 : type_of% (aiX @tAgg17 <| aiX @tSz17 <| aiX @qj <| aiX @tZero17 <| aiX @qk <| aiX @tAgg18 <| aiX @tSz18 <| aiX @ql <| aiX @tZero18 <| aiX @mB <| aiX @qm <| aiX @qn <| aiX @tAgg21 <| aiX @tSz21 <| aiX @qo <| aiX @tZero21 <| aiX @tInt21 <| aiX @tUnd21 <| aiX @tAgg22 <| aiX @tSz22 <| (@qp)) :=
 aiX @tAgg17 <| aiX @tSz17 <| aiX @qj <| aiX @tZero17 <| aiX @qk <| aiX @tAgg18 <| aiX @tSz18 <| aiX @ql <| aiX @tZero18 <| aiX @mB <| aiX @qm <| aiX @qn <| aiX @tAgg21 <| aiX @tSz21 <| aiX @qo <| aiX @tZero21 <| aiX @tInt21 <| aiX @tUnd21 <| aiX @tAgg22 <| aiX @tSz22 <| (@qp)
theorem tyset3 : type_of% (aiX @tZero22 <| aiX @lQ <| aiX @kL <| aiX @tAgg23 <| aiX @tSz23 <| aiX @qq <| aiX @tZero23 <| aiX @mC <| aiX @qr <| aiX @qs <| aiX @qt <| aiX @qu <| aiX @tAgg24 <| aiX @tSz24 <| aiX @qv <| aiX @tZero24 <| aiX @mD <| aiX @qw <| aiX @qx <| aiX @qy <| aiX @qz <| aiX @tAgg25 <| aiX @tSz25 <| (@qA)) :=
 aiX @tZero22 <| aiX @lQ <| aiX @kL <| aiX @tAgg23 <| aiX @tSz23 <| aiX @qq <| aiX @tZero23 <| aiX @mC <| aiX @qr <| aiX @qs <| aiX @qt <| aiX @qu <| aiX @tAgg24 <| aiX @tSz24 <| aiX @qv <| aiX @tZero24 <| aiX @mD <| aiX @qw <| aiX @qx <| aiX @qy <| aiX @qz <| aiX @tAgg25 <| aiX @tSz25 <| (@qA)
theorem tyset4 : type_of% (aiX @tZero25 <| aiX @mE <| aiX @qB <| aiX @qC <| aiX @qD <| aiX @qE <| aiX @qF <| aiX @tEq25 <| aiX @tAgg26 <| aiX @tSz26 <| aiX @qG <| aiX @tZero26 <| aiX @mF <| aiX @qH <| aiX @qI <| aiX @qJ <| aiX @qK <| aiX @qL <| aiX @tEq26 <| aiX @tAgg27 <| aiX @tSz27 <| aiX @qM <| aiX @tZero27 <| (@mG)) :=
 aiX @tZero25 <| aiX @mE <| aiX @qB <| aiX @qC <| aiX @qD <| aiX @qE <| aiX @qF <| aiX @tEq25 <| aiX @tAgg26 <| aiX @tSz26 <| aiX @qG <| aiX @tZero26 <| aiX @mF <| aiX @qH <| aiX @qI <| aiX @qJ <| aiX @qK <| aiX @qL <| aiX @tEq26 <| aiX @tAgg27 <| aiX @tSz27 <| aiX @qM <| aiX @tZero27 <| (@mG)
theorem tyset5 : type_of% (aiX @qN <| aiX @qO <| aiX @qP <| aiX @qQ <| aiX @tEq27 <| aiX @tAgg28 <| aiX @tSz28 <| aiX @qR <| aiX @tZero28 <| aiX @mH <| aiX @qS <| aiX @qT <| aiX @qU <| aiX @qV <| (@tEq28)) :=
 aiX @qN <| aiX @qO <| aiX @qP <| aiX @qQ <| aiX @tEq27 <| aiX @tAgg28 <| aiX @tSz28 <| aiX @qR <| aiX @tZero28 <| aiX @mH <| aiX @qS <| aiX @qT <| aiX @qU <| aiX @qV <| (@tEq28)
theorem tyset6 : type_of% (aiX @tAgg31 <| aiX @tSz31 <| aiX @qW <| aiX @tZero31 <| aiX @tElem31 <| aiX @kM <| aiX @tAgg32 <| aiX @tSz32 <| aiX @qX <| aiX @tZero32 <| aiX @mI <| aiX @qY <| aiX @qZ <| (@rb)) :=
 aiX @tAgg31 <| aiX @tSz31 <| aiX @qW <| aiX @tZero31 <| aiX @tElem31 <| aiX @kM <| aiX @tAgg32 <| aiX @tSz32 <| aiX @qX <| aiX @tZero32 <| aiX @mI <| aiX @qY <| aiX @qZ <| (@rb)
theorem tyset7 : type_of% (aiX @tAgg41 <| aiX @tSz41 <| aiX @rc <| aiX @tZero41 <| aiX @rd <| aiX @tAgg42 <| aiX @tSz42 <| aiX @re <| aiX @tZero42 <| aiX @tInt42 <| (@tUnd42)) :=
 aiX @tAgg41 <| aiX @tSz41 <| aiX @rc <| aiX @tZero41 <| aiX @rd <| aiX @tAgg42 <| aiX @tSz42 <| aiX @re <| aiX @tZero42 <| aiX @tInt42 <| (@tUnd42)
theorem tyset8 : type_of% (aiX @tAgg46 <| aiX @tSz46 <| aiX @rf <| aiX @tZero46 <| aiX @mJ <| aiX @rg <| aiX @rh <| aiX @ri <| aiX @tEq46 <| aiX @tAgg47 <| aiX @tSz47 <| aiX @rj <| aiX @tZero47 <| aiX @mK <| aiX @rl <| aiX @rm <| aiX @rn <| aiX @tEq47 <| aiX @tAgg48 <| aiX @tSz48 <| aiX @ro <| aiX @tZero48 <| aiX @tElem48 <| (@kN)) :=
 aiX @tAgg46 <| aiX @tSz46 <| aiX @rf <| aiX @tZero46 <| aiX @mJ <| aiX @rg <| aiX @rh <| aiX @ri <| aiX @tEq46 <| aiX @tAgg47 <| aiX @tSz47 <| aiX @rj <| aiX @tZero47 <| aiX @mK <| aiX @rl <| aiX @rm <| aiX @rn <| aiX @tEq47 <| aiX @tAgg48 <| aiX @tSz48 <| aiX @ro <| aiX @tZero48 <| aiX @tElem48 <| (@kN)
theorem tyset9 : type_of% (aiX @tAgg49 <| aiX @tSz49 <| aiX @rp <| aiX @tZero49 <| aiX @mL <| aiX @rq <| aiX @rr <| aiX @rt <| aiX @ru <| aiX @rv <| aiX @tAgg50 <| aiX @tSz50 <| aiX @rx <| aiX @tZero50 <| aiX @mM <| aiX @ry <| aiX @rz <| aiX @rA <| aiX @rB <| (@rC)) :=
 aiX @tAgg49 <| aiX @tSz49 <| aiX @rp <| aiX @tZero49 <| aiX @mL <| aiX @rq <| aiX @rr <| aiX @rt <| aiX @ru <| aiX @rv <| aiX @tAgg50 <| aiX @tSz50 <| aiX @rx <| aiX @tZero50 <| aiX @mM <| aiX @ry <| aiX @rz <| aiX @rA <| aiX @rB <| (@rC)
theorem tyset10 : type_of% (aiX @tAgg61 <| aiX @tSz61 <| aiX @rD <| aiX @tZero61 <| aiX @tElem61 <| aiX @kO <| aiX @tAgg63 <| aiX @tSz63 <| aiX @rE <| aiX @tZero63 <| aiX @tElem63 <| (@kP)) :=
 aiX @tAgg61 <| aiX @tSz61 <| aiX @rD <| aiX @tZero61 <| aiX @tElem61 <| aiX @kO <| aiX @tAgg63 <| aiX @tSz63 <| aiX @rE <| aiX @tZero63 <| aiX @tElem63 <| (@kP)
theorem tyset11 : type_of% (aiX @tAgg64 <| aiX @tSz64 <| aiX @rF <| aiX @tZero64 <| aiX @tElem64 <| aiX @kQ <| aiX @tAgg72 <| aiX @tSz72 <| aiX @rG <| aiX @tZero72 <| aiX @mN <| aiX @rH <| aiX @rI <| aiX @rJ <| aiX @rK <| aiX @rL <| aiX @rM <| aiX @rN <| aiX @tEq72 <| aiX @tAgg73 <| aiX @tSz73 <| aiX @rO <| aiX @tZero73 <| (@mO)) :=
 aiX @tAgg64 <| aiX @tSz64 <| aiX @rF <| aiX @tZero64 <| aiX @tElem64 <| aiX @kQ <| aiX @tAgg72 <| aiX @tSz72 <| aiX @rG <| aiX @tZero72 <| aiX @mN <| aiX @rH <| aiX @rI <| aiX @rJ <| aiX @rK <| aiX @rL <| aiX @rM <| aiX @rN <| aiX @tEq72 <| aiX @tAgg73 <| aiX @tSz73 <| aiX @rO <| aiX @tZero73 <| (@mO)
theorem tyset12 : type_of% (aiX @rP <| aiX @rQ <| aiX @rR <| aiX @rS <| aiX @rT <| aiX @rU <| aiX @rV <| aiX @tEq73 <| aiX @tAgg74 <| aiX @tSz74 <| aiX @rW <| aiX @tZero74 <| aiX @mP <| aiX @rX <| aiX @rY <| aiX @rZ <| aiX @tEq74 <| aiX @tAgg75 <| aiX @tSz75 <| aiX @r7 <| aiX @tZero75 <| aiX @mQ <| aiX @r8 <| (@sa)) :=
 aiX @rP <| aiX @rQ <| aiX @rR <| aiX @rS <| aiX @rT <| aiX @rU <| aiX @rV <| aiX @tEq73 <| aiX @tAgg74 <| aiX @tSz74 <| aiX @rW <| aiX @tZero74 <| aiX @mP <| aiX @rX <| aiX @rY <| aiX @rZ <| aiX @tEq74 <| aiX @tAgg75 <| aiX @tSz75 <| aiX @r7 <| aiX @tZero75 <| aiX @mQ <| aiX @r8 <| (@sa)
theorem tyset13 : type_of% (aiX @sb <| aiX @tEq75 <| aiX @tAgg84 <| aiX @tSz84 <| aiX @sd <| aiX @tZero84 <| aiX @mR <| aiX @se <| aiX @sf <| aiX @sg <| aiX @sh <| aiX @si <| aiX @tAgg85 <| aiX @tSz85 <| aiX @sj <| aiX @tZero85 <| aiX @mS <| aiX @sk <| aiX @sm <| aiX @sn <| aiX @so <| aiX @sq <| aiX @tAgg89 <| (@tSz89)) :=
 aiX @sb <| aiX @tEq75 <| aiX @tAgg84 <| aiX @tSz84 <| aiX @sd <| aiX @tZero84 <| aiX @mR <| aiX @se <| aiX @sf <| aiX @sg <| aiX @sh <| aiX @si <| aiX @tAgg85 <| aiX @tSz85 <| aiX @sj <| aiX @tZero85 <| aiX @mS <| aiX @sk <| aiX @sm <| aiX @sn <| aiX @so <| aiX @sq <| aiX @tAgg89 <| (@tSz89)
theorem tyset14 : type_of% (aiX @sr <| aiX @tZero89 <| aiX @mT <| aiX @ss <| aiX @su <| aiX @sw <| aiX @tEq89 <| aiX @tAgg90 <| aiX @tSz90 <| aiX @sx <| aiX @tZero90 <| aiX @mU <| aiX @sy <| aiX @sA <| aiX @sB <| aiX @tEq90 <| aiX @tAgg100 <| aiX @tSz100 <| aiX @mV <| aiX @sC <| aiX @kR <| aiX @mW <| aiX @mX <| (@mY)) :=
 aiX @sr <| aiX @tZero89 <| aiX @mT <| aiX @ss <| aiX @su <| aiX @sw <| aiX @tEq89 <| aiX @tAgg90 <| aiX @tSz90 <| aiX @sx <| aiX @tZero90 <| aiX @mU <| aiX @sy <| aiX @sA <| aiX @sB <| aiX @tEq90 <| aiX @tAgg100 <| aiX @tSz100 <| aiX @mV <| aiX @sC <| aiX @kR <| aiX @mW <| aiX @mX <| (@mY)
theorem tyset15 : type_of% (aiX @mZ <| aiX @m6 <| aiX @tEq100 <| aiX @tAgg101 <| aiX @tSz101 <| aiX @m7 <| aiX @sD <| aiX @kS <| aiX @m8 <| aiX @m9 <| aiX @na <| aiX @nb <| aiX @nd <| aiX @tEq101 <| aiX @tAgg102 <| aiX @tSz102 <| aiX @ne <| aiX @sE <| aiX @sF <| aiX @jL <| aiX @tAgg103 <| aiX @tSz103 <| aiX @ng <| (@sG)) :=
 aiX @mZ <| aiX @m6 <| aiX @tEq100 <| aiX @tAgg101 <| aiX @tSz101 <| aiX @m7 <| aiX @sD <| aiX @kS <| aiX @m8 <| aiX @m9 <| aiX @na <| aiX @nb <| aiX @nd <| aiX @tEq101 <| aiX @tAgg102 <| aiX @tSz102 <| aiX @ne <| aiX @sE <| aiX @sF <| aiX @jL <| aiX @tAgg103 <| aiX @tSz103 <| aiX @ng <| (@sG)
theorem tyset16 : type_of% (aiX @kT <| aiX @nh <| aiX @ni <| aiX @nj <| aiX @nk <| aiX @nl <| aiX @tAgg104 <| aiX @tSz104 <| aiX @nm <| aiX @sH <| aiX @kU <| aiX @nn <| aiX @no <| aiX @np <| aiX @nq <| aiX @nr <| aiX @tAgg116 <| aiX @tSz116 <| (@nt)) :=
 aiX @kT <| aiX @nh <| aiX @ni <| aiX @nj <| aiX @nk <| aiX @nl <| aiX @tAgg104 <| aiX @tSz104 <| aiX @nm <| aiX @sH <| aiX @kU <| aiX @nn <| aiX @no <| aiX @np <| aiX @nq <| aiX @nr <| aiX @tAgg116 <| aiX @tSz116 <| (@nt)
theorem tyset17 : type_of% (aiX @sI <| aiX @kV <| aiX @nu <| aiX @nv <| aiX @nw <| aiX @tEq116 <| aiX @tAgg117 <| aiX @tSz117 <| aiX @ny <| aiX @sJ <| aiX @kW <| aiX @nz <| aiX @nA <| aiX @nB <| aiX @tEq117 <| aiX @tAgg127 <| aiX @tSz127 <| aiX @nC <| aiX @sK <| aiX @kX <| aiX @nD <| aiX @nE <| aiX @nF <| (@nG)) :=
 aiX @sI <| aiX @kV <| aiX @nu <| aiX @nv <| aiX @nw <| aiX @tEq116 <| aiX @tAgg117 <| aiX @tSz117 <| aiX @ny <| aiX @sJ <| aiX @kW <| aiX @nz <| aiX @nA <| aiX @nB <| aiX @tEq117 <| aiX @tAgg127 <| aiX @tSz127 <| aiX @nC <| aiX @sK <| aiX @kX <| aiX @nD <| aiX @nE <| aiX @nF <| (@nG)
theorem tyset18 : type_of% (aiX @tEq127 <| aiX @tAgg128 <| aiX @tSz128 <| aiX @nH <| aiX @sL <| aiX @kY <| aiX @nI <| aiX @nJ <| aiX @nK <| aiX @nL <| aiX @tEq128 <| aiX @tAgg132 <| aiX @tSz132 <| aiX @nM <| aiX @sM <| aiX @kZ <| aiX @nN <| aiX @nO <| aiX @nP <| aiX @tEq132 <| aiX @tAgg133 <| aiX @tSz133 <| aiX @nQ <| (@sN)) :=
 aiX @tEq127 <| aiX @tAgg128 <| aiX @tSz128 <| aiX @nH <| aiX @sL <| aiX @kY <| aiX @nI <| aiX @nJ <| aiX @nK <| aiX @nL <| aiX @tEq128 <| aiX @tAgg132 <| aiX @tSz132 <| aiX @nM <| aiX @sM <| aiX @kZ <| aiX @nN <| aiX @nO <| aiX @nP <| aiX @tEq132 <| aiX @tAgg133 <| aiX @tSz133 <| aiX @nQ <| (@sN)
theorem tyset19 : type_of% (aiX @k6 <| aiX @nR <| aiX @nS <| aiX @nT <| aiX @tEq133 <| aiX @tAgg147 <| aiX @tSz147 <| aiX @nU <| aiX @sO <| aiX @sP <| aiX @jM <| aiX @tAgg149 <| aiX @tSz149 <| aiX @nV <| aiX @sQ <| aiX @k7 <| aiX @nW <| aiX @nX <| aiX @nY <| aiX @tEq149 <| aiX @tAgg150 <| aiX @tSz150 <| aiX @nZ <| (@sR)) :=
 aiX @k6 <| aiX @nR <| aiX @nS <| aiX @nT <| aiX @tEq133 <| aiX @tAgg147 <| aiX @tSz147 <| aiX @nU <| aiX @sO <| aiX @sP <| aiX @jM <| aiX @tAgg149 <| aiX @tSz149 <| aiX @nV <| aiX @sQ <| aiX @k7 <| aiX @nW <| aiX @nX <| aiX @nY <| aiX @tEq149 <| aiX @tAgg150 <| aiX @tSz150 <| aiX @nZ <| (@sR)
theorem tyset20 : type_of% (aiX @n0 <| (@tAgg176)) :=
 aiX @n0 <| (@tAgg176)
theorem tyset21 : type_of% (aiX @tSz176 <| aiX @n7 <| aiX @sS <| aiX @k8 <| aiX @n8 <| aiX @n9 <| aiX @oa <| aiX @ob <| aiX @oc <| aiX @tEq176 <| aiX @tAgg177 <| aiX @tSz177 <| aiX @od <| aiX @sT <| aiX @k9 <| aiX @oe <| aiX @og <| aiX @oh <| aiX @oi <| aiX @oj <| aiX @tEq177 <| aiX @tAgg188 <| aiX @tSz188 <| (@ol)) :=
 aiX @tSz176 <| aiX @n7 <| aiX @sS <| aiX @k8 <| aiX @n8 <| aiX @n9 <| aiX @oa <| aiX @ob <| aiX @oc <| aiX @tEq176 <| aiX @tAgg177 <| aiX @tSz177 <| aiX @od <| aiX @sT <| aiX @k9 <| aiX @oe <| aiX @og <| aiX @oh <| aiX @oi <| aiX @oj <| aiX @tEq177 <| aiX @tAgg188 <| aiX @tSz188 <| (@ol)
theorem tyset22 : type_of% (aiX @sU <| aiX @sV <| aiX @jN <| aiX @tAgg190 <| aiX @tSz190 <| aiX @om <| aiX @sW <| aiX @la <| aiX @ot <| aiX @ou <| aiX @ov <| aiX @tEq190 <| aiX @tAgg191 <| aiX @tSz191 <| aiX @oA <| aiX @sX <| aiX @lb <| aiX @oB <| aiX @oC <| aiX @oD <| aiX @tEq191 <| aiX @tAgg212 <| aiX @tSz212 <| (@oE)) :=
 aiX @sU <| aiX @sV <| aiX @jN <| aiX @tAgg190 <| aiX @tSz190 <| aiX @om <| aiX @sW <| aiX @la <| aiX @ot <| aiX @ou <| aiX @ov <| aiX @tEq190 <| aiX @tAgg191 <| aiX @tSz191 <| aiX @oA <| aiX @sX <| aiX @lb <| aiX @oB <| aiX @oC <| aiX @oD <| aiX @tEq191 <| aiX @tAgg212 <| aiX @tSz212 <| (@oE)
theorem tyset23 : type_of% (aiX @sY <| aiX @tIdx212 <| aiX @lc <| aiX @tAgg223 <| aiX @tSz223 <| aiX @oF <| aiX @sZ <| aiX @s6 <| aiX @jO <| aiX @tAgg230 <| aiX @tSz230 <| aiX @oG <| aiX @s7 <| aiX @tInt230 <| aiX @tUnd230 <| aiX @tAgg239 <| aiX @tSz239 <| aiX @oH <| aiX @s8 <| aiX @ld <| aiX @oI <| aiX @oJ <| aiX @oK <| (@tEq239)) :=
 aiX @sY <| aiX @tIdx212 <| aiX @lc <| aiX @tAgg223 <| aiX @tSz223 <| aiX @oF <| aiX @sZ <| aiX @s6 <| aiX @jO <| aiX @tAgg230 <| aiX @tSz230 <| aiX @oG <| aiX @s7 <| aiX @tInt230 <| aiX @tUnd230 <| aiX @tAgg239 <| aiX @tSz239 <| aiX @oH <| aiX @s8 <| aiX @ld <| aiX @oI <| aiX @oJ <| aiX @oK <| (@tEq239)
theorem tyset24 : type_of% (aiX @tAgg240 <| aiX @tSz240 <| aiX @oL <| aiX @s9 <| aiX @lf <| aiX @oM <| aiX @oN <| aiX @oO <| aiX @tEq240 <| aiX @tAgg245 <| aiX @tSz245 <| aiX @oP <| aiX @ta <| aiX @tIdx245 <| aiX @lg <| aiX @tAgg251 <| aiX @tSz251 <| aiX @oQ <| aiX @tc <| aiX @tInt251 <| aiX @tUnd251 <| aiX @tAgg259 <| aiX @tSz259 <| (@oR)) :=
 aiX @tAgg240 <| aiX @tSz240 <| aiX @oL <| aiX @s9 <| aiX @lf <| aiX @oM <| aiX @oN <| aiX @oO <| aiX @tEq240 <| aiX @tAgg245 <| aiX @tSz245 <| aiX @oP <| aiX @ta <| aiX @tIdx245 <| aiX @lg <| aiX @tAgg251 <| aiX @tSz251 <| aiX @oQ <| aiX @tc <| aiX @tInt251 <| aiX @tUnd251 <| aiX @tAgg259 <| aiX @tSz259 <| (@oR)
theorem tyset25 : type_of% (aiX @tf <| aiX @tInt259 <| aiX @tUnd259 <| aiX @tAgg261 <| aiX @tSz261 <| aiX @oS <| aiX @tg <| aiX @tInt261 <| aiX @tUnd261 <| aiX @tAgg269 <| aiX @tSz269 <| aiX @oT <| aiX @th <| aiX @tIdx269 <| aiX @lh <| aiX @tAgg273 <| aiX @tSz273 <| aiX @oU <| aiX @tj <| aiX @tInt273 <| aiX @tUnd273 <| aiX @tAgg277 <| aiX @tSz277 <| (@oV)) :=
 aiX @tf <| aiX @tInt259 <| aiX @tUnd259 <| aiX @tAgg261 <| aiX @tSz261 <| aiX @oS <| aiX @tg <| aiX @tInt261 <| aiX @tUnd261 <| aiX @tAgg269 <| aiX @tSz269 <| aiX @oT <| aiX @th <| aiX @tIdx269 <| aiX @lh <| aiX @tAgg273 <| aiX @tSz273 <| aiX @oU <| aiX @tj <| aiX @tInt273 <| aiX @tUnd273 <| aiX @tAgg277 <| aiX @tSz277 <| (@oV)
theorem tyset26 : type_of% (aiX @tk <| aiX @oW <| aiX @tAgg282 <| aiX @tSz282 <| aiX @oX <| aiX @tl <| aiX @oY <| aiX @tAgg284 <| aiX @tSz284 <| aiX @oZ <| aiX @tm <| aiX @o0 <| aiX @tAgg299 <| (@tSz299)) :=
 aiX @tk <| aiX @oW <| aiX @tAgg282 <| aiX @tSz282 <| aiX @oX <| aiX @tl <| aiX @oY <| aiX @tAgg284 <| aiX @tSz284 <| aiX @oZ <| aiX @tm <| aiX @o0 <| aiX @tAgg299 <| (@tSz299)
theorem tyset27 : type_of% (aiX @o6 <| aiX @tn <| aiX @li <| aiX @o7 <| aiX @o8 <| aiX @o9 <| aiX @pd <| aiX @pe <| aiX @pf <| aiX @pg <| aiX @ph <| aiX @pi <| aiX @pj <| aiX @lj <| (@pk)) :=
 aiX @o6 <| aiX @tn <| aiX @li <| aiX @o7 <| aiX @o8 <| aiX @o9 <| aiX @pd <| aiX @pe <| aiX @pf <| aiX @pg <| aiX @ph <| aiX @pi <| aiX @pj <| aiX @lj <| (@pk)
theorem ay : type_of% (aiX @tyset0 <| aiX @tyset1 <| aiX @tyset2 <| aiX @tyset3 <| aiX @tyset4 <| aiX @tyset5 <| aiX @tyset6 <| aiX @tyset7 <| aiX @tyset8 <| aiX @tyset9 <| aiX @tyset10 <| aiX @tyset11 <| aiX @tyset12 <| aiX @tyset13 <| aiX @tyset14 <| aiX @tyset15 <| aiX @tyset16 <| aiX @tyset17 <| aiX @tyset18 <| aiX @tyset19 <| aiX @tyset20 <| aiX @tyset21 <| aiX @tyset22 <| aiX @tyset23 <| aiX @tyset24 <| aiX @tyset25 <| aiX @tyset26 <| (@tyset27)) :=
 aiX @tyset0 <| aiX @tyset1 <| aiX @tyset2 <| aiX @tyset3 <| aiX @tyset4 <| aiX @tyset5 <| aiX @tyset6 <| aiX @tyset7 <| aiX @tyset8 <| aiX @tyset9 <| aiX @tyset10 <| aiX @tyset11 <| aiX @tyset12 <| aiX @tyset13 <| aiX @tyset14 <| aiX @tyset15 <| aiX @tyset16 <| aiX @tyset17 <| aiX @tyset18 <| aiX @tyset19 <| aiX @tyset20 <| aiX @tyset21 <| aiX @tyset22 <| aiX @tyset23 <| aiX @tyset24 <| aiX @tyset25 <| aiX @tyset26 <| (@tyset27)

open Go.RowKit
theorem own : ownKnob Tryz.prog.godebug = none := by kernel_rfl
theorem jh : laidOutB Tryz.prog = true := by kernel_rfl
open Go.RowKit
def Sl (H : ac) (sz : Nat) (s : AV) (n : Nat) (xs : List AV) : Prop := ∃ b own cap, s = .sl (some (b, 0)) n cap ∧ H[b]? = some (.cells own sz xs)
theorem Sl.app {H : ac} {sz n : Nat} {s : AV} {xs : List AV} (h : Sl H sz s n xs) (l : ac) : Sl (H ++ l) sz s n xs := by
 obtain ⟨b, own, cap, h1, h2⟩ := h
 exact ⟨b, own, cap, h1, aD h2⟩
abbrev SlP (H : ac) (s : AV) (l : List (Int × Int)) : Prop := Sl H 2 s l.length (prs l)
abbrev SlI (H : ac) (k : IntKind) (s : AV) (l : List Int) : Prop := Sl H 1 s l.length (ints k l)
def bA (n : Nat) : Option Nat := match n with | 0 => some 0 | _ + 1 => none
def bm (n : Nat) : Bool := match n with | 0 => false | _ + 1 => true
theorem lk : bA 0 = some 0 := rfl
theorem ll : bm 0 = false := rfl
theorem dI {n : Nat} : bA (n + 1) = none := rfl
theorem ownG_s {n : Nat} : bm (n + 1) = true := rfl
theorem iQ {n : Nat} (h : 0 < n) : bA n = none := by cases n <;> first | rfl | omega
theorem dJ {n : Nat} (h : 0 < n) : bm n = true := by cases n <;> first | rfl | omega
theorem ar {P : Program} {t : TypeId} {n : Nat} {c : Option Nat} {x : AV} {H : ac} : aH P t (.sl none n c) x H = (ck P t).bind fun e => (tSz P e).bind fun sz => (aV P e).bind fun by_ => (aX P e).bind fun z => (aElems sz x H).bind fun mx =>
  (bx (z.length = sz ∧ 0 < sz ∧ 0 < by_)).bind fun _ => (bx (n = 0)).bind fun _ => bif mx.1 == 0 then some (.sl none 0 (some 0), H) else (bx (mx.1 * by_ ≤ 140737488355328)).map fun _ => (.sl (some (H.length, 0)) mx.1 none, H ++ [.cells true sz mx.2]) := rfl
theorem ak {P : Program} {t : TypeId} {b o n : Nat} {x : AV} {H : ac} : aH P t (.sl (some (b, o)) n none) x H = (ck P t).bind fun e => (tSz P e).bind fun sz => (aV P e).bind fun by_ => (aX P e).bind fun z => (aElems sz x H).bind fun mx =>
  (bx (z.length = sz ∧ 0 < sz ∧ 0 < by_)).bind fun _ => (ards H b o (n * sz)).bind fun olds => (bx ((n + mx.1) * by_ ≤ 140737488355328)).bind fun _ =>
   bif n + mx.1 == 0 then some (.sl (some (b, o)) 0 none, H)
   else match H[b]? with
    | some (.cells true es _) => (bx (es = sz)).map fun _ => (.sl (some (H.length, 0)) (n + mx.1) none, H.set b .dead ++ [.cells true sz (olds ++ mx.2)])
    | _ => none := rfl
theorem al {P : Program} {t : TypeId} {b o n c : Nat} {x : AV} {H : ac} : aH P t (.sl (some (b, o)) n (some c)) x H = (ck P t).bind fun e => (tSz P e).bind fun sz => (aV P e).bind fun by_ => (aX P e).bind fun z => (aElems sz x H).bind fun mx =>
  (bx (z.length = sz ∧ 0 < sz ∧ 0 < by_)).bind fun _ => (ards H b o (n * sz)).bind fun olds => (bx ((n + mx.1) * by_ ≤ 140737488355328)).bind fun _ =>
   bif n + mx.1 == 0 then some (.sl (some (b, o)) 0 (some c), H)
   else bif decide (c < n + mx.1) then some (.sl (some (H.length, 0)) (n + mx.1) none, H ++ [.cells true sz (olds ++ mx.2)])
   else match H[b]? with
    | some (.cells true es _) => (bx (es = sz)).map fun _ => (.sl (some (H.length, 0)) (n + mx.1) none, H.set b .dead ++ [.cells true sz (olds ++ mx.2)])
    | _ => none := rfl
def killG (n : Nat) (X : ABlk) : ABlk := match n with | 0 => X | _ + 1 => .dead
theorem uq {P : Program} {t : TypeId} {b n : Nat} {x : AV} {H : ac} : aH P t (.sl (some (b, 0)) n (bA n)) x H = (ck P t).bind fun e => (tSz P e).bind fun sz => (aV P e).bind fun by_ => (aX P e).bind fun z => (aElems sz x H).bind fun mx =>
  (bx (z.length = sz ∧ 0 < sz ∧ 0 < by_)).bind fun _ => match H[b]? with
   | some (.cells own es xs) => bif (own == bm n) && (decide (es = sz) && (decide (xs.length = n * sz) && (decide (0 < mx.1) && xs.all AV.one))) then
     (bx ((n + mx.1) * by_ ≤ 140737488355328)).map fun _ => (.sl (some (H.length, 0)) (n + mx.1) none, H.set b (killG n (.cells own es xs)) ++ [.cells true sz (xs ++ mx.2)])
    else aH P t (.sl (some (b, 0)) n (bA n)) x H
   | _ => aH P t (.sl (some (b, 0)) n (bA n)) x H := by
 cases h1 : ck P t with
 | none => simp [aH, h1]
 | some e =>
 cases h2 : tSz P e with
 | none => simp [aH, h1, h2]
 | some sz =>
 cases h3 : aV P e with
 | none => simp [aH, h1, h2, h3]
 | some by_ =>
 cases h4 : aX P e with
 | none => simp [aH, h1, h2, h3, h4]
 | some z =>
 cases h5 : aElems sz x H with
 | none => simp [aH, h1, h2, h3, h4, h5]
 | some mx =>
 simp only [Option.bind_some, h2, h3, h4, h5]
 by_cases hz : z.length = sz ∧ 0 < sz ∧ 0 < by_
 ·have hn : bx (z.length = sz ∧ 0 < sz ∧ 0 < by_) = some () := if_pos hz
  rw [hn, Option.bind_some]
  split
  ·rename_i own es xs hb
   cases hc : (own == bm n) && (decide (es = sz) && (decide (xs.length = n * sz) && (decide (0 < mx.1) && xs.all AV.one))) with
   | false => rfl
   | true =>
    rw [cond_true]
    simp only [Bool.and_eq_true, beq_iff_eq, decide_eq_true_eq] at hc
    obtain ⟨rfl, rfl, hl, hm, ho⟩ := hc
    have hard : ards H b 0 (n * es) = some xs := by
     unfold ards
     rw [hb]
     simp only
     rw [List.drop_zero, List.take_of_length_le (by omega)]
     simp [hl, ho]
    cases n with
    | zero =>
     simp only [aH, h1, h2, h3, h4, h5, Option.bind_some, hn, hard, bA, killG]
     have e0 : (0 + mx.1 == 0) = false := beq_eq_false_iff_ne.2 (by omega)
     rw [e0, cond_false, decide_eq_true (by omega : (0 : Nat) < 0 + mx.1), cond_true]
     have hs : H.set b (.cells (bm 0) es xs) = H := by
      refine List.ext_getElem? fun i => ?_
      rw [List.getElem?_set]
      split
      ·rename_i e; subst e
       split
       ·rw [hb]
       ·rename_i hh; exact absurd (getElem?_lt hb) hh
      ·rfl
     rw [hs]
     unfold bx
     split <;> rfl
    | succ n =>
     simp only [aH, h1, h2, h3, h4, h5, Option.bind_some, hn, hard, bA, killG, hb, bm]
     have e0 : (n + 1 + mx.1 == 0) = false := beq_eq_false_iff_ne.2 (by omega)
     rw [e0, cond_false, cond_false]
     have e1 : bx True = some () := if_pos trivial
     rw [e1]
     unfold bx
     split <;> rfl
  ·rfl
 ·have hn : bx (z.length = sz ∧ 0 < sz ∧ 0 < by_) = none := if_neg hz
  simp only [aH, h1, h2, h3, h4, h5, Option.bind_some, hn, Option.bind_none]
theorem cD {l : List (Int × Int)} : (prs l).all AV.one = true := by
 induction l with
 | nil => rfl
 | cons p l ih => rw [cz]; simp [AV.one, ih]
theorem aJ {k : IntKind} {l : List Int} : (ints k l).all AV.one = true := by simp [ints, AV.one]
section
variable {P : Program} {f : FuncId} {args : List AV} {H l1 : ac} {x : AV}
end
section
variable {P : Program} {f : FuncId} {H : ac}
end
theorem Abs.byN {H0 l1 : ac} {F1 F2 : Fr} (hsc : HBel H0.length H0) (h : er (H0.length + l1.length) (sig H0.length l1.length []) F1 F2) : Abs H0.length (sig H0.length l1.length []) F1 (H0 ++ l1) F2 H0 := by
 have := Abs.by (l1 := l1) (l2 := []) (F1 := F1) (F2 := F2) hsc [] (by simp) ⟨h, trivial⟩
 simpa using this
theorem ji {P : Program} {fn : Func} {H l2 : ac} {R : AV → ac → Prop} {F : Fr} {e : Exit} (he : e = .ret ∨ e = .normal) (hbel : HBel H.length H) {x1 : AV} (x2 : AV) (hx : cN P fn F H = some x1) (G : ac) (hG : G.all fw = true) (sel : List Nat) (hnd : sel.Nodup) (hR : R x2 (H ++ l2))
  (h : W (H.length + G.length) x1 (x2.mv (sig H.length G.length sel)) ∧ eD (H.length + G.length) (sig H.length G.length sel) G sel l2) : dp P fn H.length R e F H := by
 have h1 := br (P := P) (fn := fn) (l1 := []) (l2 := l2) (R := R) (F := F) he hbel x2 (by simpa using hx) G hG sel hnd hR h
 simpa using h1
theorem tp {k : IntKind} {l m : List Int} : ints k (l ++ m) = ints k l ++ ints k m := by simp [ints]
theorem pm {k : IntKind} {x : Int} {l : List Int} : ints k (x :: l) = .int k x :: ints k l := rfl
theorem tq {k : IntKind} : ints k [] = [] := rfl
theorem pn {l m : List Bool} : dB (l ++ m) = dB l ++ dB m := by simp [dB]
theorem lm {x : Bool} {l : List Bool} : dB (x :: l) = .bool x :: dB l := rfl
theorem pq : dB [] = [] := rfl
set_option linter.unusedSimpArgs false
set_option linter.unusedVariables false
open Go.RowKit
def tr (P : Program) (t : TypeId) (s x : AV) (H : ac) : Option (AV × ac) := aH P t s x H
theorem au {P : Program} {t : TypeId} {b n : Nat} {x : AV} {H : ac} : aH P t (.sl (some (b, 0)) n (bA n)) x H = (ck P t).bind fun e => (tSz P e).bind fun sz => (aV P e).bind fun by_ => (aX P e).bind fun z => (aElems sz x H).bind fun mx =>
  (bx (z.length = sz ∧ 0 < sz ∧ 0 < by_)).bind fun _ => match H[b]? with
   | some (.cells own es xs) => bif (own == bm n) && (decide (es = sz) && (decide (xs.length = n * sz) && (decide (0 < mx.1) && xs.all AV.one))) then
     (bx ((n + mx.1) * by_ ≤ 140737488355328)).map fun _ => (.sl (some (H.length, 0)) (n + mx.1) none, H.set b (killG n (.cells own es xs)) ++ [.cells true sz (xs ++ mx.2)])
    else tr P t (.sl (some (b, 0)) n (bA n)) x H
   | _ => tr P t (.sl (some (b, 0)) n (bA n)) x H := uq
theorem ln {m b : Nat} (h : b < m) : W m (.sl none 0 (some 0)) (.sl (some (b, 0)) 0 none) = True := eq_true (dA h (.inl rfl))
theorem lp {m b : Nat} (h : b < m) : W m (.sl none 0 (some 0)) (.sl (some (b, 0)) 0 (some 0)) = True := eq_true (dA h (.inr rfl))
theorem lq {m n : Nat} {p : Nat × Nat} {c : Option Nat} : W m (.sl (some p) n c) (.sl (some p) n none) = True := eq_true ia
theorem jj {m b : Nat} (h : b < m) : Wc m (.sl none 0 (some 0)) (.sl (some (b, 0)) 0 none) = True := eq_true (dd h (.inl rfl))
theorem jk {m b : Nat} (h : b < m) : Wc m (.sl none 0 (some 0)) (.sl (some (b, 0)) 0 (some 0)) = True := eq_true (dd h (.inr rfl))
theorem jl {m n : Nat} {p : Nat × Nat} {c : Option Nat} : Wc m (.sl (some p) n c) (.sl (some p) n none) = True := eq_true gt
theorem aS (a b : Int) : (a == b) = decide (a = b) := rfl
theorem aT (a b : Int) : (a != b) = !decide (a = b) := rfl
theorem rem_nat (a b : Nat) : Int.tmod (a : Int) (b : Int) = ((a % b : Nat) : Int) := rfl
section
variable {P : Program} {H : ac} {n : Nat}
theorem LTy.pairsU {t e u v : TypeId} {x : AV} (ht : P.underlying t = some (.slice e)) (hu : P.underlying u = some (.int .i64)) (hv : P.underlying v = some (.int .i64)) (hl : bI P (n + 1) e = some [u, v]) (h : LTy P H (n + 2) t x) :
  ∃ l : List (Int × Int), SlP H x l ∧ l.length ≤ maxLen ∧ ∀ p ∈ l, (Lit.int .i64 p.1).wf = true ∧ (Lit.int .i64 p.2).wf = true := by
 obtain ⟨b, rows, rfl, h1, h2, h3⟩ := h.slice ht hl
 obtain ⟨l, k1, k2, k3⟩ := qe hu hv rows h3
 exact ⟨l, ⟨b, false, none, by rw [k1], by rw [← k2]; exact h2⟩, by omega, k3⟩
theorem LTy.intsU {t e : TypeId} {k : IntKind} {x : AV} (ht : P.underlying t = some (.slice e)) (he : P.underlying e = some (.int k)) (hl : bI P (n + 1) e = some [e]) (h : LTy P H (n + 2) t x) : ∃ l : List Int, SlI H k x l ∧ l.length ≤ maxLen ∧ ∀ z ∈ l, (Lit.int k z).wf = true := by
 obtain ⟨b, rows, rfl, h1, h2, h3⟩ := h.slice ht hl
 obtain ⟨l, k1, k2, k3⟩ := iP he rows h3
 exact ⟨l, ⟨b, false, none, by rw [k1], by rw [← k2]; exact h2⟩, by omega, k3⟩
end
theorem bi {p q : Prop} (hq : q) (h : q → p := by
 intro hq
 simp -implicitDefEqProofs (disch := omega) only [ar, ak, al, au, simprocAttr, ax, ay, Function.comp_apply, one1, lenV, af, am, ap, aop, AV.ofValue, AV.ofCell, AV.cells, AV.flat, AV.one, arep, aB, aw]
 repeat refine And.intro (by clear hq; omega) ?_
 exact hq) : p := h hq
theorem aa {p q r : Prop} (f : r) (hq : q) (h : r → q → p := by
 intro hs hq
 simp -implicitDefEqProofs (disch := omega) only [hs, ar, ak, al, au, simprocAttr, ax, ay, Function.comp_apply, one1, lenV, af, am, ap, aop, AV.ofValue, AV.ofCell, AV.cells, AV.flat, AV.one, arep, aB, aw]
 repeat refine And.intro (by clear hq; omega) ?_
 exact hq) : p := h f hq
theorem runD {p q : Prop} (hq : q) (h : q → p := by
 intro hq
 simp -implicitDefEqProofs (disch := omega) only [dx, ar, ak, al, au, simprocAttr, ax, ay, Function.comp_apply, one1, lenV, af, am, ap, aop, AV.ofValue, AV.ofCell, AV.cells, AV.flat, AV.one, arep, aB, aw]
 repeat refine And.intro (by clear hq; omega) ?_
 exact hq) : p := h hq
theorem aM {p q r : Prop} (f : r) (hq : q) (h : r → q → p := by
 intro hs hq
 simp -implicitDefEqProofs (disch := omega) only [hs, dx, ar, ak, al, au, simprocAttr, ax, ay, Function.comp_apply, one1, lenV, af, am, ap, aop, AV.ofValue, AV.ofCell, AV.cells, AV.flat, AV.one, arep, aB, aw]
 repeat refine And.intro (by clear hq; omega) ?_
 exact hq) : p := h f hq
theorem bsT {p q : Prop} (h : p) (e : p → q := by
 intro h
 try simp only [boolset, beq_iff_eq, ne_eq] at h
 exact h) : q := e h
theorem bnT {p q : Prop} (h : p) (e : p → q := by
 intro h
 try simp only [aT, aS, Bool.not_eq_true', Bool.not_eq_false', Bool.not_not] at h
 exact h) : q := e h
set_option linter.unusedSimpArgs false
set_option linter.unusedVariables false
open Go.RowKit
abbrev T6 := Int × Int × Int × Int × Int × Int
def r6 (l : List T6) : List AV := l.flatMap fun p => [.int .i64 p.1, .int .i64 p.2.1, .int .i64 p.2.2.1, .int .i64 p.2.2.2.1, .int .i64 p.2.2.2.2.1, .int .i64 p.2.2.2.2.2]
def g6 (l : List T6) (j : Nat) : T6 := l.getD j (0, 0, 0, 0, 0, 0)
def g61 (l : List T6) (j : Nat) : Int := (g6 l j).1
def g62 (l : List T6) (j : Nat) : Int := (g6 l j).2.1
def g63 (l : List T6) (j : Nat) : Int := (g6 l j).2.2.1
def g64 (l : List T6) (j : Nat) : Int := (g6 l j).2.2.2.1
def g65 (l : List T6) (j : Nat) : Int := (g6 l j).2.2.2.2.1
def g66 (l : List T6) (j : Nat) : Int := (g6 l j).2.2.2.2.2
theorem jm {l : List T6} {j : Nat} (h : j < l.length) : (g61 l j, g62 l j, g63 l j, g64 l j, g65 l j, g66 l j) = l[j] := by
 simp [g61, g62, g63, g64, g65, g66, g6, h, List.getD_eq_getElem?_getD]
theorem bt : r6 [] = [] := rfl
theorem be {p : T6} {l : List T6} : r6 (p :: l) = .int .i64 p.1 :: .int .i64 p.2.1 :: .int .i64 p.2.2.1 :: .int .i64 p.2.2.2.1 :: .int .i64 p.2.2.2.2.1 :: .int .i64 p.2.2.2.2.2 :: r6 l := rfl
theorem bg {l m : List T6} : r6 (l ++ m) = r6 l ++ r6 m := by simp [r6]
theorem aL : ∀ {l : List T6}, (r6 l).length = l.length * 6
 | [] => rfl
 | p :: l => by rw [be]; simp only [List.length_cons, aL (l := l)]; omega
theorem bo {σ : Nat → Nat} : ∀ {l : List T6}, AV.mvs σ (r6 l) = r6 l
 | [] => rfl
 | p :: l => by
  rw [be]
  show AV.mv σ _ :: AV.mv σ _ :: AV.mv σ _ :: AV.mv σ _ :: AV.mv σ _ :: AV.mv σ _ :: AV.mvs σ (r6 l) = _
  rw [bo (l := l)]; rfl
theorem ii : ∀ {l : List T6} {j : Nat} (_h : j < l.length), (r6 l).drop (j * 6) = .int .i64 (g61 l j) :: .int .i64 (g62 l j) :: .int .i64 (g63 l j) :: .int .i64 (g64 l j) :: .int .i64 (g65 l j) :: .int .i64 (g66 l j) :: (r6 l).drop ((j + 1) * 6)
 | [], j, h => by simp at h
 | p :: l, 0, _ => by rw [be]; simp [g61, g62, g63, g64, g65, g66, g6]
 | p :: l, j + 1, h => by
  rw [be, show (j + 1) * 6 = j * 6 + 1 + 1 + 1 + 1 + 1 + 1 by omega, List.drop_succ_cons, List.drop_succ_cons, List.drop_succ_cons, List.drop_succ_cons, List.drop_succ_cons, List.drop_succ_cons, ii (l := l) (by simpa using h), show (j + 1 + 1) * 6 = (j + 1) * 6 + 1 + 1 + 1 + 1 + 1 + 1 by omega, List.drop_succ_cons, List.drop_succ_cons, List.drop_succ_cons, List.drop_succ_cons, List.drop_succ_cons, List.drop_succ_cons]
  rfl
theorem r6_at0 {l : List T6} {j : Nat} (h : j < l.length) : (r6 l)[j * 6]? = some (.int .i64 (g61 l j)) := by
 have := congrArg (fun x => x[0]?) (ii h)
 simpa using this
theorem r6_at1 {l : List T6} {j : Nat} (h : j < l.length) : (r6 l)[j * 6 + 1]? = some (.int .i64 (g62 l j)) := by
 have := congrArg (fun x => x[1]?) (ii h)
 simpa using this
theorem r6_at2 {l : List T6} {j : Nat} (h : j < l.length) : (r6 l)[j * 6 + 2]? = some (.int .i64 (g63 l j)) := by
 have := congrArg (fun x => x[2]?) (ii h)
 simpa using this
theorem r6_at3 {l : List T6} {j : Nat} (h : j < l.length) : (r6 l)[j * 6 + 3]? = some (.int .i64 (g64 l j)) := by
 have := congrArg (fun x => x[3]?) (ii h)
 simpa using this
theorem r6_at5 {l : List T6} {j : Nat} (h : j < l.length) : (r6 l)[j * 6 + 5]? = some (.int .i64 (g66 l j)) := by
 have := congrArg (fun x => x[5]?) (ii h)
 simpa using this
theorem cE {l : List T6} {j : Nat} (h : j < l.length) : ((r6 l).drop (j * 6)).take 6 = [.int .i64 (g61 l j), .int .i64 (g62 l j), .int .i64 (g63 l j), .int .i64 (g64 l j), .int .i64 (g65 l j), .int .i64 (g66 l j)] := by rw [ii h]; rfl
theorem r6_load0 {l : List T6} (h : 0 < l.length) : (r6 l).take 6 = [.int .i64 (g61 l 0), .int .i64 (g62 l 0), .int .i64 (g63 l 0), .int .i64 (g64 l 0), .int .i64 (g65 l 0), .int .i64 (g66 l 0)] := by
 have := cE h
 rwa [Nat.zero_mul, List.drop_zero] at this
theorem r6_load1 {l : List T6} {j : Nat} (h : j + 1 < l.length) : ((r6 l).drop (6 + j * 6)).take 6 = [.int .i64 (g61 l (j + 1)), .int .i64 (g62 l (j + 1)), .int .i64 (g63 l (j + 1)), .int .i64 (g64 l (j + 1)), .int .i64 (g65 l (j + 1)), .int .i64 (g66 l (j + 1))] := by
 rw [show 6 + j * 6 = (j + 1) * 6 by omega]; exact cE h
theorem r6_take {l : List T6} {j : Nat} : (r6 l).take (j * 6) = r6 (l.take j) := by
 induction l generalizing j with
 | nil => simp [bt]
 | cons p l ih =>
  cases j with
  | zero => simp [bt]
  | succ j => rw [be, show (j + 1) * 6 = j * 6 + 1 + 1 + 1 + 1 + 1 + 1 by omega, List.take_succ_cons, List.take_succ_cons, List.take_succ_cons, List.take_succ_cons, List.take_succ_cons, List.take_succ_cons, ih]; rfl
theorem r6_all {l : List T6} : (r6 l).take (l.length * 6) = r6 l := by rw [r6_take, List.take_length]
theorem aY {l : List T6} : (r6 l).all AV.one = true := by
 induction l with
 | nil => rfl
 | cons p l ih => rw [be]; simp [AV.one, ih]
section
variable {P : Program} {H : ac} {n : Nat}
theorem rows_r6 {t1 t2 t3 t4 t5 t6 : TypeId} (h1 : P.underlying t1 = some (.int .i64)) (h2 : P.underlying t2 = some (.int .i64)) (h3 : P.underlying t3 = some (.int .i64)) (h4 : P.underlying t4 = some (.int .i64)) (h5 : P.underlying t5 = some (.int .i64)) (h6 : P.underlying t6 = some (.int .i64)) : ∀ rows : List (List AV), (∀ r : List AV, r ∈ rows → RTy P H (n + 1) [t1, t2, t3, t4, t5, t6] r) → ∃ l : List T6, l.length = rows.length ∧ rows.flatten = r6 l ∧ ∀ p ∈ l, (Lit.int .i64 p.1).wf = true ∧ (Lit.int .i64 p.2.1).wf = true ∧ (Lit.int .i64 p.2.2.1).wf = true ∧ (Lit.int .i64 p.2.2.2.1).wf = true ∧ (Lit.int .i64 p.2.2.2.2.1).wf = true ∧ (Lit.int .i64 p.2.2.2.2.2).wf = true
 | [], _ => ⟨[], rfl, rfl, fun z h => by simp at h⟩
 | r :: rows, h => by
  obtain ⟨l, h1', h2', h3'⟩ := rows_r6 h1 h2 h3 h4 h5 h6 rows fun r' hr => h r' (by simp [hr])
  have hr := h r (by simp)
  obtain ⟨y1, r', rfl, hy1, hr⟩ := hr.cons
  obtain ⟨y2, r', rfl, hy2, hr⟩ := hr.cons
  obtain ⟨y3, r', rfl, hy3, hr⟩ := hr.cons
  obtain ⟨y4, r', rfl, hy4, hr⟩ := hr.cons
  obtain ⟨y5, r', rfl, hy5, hr⟩ := hr.cons
  obtain ⟨y6, r', rfl, hy6, hr⟩ := hr.cons
  obtain rfl := hr.nil
  obtain ⟨z1, rfl, hz1⟩ := hy1.int h1
  obtain ⟨z2, rfl, hz2⟩ := hy2.int h2
  obtain ⟨z3, rfl, hz3⟩ := hy3.int h3
  obtain ⟨z4, rfl, hz4⟩ := hy4.int h4
  obtain ⟨z5, rfl, hz5⟩ := hy5.int h5
  obtain ⟨z6, rfl, hz6⟩ := hy6.int h6
  exact ⟨(z1, z2, z3, z4, z5, z6) :: l, by simp [h1'], by simp [h2', be], fun z' h' => by
   rcases List.mem_cons.1 h' with rfl | h'
   ·exact ⟨hz1, hz2, hz3, hz4, hz5, hz6⟩
   ·exact h3' _ h'⟩
abbrev Sl6 (H : ac) (s : AV) (l : List T6) : Prop := Sl H 6 s l.length (r6 l)
theorem LTy.rec6 {t e t1 t2 t3 t4 t5 t6 : TypeId} {x : AV} (ht : P.underlying t = some (.slice e)) (h1 : P.underlying t1 = some (.int .i64)) (h2 : P.underlying t2 = some (.int .i64)) (h3 : P.underlying t3 = some (.int .i64)) (h4 : P.underlying t4 = some (.int .i64)) (h5 : P.underlying t5 = some (.int .i64)) (h6 : P.underlying t6 = some (.int .i64)) (hl : bI P (n + 1) e = some [t1, t2, t3, t4, t5, t6]) (h : LTy P H (n + 2) t x) :
  ∃ l : List T6, Sl6 H x l ∧ l.length ≤ maxLen ∧ ∀ p ∈ l, (Lit.int .i64 p.1).wf = true ∧ (Lit.int .i64 p.2.1).wf = true ∧ (Lit.int .i64 p.2.2.1).wf = true ∧ (Lit.int .i64 p.2.2.2.1).wf = true ∧ (Lit.int .i64 p.2.2.2.2.1).wf = true ∧ (Lit.int .i64 p.2.2.2.2.2).wf = true := by
 obtain ⟨b, rows, rfl, k1, k2, k3⟩ := h.slice ht hl
 obtain ⟨l, q1, q2, q3⟩ := rows_r6 h1 h2 h3 h4 h5 h6 rows k3
 exact ⟨l, ⟨b, false, none, by rw [q1], by rw [← q2]; exact k2⟩, by omega, q3⟩
end
set_option linter.unusedSimpArgs false
set_option linter.unusedVariables false
open Go.RowKit
abbrev Pt := Int × Int
def crs (a b : Pt) : Int := a.1 * b.2 - a.2 * b.1
def up (p : Pt) : Prop := 0 < p.2 ∨ (p.2 = 0 ∧ 0 < p.1)
instance (p : Pt) : Decidable (up p) := inferInstanceAs (Decidable (_ ∨ _))
theorem crs_self (a : Pt) : crs a a = 0 := by unfold crs; rw [Int.mul_comm]; omega
theorem crs_anti (a b : Pt) : crs b a = -crs a b := by unfold crs; rw [Int.mul_comm b.1, Int.mul_comm b.2]; omega
def padd (a b : Pt) : Pt := (a.1 + b.1, a.2 + b.2)
theorem ur (a b c : Pt) : padd (padd a b) c = padd a (padd b c) := by simp [padd, Int.add_assoc]
theorem padd_zero (a : Pt) : padd a (0, 0) = a := by simp [padd]
theorem pr (a : Pt) : padd (0, 0) a = a := by simp [padd]
def fM : List Pt → Pt → Pt
 | [], _ => (0, 0)
 | h :: l, g => if crs h g = 0 then padd h (fM l g) else fM l g
theorem jP (g : Pt) : ∀ l m : List Pt, fM (l ++ m) g = padd (fM l g) (fM m g)
 | [], m => by rw [List.nil_append]; exact (pr _).symm
 | h :: l, m => by
  simp only [List.cons_append, fM, jP g l m]
  split
  ·rw [ur]
  ·rfl
theorem pu {l : List Pt} {g : Pt} (h : ∀ e ∈ l, crs e g ≠ 0) : fM l g = (0, 0) := by
 induction l with
 | nil => rfl
 | cons x l ih =>
  simp only [fM]
  rw [if_neg (h x (by simp)), ih fun e he => h e (by simp [he])]
structure Can (C S : List Pt) : Prop where
 sorted : C.Pairwise fun a b => 0 < crs a b
 ups : ∀ e ∈ C, up e
 sums : ∀ g, up g → fM C g = fM S g
theorem Can.own {C S : List Pt} (h : Can C S) {e : Pt} (he : e ∈ C) : fM C e = e := by
 obtain ⟨A, B, rfl⟩ := List.append_of_mem he
 have hs := h.sorted
 rw [List.pairwise_append] at hs
 obtain ⟨h1, h2, h3⟩ := hs
 rw [List.pairwise_cons] at h2
 rw [jP]
 simp only [fM, crs_self, if_true]
 rw [pu (l := A) fun a ha => by have := h3 a ha e (by simp); omega, pu (l := B) fun b hb => by have := h2.1 b hb; rw [crs_anti]; omega, padd_zero, pr]
theorem iR {r : Pt → Pt → Prop} (has : ∀ a b, r a b → ¬ r b a) : ∀ (l m : List Pt), l.Pairwise r → m.Pairwise r → (∀ x, x ∈ l ↔ x ∈ m) → l = m
 | [], [], _, _, _ => rfl
 | [], b :: m, _, _, h => absurd ((h b).2 (by simp)) (by simp)
 | a :: l, [], _, _, h => absurd ((h a).1 (by simp)) (by simp)
 | a :: l, b :: m, h1, h2, h => by
  rw [List.pairwise_cons] at h1 h2
  have hirr : ∀ x, ¬ r x x := fun x hx => has x x hx hx
  have hab : a = b := by
   rcases List.mem_cons.1 ((h a).1 (by simp)) with e | hm
   ·exact e
   ·rcases List.mem_cons.1 ((h b).2 (by simp)) with e | hl
    ·exact e.symm
    ·exact absurd (h1.1 b hl) (has _ _ (h2.1 a hm))
  subst hab
  have : l = m := iR has l m h1.2 h2.2 fun x => by
   constructor
   ·intro hx
    rcases List.mem_cons.1 ((h x).1 (by simp [hx])) with e | hm
    ·subst e; exact absurd (h1.1 x hx) (hirr x)
    ·exact hm
   ·intro hx
    rcases List.mem_cons.1 ((h x).2 (by simp [hx])) with e | hm
    ·subst e; exact absurd (h2.1 x hx) (hirr x)
    ·exact hm
  rw [this]
open Go.RowKit
def rowR (p : Int → Int → Bool) (x0 y : Int) : Nat → List Pt
 | 0 => []
 | n + 1 => rowR p x0 y n ++ (if p (x0 + n) y = true then [(x0 + n, y)] else [])
def ct (p : Int → Int → Bool) (x0 : Int) (w : Nat) (y0 : Int) : Nat → List Pt
 | 0 => []
 | n + 1 => ct p x0 w y0 n ++ rowR p x0 (y0 + n) w
def cP (a b : Pt) : Prop := a.2 < b.2 ∨ (a.2 = b.2 ∧ a.1 < b.1)
theorem befP_anti (a b : Pt) (h : cP a b) : ¬ cP b a := by unfold cP at *; omega
theorem tt {p : Int → Int → Bool} {x0 y : Int} : ∀ {n : Nat} {c : Pt}, c ∈ rowR p x0 y n ↔ (x0 ≤ c.1 ∧ c.1 < x0 + n) ∧ c.2 = y ∧ p c.1 c.2 = true
 | 0, c => by simp only [rowR, List.not_mem_nil, false_iff]; omega
 | n + 1, c => by
  rw [rowR, List.mem_append, tt]
  constructor
  ·rintro (h | h)
   ·exact ⟨by omega, h.2⟩
   ·split at h
    ·rename_i hp
     simp only [List.mem_singleton] at h
     subst h
     exact ⟨by simp only; omega, rfl, hp⟩
    ·cases h
  ·rintro ⟨h1, h2, h3⟩
   rcases (by omega : c.1 < x0 + n ∨ x0 + n ≤ c.1) with h | h
   ·exact .inl ⟨by omega, h2, h3⟩
   ·right
    have e : c = (x0 + n, y) := Prod.ext (by simp only; omega) h2
    rw [e] at h3
    rw [if_pos h3, e]; simp
theorem pv {p : Int → Int → Bool} {x0 y0 : Int} {w : Nat} : ∀ {n : Nat} {c : Pt}, c ∈ ct p x0 w y0 n ↔ (x0 ≤ c.1 ∧ c.1 < x0 + w) ∧ (y0 ≤ c.2 ∧ c.2 < y0 + n) ∧ p c.1 c.2 = true
 | 0, c => by simp only [ct, List.not_mem_nil, false_iff]; omega
 | n + 1, c => by
  rw [ct, List.mem_append, pv, tt]
  constructor
  ·rintro (h | h)
   ·exact ⟨h.1, by omega, h.2.2⟩
   ·exact ⟨h.1, by omega, h.2.2⟩
  ·rintro ⟨h1, h2, h3⟩
   rcases (by omega : c.2 < y0 + n ∨ y0 + n ≤ c.2) with h | h
   ·exact .inl ⟨h1, by omega, h3⟩
   ·exact .inr ⟨h1, by omega, h3⟩
theorem eq_sorted {l m : List Pt} (hl : l.Pairwise cP) (hm : m.Pairwise cP) (h : ∀ c, c ∈ l ↔ c ∈ m) : l = m := iR befP_anti l m hl hm h
theorem j9 {p : Int → Int → Bool} {x0 y : Int} : ∀ n : Nat, (rowR p x0 y n).length ≤ n
 | 0 => Nat.le_refl _
 | n + 1 => by
  have := j9 (p := p) (x0 := x0) (y := y) n
  rw [rowR, List.length_append]
  split
  ·rw [List.length_singleton]; omega
  ·rw [List.length_nil]; omega
theorem iS {p : Int → Int → Bool} {x0 y0 : Int} {w : Nat} : ∀ n : Nat, (ct p x0 w y0 n).length ≤ n * w
 | 0 => by simp [ct]
 | n + 1 => by
  have := iS (p := p) (x0 := x0) (y0 := y0) (w := w) n
  have := j9 (p := p) (x0 := x0) (y := y0 + n) w
  rw [ct, List.length_append, Nat.succ_mul]; omega
end Go.Proofs.YtojbkljfioegkaaGreat
namespace Go.Proofs
open Go.Shelf
def Tryz.lays128_ren : Go.Shelf.Ren := ⟨fun | 128 => 207 | n => n, fun | 51 => 259 | 3 => 3 | 4 => 4 | 46 => 230 | 5 => 5 | 9 => 9 | n => n, fun | n => n⟩
theorem Tryz.lays128 : Go.Proofs.Lays.n128 Tryz.prog Tryz.lays128_ren := {
 mixed := by kernel_rfl
 f128 := Tryz.func207.trans (congrArg some (by kernel_rfl))
 t3 := Tryz.underlying3
 a3 := Tryz.isAgg3
 z3 := Tryz.sizeOf3
 v3 := Tryz.zeroValue3
 t4 := Tryz.underlying4
 a4 := Tryz.isAgg4
 z4 := Tryz.sizeOf4
 v4 := Tryz.zeroValue4
 t5 := Tryz.underlying5
 a5 := Tryz.isAgg5
 z5 := Tryz.sizeOf5
 v5 := Tryz.zeroValue5
 t9 := Tryz.underlying9
 a9 := Tryz.isAgg9
 z9 := Tryz.sizeOf9
 v9 := Tryz.zeroValue9
 t46 := Tryz.underlying230
 a46 := Tryz.isAgg230
 z46 := Tryz.sizeOf230
 v46 := Tryz.zeroValue230
 t51 := Tryz.underlying259
 a51 := Tryz.isAgg259
 z51 := Tryz.sizeOf259
 v51 := Tryz.zeroValue259 }
theorem Tryz.bits_Len32 (x : Int) (w : World) (h0 : 0 ≤ x) (h1 : x ≤ 4294967295) :
  Calls Tryz.prog 207 #[.int .u32 x] w fun e w' => e = .returned (.int .i64 (Lib.bitLen x.toNat)) ∧ w' = w := Any.bits_Len32 Tryz.lays128 x w h0 h1
def Tryz.lays125_ren : Go.Shelf.Ren := ⟨fun | 125 => 173 | 128 => 207 | 129 => 208 | n => n, fun | 46 => 230 | 3 => 3 | 51 => 259 | 53 => 261 | 4 => 4 | 5 => 5 | 9 => 9 | n => n, fun | n => n⟩
theorem Tryz.lays125 : Go.Proofs.Lays.n125 Tryz.prog Tryz.lays125_ren := {
 mixed := by kernel_rfl
 f125 := Tryz.func173.trans (congrArg some (by kernel_rfl))
 f128 := Tryz.func207.trans (congrArg some (by kernel_rfl))
 f129 := Tryz.func208.trans (congrArg some (by kernel_rfl))
 t3 := Tryz.underlying3
 a3 := Tryz.isAgg3
 z3 := Tryz.sizeOf3
 v3 := Tryz.zeroValue3
 t4 := Tryz.underlying4
 a4 := Tryz.isAgg4
 z4 := Tryz.sizeOf4
 v4 := Tryz.zeroValue4
 t5 := Tryz.underlying5
 a5 := Tryz.isAgg5
 z5 := Tryz.sizeOf5
 v5 := Tryz.zeroValue5
 t9 := Tryz.underlying9
 a9 := Tryz.isAgg9
 z9 := Tryz.sizeOf9
 v9 := Tryz.zeroValue9
 t46 := Tryz.underlying230
 a46 := Tryz.isAgg230
 z46 := Tryz.sizeOf230
 v46 := Tryz.zeroValue230
 t51 := Tryz.underlying259
 a51 := Tryz.isAgg259
 z51 := Tryz.sizeOf259
 v51 := Tryz.zeroValue259
 t53 := Tryz.underlying261
 a53 := Tryz.isAgg261
 z53 := Tryz.sizeOf261
 v53 := Tryz.zeroValue261 }
theorem Tryz.bits_Len (x : Int) (w : World) (h0 : 0 ≤ x) (h1 : x ≤ 18446744073709551615) :
  Calls Tryz.prog 173 #[.int .u64 x] w fun e w' => e = .returned (.int .i64 (Lib.bitLen x.toNat)) ∧ w' = w := Any.bits_Len Tryz.lays125 x w h0 h1
def Tryz.lays129_ren : Go.Shelf.Ren := ⟨fun | 129 => 208 | n => n, fun | 53 => 261 | 3 => 3 | 4 => 4 | 46 => 230 | 5 => 5 | 9 => 9 | n => n, fun | n => n⟩
theorem Tryz.lays129 : Go.Proofs.Lays.n129 Tryz.prog Tryz.lays129_ren := {
 mixed := by kernel_rfl
 f129 := Tryz.func208.trans (congrArg some (by kernel_rfl))
 t3 := Tryz.underlying3
 a3 := Tryz.isAgg3
 z3 := Tryz.sizeOf3
 v3 := Tryz.zeroValue3
 t4 := Tryz.underlying4
 a4 := Tryz.isAgg4
 z4 := Tryz.sizeOf4
 v4 := Tryz.zeroValue4
 t5 := Tryz.underlying5
 a5 := Tryz.isAgg5
 z5 := Tryz.sizeOf5
 v5 := Tryz.zeroValue5
 t9 := Tryz.underlying9
 a9 := Tryz.isAgg9
 z9 := Tryz.sizeOf9
 v9 := Tryz.zeroValue9
 t46 := Tryz.underlying230
 a46 := Tryz.isAgg230
 z46 := Tryz.sizeOf230
 v46 := Tryz.zeroValue230
 t53 := Tryz.underlying261
 a53 := Tryz.isAgg261
 z53 := Tryz.sizeOf261
 v53 := Tryz.zeroValue261 }
theorem Tryz.bits_Len64 (x : Int) (w : World) (h0 : 0 ≤ x) (h1 : x ≤ 18446744073709551615) :
  Calls Tryz.prog 208 #[.int .u64 x] w fun e w' => e = .returned (.int .i64 (Lib.bitLen x.toNat)) ∧ w' = w := Any.bits_Len64 Tryz.lays129 x w h0 h1
def Tryz.lays224_ren : Go.Shelf.Ren := ⟨fun | 224 => 231 | n => n, fun | 3 => 3 | n => n, fun | n => n⟩
theorem Tryz.lays224 : Go.Proofs.Lays.n224 Tryz.prog Tryz.lays224_ren := {
 mixed := by kernel_rfl
 f224 := Tryz.func231.trans (congrArg some (by kernel_rfl))
 t3 := Tryz.underlying3
 a3 := Tryz.isAgg3
 z3 := Tryz.sizeOf3
 v3 := Tryz.zeroValue3 }
open Go.RowKit Go.Lib in
theorem Tryz.bytealg_Cutover (n : Int) (h0 : 0 ≤ n) (h1 : n < 4611686018427387904) (w : World) :
  Calls Tryz.prog 231 #[.int .i64 n] w fun e w' => e = .returned (.int .i64 ((n + 16) / 8)) ∧ w' = w := Any.bytealg_Cutover Tryz.lays224 n h0 h1 w
def Tryz.lays185_ren : Go.Shelf.Ren := ⟨fun | 185 => 217 | 187 => 140 | 115 => 229 | 253 => 230 | 224 => 231 | 254 => 232 | 255 => 179 | 291 => 238 | n => n, fun | 37 => 22 | 3 => 3 | 4 => 4 | 0 => 0 | 5 => 5 | 46 => 230 | 9 => 9 | 146 => 286 | 51 => 259 | n => n, fun | 1 => 0 | n => n⟩
theorem Tryz.lays185 : Go.Proofs.Lays.n185 Tryz.prog Tryz.lays185_ren := {
 mixed := by kernel_rfl
 f115 := Tryz.func229.trans (congrArg some (by kernel_rfl))
 f185 := Tryz.func217.trans (congrArg some (by kernel_rfl))
 f187 := Tryz.func140.trans (congrArg some (by kernel_rfl))
 f224 := Tryz.func231.trans (congrArg some (by kernel_rfl))
 f253 := Tryz.func230.trans (congrArg some (by kernel_rfl))
 f254 := Tryz.func232.trans (congrArg some (by kernel_rfl))
 f255 := Tryz.func179.trans (congrArg some (by kernel_rfl))
 f291 := Tryz.func238.trans (congrArg some (by kernel_rfl))
 t0 := Tryz.underlying0
 a0 := Tryz.isAgg0
 z0 := Tryz.sizeOf0
 v0 := Tryz.zeroValue0
 t3 := Tryz.underlying3
 a3 := Tryz.isAgg3
 z3 := Tryz.sizeOf3
 v3 := Tryz.zeroValue3
 t4 := Tryz.underlying4
 a4 := Tryz.isAgg4
 z4 := Tryz.sizeOf4
 v4 := Tryz.zeroValue4
 t5 := Tryz.underlying5
 a5 := Tryz.isAgg5
 z5 := Tryz.sizeOf5
 v5 := Tryz.zeroValue5
 t9 := Tryz.underlying9
 a9 := Tryz.isAgg9
 z9 := Tryz.sizeOf9
 v9 := Tryz.zeroValue9
 t37 := Tryz.underlying22
 a37 := Tryz.isAgg22
 z37 := Tryz.sizeOf22
 v37 := Tryz.zeroValue22
 t46 := Tryz.underlying230
 a46 := Tryz.isAgg230
 z46 := Tryz.sizeOf230
 v46 := Tryz.zeroValue230
 t51 := Tryz.underlying259
 a51 := Tryz.isAgg259
 z51 := Tryz.sizeOf259
 v51 := Tryz.zeroValue259
 t146 := Tryz.underlying286
 a146 := Tryz.isAgg286
 z146 := Tryz.sizeOf286
 v146 := Tryz.zeroValue286
 g1 := by kernel_rfl }
open Go.RowKit Go.Lib in
theorem Tryz.bytes_Index_one (b o n c b2 o2 d : Nat) (xs : List Int) (cv : Int) (w : World) (hx : xs.length = n) (hc : ∀ i, i < n → w.cell? ⟨b, o + i, none⟩ = some (.int .u8 (xs.getD i 0))) (hc2 : w.cell? ⟨b2, o2, none⟩ = some (.int .u8 cv)) :
  Calls Tryz.prog 217 #[.slice (some ⟨b, o, none⟩) n c, .slice (some ⟨b2, o2, none⟩) 1 d] w fun e w' => e = .returned (.int .i64 (Lib.indexByte (Lib.bytesOf xs) cv.toNat.toUInt8)) ∧ w' = w := Any.bytes_Index_one Tryz.lays185 b o n c b2 o2 d xs cv w hx hc hc2
open Go.RowKit Go.Lib in
theorem Tryz.bytes_Index_one_nil (b2 o2 d : Nat) (cv : Int) (w : World) (hc2 : w.cell? ⟨b2, o2, none⟩ = some (.int .u8 cv)) :
  Calls Tryz.prog 217 #[.slice none 0 0, .slice (some ⟨b2, o2, none⟩) 1 d] w fun e w' => e = .returned (.int .i64 (-1)) ∧ w' = w := Any.bytes_Index_one_nil Tryz.lays185 b2 o2 d cv w hc2
open Go.RowKit Go.Lib in
theorem Tryz.bytes_Index_none (p q : Option Addr) (n c d : Nat) (w : World) :
  Calls Tryz.prog 217 #[.slice p n c, .slice q 0 d] w fun e w' => e = .returned (.int .i64 0) ∧ w' = w := Any.bytes_Index_none Tryz.lays185 p q n c d w
open Go.RowKit Go.Lib in
theorem Tryz.bytes_Index_longer (p q : Option Addr) (n c m d : Nat) (w : World) (h2 : 2 ≤ m) (hnm : n < m) (hm : m ≤ 9223372036854775807) :
  Calls Tryz.prog 217 #[.slice p n c, .slice q m d] w fun e w' => e = .returned (.int .i64 (-1)) ∧ w' = w := Any.bytes_Index_longer Tryz.lays185 p q n c m d w h2 hnm hm
open Go.RowKit Go.Lib in
theorem Tryz.bytes_Index_same (b o c b2 o2 d n : Nat) (xs ys : List Int) (w : World) (h2 : 2 ≤ n) (hm : n ≤ 9223372036854775807) (hx : xs.length = n) (hy : ys.length = n) (hc : ∀ i, i < n → w.cell? ⟨b, o + i, none⟩ = some (.int .u8 (xs.getD i 0))) (hc2 : ∀ i, i < n → w.cell? ⟨b2, o2 + i, none⟩ = some (.int .u8 (ys.getD i 0))) :
  Calls Tryz.prog 217 #[.slice (some ⟨b, o, none⟩) n c, .slice (some ⟨b2, o2, none⟩) n d] w fun e w' => e = .returned (.int .i64 (if Lib.bytesOf ys == Lib.bytesOf xs then 0 else -1)) ∧ w' = w := Any.bytes_Index_same Tryz.lays185 b o c b2 o2 d n xs ys w h2 hm hx hy hc hc2
def Tryz.laysSlB13_ren : Go.Shelf.Ren := ⟨fun | 13 => 187 | 24 => 215 | 25 => 216 | 12 => 217 | 31 => 228 | 19 => 140 | 20 => 229 | 21 => 230 | 22 => 231 | 23 => 232 | 29 => 179 | 30 => 238 | n => n, fun | 22 => 22 | 3 => 3 | 4 => 4 | 0 => 0 | 5 => 5 | 9 => 9 | 33 => 230 | 40 => 286 | 39 => 259 | n => n, fun | 0 => 0 | n => n⟩
theorem Tryz.laysSlB13 : Go.Proofs.SlLaysB.n13 Tryz.prog Tryz.laysSlB13_ren := {
 mixed := by kernel_rfl
 f13 := Tryz.func187.trans (congrArg some (by kernel_rfl))
 f25 := Tryz.func216.trans (congrArg some (by kernel_rfl))
 t0 := Tryz.underlying0
 a0 := Tryz.isAgg0
 z0 := Tryz.sizeOf0
 v0 := Tryz.zeroValue0
 t3 := Tryz.underlying3
 a3 := Tryz.isAgg3
 z3 := Tryz.sizeOf3
 v3 := Tryz.zeroValue3
 t4 := Tryz.underlying4
 a4 := Tryz.isAgg4
 z4 := Tryz.sizeOf4
 v4 := Tryz.zeroValue4
 t5 := Tryz.underlying5
 a5 := Tryz.isAgg5
 z5 := Tryz.sizeOf5
 v5 := Tryz.zeroValue5
 t22 := Tryz.underlying22
 a22 := Tryz.isAgg22
 z22 := Tryz.sizeOf22
 v22 := Tryz.zeroValue22 }
open Go.RowKit Go.Lib in
theorem Tryz.bytes_Count_one (b o n c b2 o2 d : Nat) (xs : List Int) (cv : Int) (w : World) (hx : xs.length = n) (hc : ∀ i, i < n → w.cell? ⟨b, o + i, none⟩ = some (.int .u8 (xs.getD i 0))) (hc2 : w.cell? ⟨b2, o2, none⟩ = some (.int .u8 cv)) :
  Calls Tryz.prog 187 #[.slice (some ⟨b, o, none⟩) n c, .slice (some ⟨b2, o2, none⟩) 1 d] w fun e w' => e = .returned (.int .i64 (Lib.countByte (Lib.bytesOf xs) cv.toNat.toUInt8)) ∧ w' = w := Any.bytes_Count_one Tryz.laysSlB13 b o n c b2 o2 d xs cv w hx hc hc2
open Go.RowKit Go.Lib in
theorem Tryz.bytes_Count_one_at (a : Addr) (n c b2 o2 d : Nat) (xs : List Int) (cv : Int) (w : World) (hx : xs.length = n) (hc : ∀ i, i < n → w.cell? (a.add i) = some (.int .u8 (xs.getD i 0))) (hc2 : w.cell? ⟨b2, o2, none⟩ = some (.int .u8 cv)) :
  Calls Tryz.prog 187 #[.slice (some a) n c, .slice (some ⟨b2, o2, none⟩) 1 d] w fun e w' => e = .returned (.int .i64 (Lib.countByte (Lib.bytesOf xs) cv.toNat.toUInt8)) ∧ w' = w := Any.bytes_Count_one_at Tryz.laysSlB13 a n c b2 o2 d xs cv w hx hc hc2
open Go.RowKit Go.Lib in
theorem Tryz.bytes_Count_one_nil (b2 o2 d : Nat) (cv : Int) (w : World) (hc2 : w.cell? ⟨b2, o2, none⟩ = some (.int .u8 cv)) :
  Calls Tryz.prog 187 #[.slice none 0 0, .slice (some ⟨b2, o2, none⟩) 1 d] w fun e w' => e = .returned (.int .i64 0) ∧ w' = w := Any.bytes_Count_one_nil Tryz.laysSlB13 b2 o2 d cv w hc2
def Tryz.lays187_ren : Go.Shelf.Ren := ⟨fun | 187 => 140 | 255 => 179 | n => n, fun | 37 => 22 | 5 => 5 | 3 => 3 | n => n, fun | n => n⟩
theorem Tryz.lays187 : Go.Proofs.Lays.n187 Tryz.prog Tryz.lays187_ren := {
 mixed := by kernel_rfl
 f187 := Tryz.func140.trans (congrArg some (by kernel_rfl))
 f255 := Tryz.func179.trans (congrArg some (by kernel_rfl))
 t3 := Tryz.underlying3
 a3 := Tryz.isAgg3
 z3 := Tryz.sizeOf3
 v3 := Tryz.zeroValue3
 t5 := Tryz.underlying5
 a5 := Tryz.isAgg5
 z5 := Tryz.sizeOf5
 v5 := Tryz.zeroValue5
 t37 := Tryz.underlying22
 a37 := Tryz.isAgg22
 z37 := Tryz.sizeOf22
 v37 := Tryz.zeroValue22 }
open Go.RowKit Go.Lib in
theorem Tryz.bytes_IndexByte_at (a : Addr) (n c : Nat) (xs : List Int) (cv : Int) (w : World) (hx : xs.length = n) (hc : ∀ i, i < n → w.cell? (a.add i) = some (.int .u8 (xs.getD i 0))) :
  Calls Tryz.prog 140 #[.slice (some a) n c, .int .u8 cv] w fun e w' => e = .returned (.int .i64 (Lib.indexByte (Lib.bytesOf xs) cv.toNat.toUInt8)) ∧ w' = w := Any.bytes_IndexByte_at Tryz.lays187 a n c xs cv w hx hc
open Go.RowKit Go.Lib in
theorem Tryz.bytes_Index_one_at (a : Addr) (n c b2 o2 d : Nat) (xs : List Int) (cv : Int) (w : World) (hx : xs.length = n) (hc : ∀ i, i < n → w.cell? (a.add i) = some (.int .u8 (xs.getD i 0))) (hc2 : w.cell? ⟨b2, o2, none⟩ = some (.int .u8 cv)) :
  Calls Tryz.prog 217 #[.slice (some a) n c, .slice (some ⟨b2, o2, none⟩) 1 d] w fun e w' => e = .returned (.int .i64 (Lib.indexByte (Lib.bytesOf xs) cv.toNat.toUInt8)) ∧ w' = w := Any.bytes_Index_one_at Tryz.lays185 a n c b2 o2 d xs cv w hx hc hc2
open Go.Proofs Go.RowKit Go.Lib in
theorem Tryz.bytes_IndexByte_bytes (b o cap : Nat) (t : ByteArray) (cv : Int) (w : World) (hc : Lib.Bytes w b o t) :
  Calls Tryz.prog 140 #[.slice (some ⟨b, o, none⟩) t.size cap, .int .u8 cv] w fun e w' => e = .returned (.int .i64 (Lib.indexByte t.data.toList cv.toNat.toUInt8)) ∧ w' = w := Any.bytes_IndexByte_bytes Tryz.lays187 b o cap t cv w hc
def Tryz.lays115_ren : Go.Shelf.Ren := ⟨fun | 115 => 229 | n => n, fun | 37 => 22 | 4 => 4 | 9 => 9 | 5 => 5 | n => n, fun | n => n⟩
theorem Tryz.lays115 : Go.Proofs.Lays.n115 Tryz.prog Tryz.lays115_ren := {
 mixed := by kernel_rfl
 f115 := Tryz.func229.trans (congrArg some (by kernel_rfl))
 t4 := Tryz.underlying4
 a4 := Tryz.isAgg4
 z4 := Tryz.sizeOf4
 v4 := Tryz.zeroValue4
 t9 := Tryz.underlying9
 a9 := Tryz.isAgg9
 z9 := Tryz.sizeOf9
 v9 := Tryz.zeroValue9
 t37 := Tryz.underlying22
 a37 := Tryz.isAgg22
 z37 := Tryz.sizeOf22
 v37 := Tryz.zeroValue22 }
open Go.Proofs Go.RowKit Go.Lib in
theorem Tryz.bytes_Equal_strs (v1 v2 : Value) (t1 t2 : ByteArray) (w : World) (h1 : (convert 22 9 v1).run Tryz.prog w = .ok (.string t1) w) (h2 : (convert 22 9 v2).run Tryz.prog w = .ok (.string t2) w) :
  Calls Tryz.prog 229 #[v1, v2] w fun e w' => e = .returned (.bool (t1.toList == t2.toList)) ∧ w' = w := Any.bytes_Equal_strs Tryz.lays115 v1 v2 t1 t2 w h1 h2
theorem Tryz.bytes_Equal (v1 v2 : Value) (xs ys : List Int) (w : World) (h1 : (convert 22 9 v1).run Tryz.prog w = .ok (.string (strOfNums xs)) w) (h2 : (convert 22 9 v2).run Tryz.prog w = .ok (.string (strOfNums ys)) w) :
  Calls Tryz.prog 229 #[v1, v2] w fun e w' => e = .returned (.bool (Lib.bytesOf xs == Lib.bytesOf ys)) ∧ w' = w := Any.bytes_Equal Tryz.lays115 v1 v2 xs ys w h1 h2
theorem Tryz.bytes_IndexByte (b o n c : Nat) (xs : List Int) (cv : Int) (w : World) (hx : xs.length = n) (hc : ∀ i, i < n → w.cell? ⟨b, o + i, none⟩ = some (.int .u8 (xs.getD i 0))) :
  Calls Tryz.prog 140 #[.slice (some ⟨b, o, none⟩) n c, .int .u8 cv] w fun e w' => e = .returned (.int .i64 (Lib.indexByte (Lib.bytesOf xs) cv.toNat.toUInt8)) ∧ w' = w := Any.bytes_IndexByte Tryz.lays187 b o n c xs cv w hx hc
theorem Tryz.bytes_IndexByte_nil (cv : Int) (w : World) :
  Calls Tryz.prog 140 #[.slice none 0 0, .int .u8 cv] w fun e w' => e = .returned (.int .i64 (-1)) ∧ w' = w := Any.bytes_IndexByte_nil Tryz.lays187 cv w
def Tryz.sort132_ren : Go.Shelf.Ren := ⟨fun | 6 => 132 | 15 => 173 | 14 => 172 | 28 => 207 | 29 => 208 | 20 => 199 | 21 => 200 | 22 => 201 | 23 => 202 | 24 => 203 | 25 => 204 | 26 => 205 | 27 => 206 | 46 => 223 | 47 => 224 | 48 => 225 | 49 => 226 | 50 => 227 | 57 => 237 | n => n, fun | 22 => 147 | 24 => 149 | 25 => 185 | 3 => 3 | 39 => 230 | 0 => 0 | 53 => 259 | 55 => 261 | 4 => 4 | 46 => 252 | 45 => 251 | 50 => 256 | 5 => 5 | 9 => 9 | 66 => 273 | 70 => 277 | 76 => 284 | 77 => 262 | n => n, fun | n => n⟩
theorem Tryz.sort132 : Go.Proofs.SlLaysF0.n6 Tryz.prog Tryz.sort132_ren := {
 mixed := by kernel_rfl
 f6 := ⟨Tryz.f132.name, by decide, Tryz.func132.trans (congrArg some (by kernel_rfl))⟩
 f14 := ⟨Tryz.f172.name, by decide, Tryz.func172.trans (congrArg some (by kernel_rfl))⟩
 f15 := Tryz.func173.trans (congrArg some (by kernel_rfl))
 f20 := ⟨Tryz.f199.name, by decide, Tryz.func199.trans (congrArg some (by kernel_rfl))⟩
 f21 := ⟨Tryz.f200.name, by decide, Tryz.func200.trans (congrArg some (by kernel_rfl))⟩
 f22 := ⟨Tryz.f201.name, by decide, Tryz.func201.trans (congrArg some (by kernel_rfl))⟩
 f23 := ⟨Tryz.f202.name, by decide, Tryz.func202.trans (congrArg some (by kernel_rfl))⟩
 f24 := ⟨Tryz.f203.name, by decide, Tryz.func203.trans (congrArg some (by kernel_rfl))⟩
 f25 := ⟨Tryz.f204.name, by decide, Tryz.func204.trans (congrArg some (by kernel_rfl))⟩
 f26 := ⟨Tryz.f205.name, by decide, Tryz.func205.trans (congrArg some (by kernel_rfl))⟩
 f27 := ⟨Tryz.f206.name, by decide, Tryz.func206.trans (congrArg some (by kernel_rfl))⟩
 f28 := Tryz.func207.trans (congrArg some (by kernel_rfl))
 f29 := Tryz.func208.trans (congrArg some (by kernel_rfl))
 f46 := ⟨Tryz.f223.name, by decide, Tryz.func223.trans (congrArg some (by kernel_rfl))⟩
 f47 := Tryz.func224.trans (congrArg some (by kernel_rfl))
 f48 := Tryz.func225.trans (congrArg some (by kernel_rfl))
 f49 := ⟨Tryz.f226.name, by decide, Tryz.func226.trans (congrArg some (by kernel_rfl))⟩
 f50 := ⟨Tryz.f227.name, by decide, Tryz.func227.trans (congrArg some (by kernel_rfl))⟩
 f57 := ⟨Tryz.f237.name, by decide, Tryz.func237.trans (congrArg some (by kernel_rfl))⟩
 t0 := Tryz.underlying0
 a0 := Tryz.isAgg0
 z0 := Tryz.sizeOf0
 v0 := Tryz.zeroValue0
 t3 := Tryz.underlying3
 a3 := Tryz.isAgg3
 z3 := Tryz.sizeOf3
 v3 := Tryz.zeroValue3
 t4 := Tryz.underlying4
 a4 := Tryz.isAgg4
 z4 := Tryz.sizeOf4
 v4 := Tryz.zeroValue4
 t5 := Tryz.underlying5
 a5 := Tryz.isAgg5
 z5 := Tryz.sizeOf5
 v5 := Tryz.zeroValue5
 t9 := Tryz.underlying9
 a9 := Tryz.isAgg9
 z9 := Tryz.sizeOf9
 v9 := Tryz.zeroValue9
 t22 := Tryz.underlying147
 a22 := Tryz.isAgg147
 z22 := Tryz.sizeOf147
 v22 := Tryz.zeroValue147
 t25 := Tryz.underlying185
 a25 := Tryz.isAgg185
 z25 := Tryz.sizeOf185
 v25 := Tryz.zeroValue185
 t39 := Tryz.underlying230
 a39 := Tryz.isAgg230
 z39 := Tryz.sizeOf230
 v39 := Tryz.zeroValue230
 t45 := Tryz.underlying251
 a45 := Tryz.isAgg251
 z45 := Tryz.sizeOf251
 v45 := Tryz.zeroValue251
 t46 := Tryz.underlying252
 a46 := Tryz.isAgg252
 z46 := Tryz.sizeOf252
 v46 := Tryz.zeroValue252
 t50 := Tryz.underlying256
 a50 := Tryz.isAgg256
 z50 := Tryz.sizeOf256
 v50 := Tryz.zeroValue256
 t53 := Tryz.underlying259
 a53 := Tryz.isAgg259
 z53 := Tryz.sizeOf259
 v53 := Tryz.zeroValue259
 t55 := Tryz.underlying261
 a55 := Tryz.isAgg261
 z55 := Tryz.sizeOf261
 v55 := Tryz.zeroValue261
 t66 := Tryz.underlying273
 a66 := Tryz.isAgg273
 z66 := Tryz.sizeOf273
 v66 := Tryz.zeroValue273
 t70 := Tryz.underlying277
 a70 := Tryz.isAgg277
 z70 := Tryz.sizeOf277
 v70 := Tryz.zeroValue277
 t76 := Tryz.underlying284
 a76 := Tryz.isAgg284
 z76 := Tryz.sizeOf284
 v76 := Tryz.zeroValue284
 t77 := Tryz.underlying262
 a77 := Tryz.isAgg262
 z77 := Tryz.sizeOf262
 v77 := Tryz.zeroValue262 }
end Go.Proofs
namespace Go.Proofs.YtojbkljfioegkaaGreat
set_option linter.unusedSimpArgs false
set_option linter.unusedVariables false
open Go.RowKit Go.Sort
theorem ut (w : World) (os : Array Obj) : Below w.heap.size w (Go.Sort.grow w os) := ⟨rfl, rfl, rfl, by simp [grow], fun k hk => heap_grow_old w os hk⟩
theorem uu {xs ys : List AV} (h : ys.length = xs.length) : splice xs 0 ys = ys := by
 have hl : 0 + ys.length ≤ xs.length := by omega
 refine List.ext_getElem? fun j => ?_
 rw [fU hl]
 by_cases hj : j < ys.length
 ·rw [if_pos ⟨by omega, by omega⟩, Nat.sub_zero]
 ·rw [if_neg (by omega), List.getElem?_eq_none (by omega), List.getElem?_eq_none (by omega)]
theorem kc {E : Env} : ∀ (l : List (Int × Int)), RelL E (prs l) (d6 l)
 | [] => .nil E
 | p :: l => .cons (.int _ _) (.cons (.int _ _) (kc l))
theorem tv : ∀ (l : List (Int × Int)), (prs l).all AV.one = true
 | [] => rfl
 | p :: l => by rw [cz]; simp [AV.one, tv l]
section
variable {E : Env} {H : ac} {w : World}
theorem Emb.putP (h : Emb E H w) {b q : Nat} {zs ys : List (Int × Int)} (hg : H[b]? = some (.cells true 2 (prs zs))) (hl : ys.length = zs.length) (os : Array Obj) :
  Emb E (H.set b (.cells true 2 (prs ys))) (Go.Sort.grow ((w.drewN q).setCells (E.loc b).blk ((E.loc b).off) (d6 ys)) os) := by
 have h0 : Emb E H (w.drewN q) := h.up (below_drewN (Below.refl _ _) q)
 have hw : awrite H b 0 (prs ys) = some (H.set b (.cells true 2 (prs ys))) := by
  unfold awrite
  rw [hg]
  simp only
  rw [if_pos ⟨by simp [bE, hl], tv ys⟩, uu (by simp [bE, hl])]
 exact ((h0.write (kc ys) hw).2.2.2).up (ut _ os)
end
def encP {α : Type} (val : α → Int × Int) (x : α) : List Value := [.int .i64 (val x).1, .int .i64 (val x).2]
theorem pw {α : Type} [Inhabited α] (val : α → Int × Int) (zs : List α) : flatK (encP val) 2 zs.toArray = (d6 (zs.map val)).toArray := by
 refine ext_get! (by simp [jU]) fun t ht => ?_
 have ht' : t < zs.length * 2 := by simpa using ht
 rw [get_flatK _ _ _ _ (by simpa using ht')]
 have hj : t / 2 < zs.length := by omega
 obtain ⟨e1, e2⟩ := enc2_at (zs.map val) (t / 2) (by simpa using hj)
 have hx : zs.toArray[t / 2]! = zs[t / 2] := by simp [hj]
 rw [hx]
 have hr : (d6 (zs.map val)).toArray[t]! = ((d6 (zs.map val))[t]?).getD default := by simp [List.getElem!_eq_getElem?_getD]
 rw [hr]
 rcases Nat.mod_two_eq_zero_or_one t with h | h
 ·have : t = t / 2 * 2 := by omega
  rw [← this] at e1
  rw [h, e1]
  simp [encP]
 ·have : t = t / 2 * 2 + 1 := by omega
  rw [← this] at e2
  rw [h, e2]
  simp [encP]
set_option linter.unusedSimpArgs false
set_option linter.unusedVariables false
open Go.RowKit
theorem Can.nil : Can [] [] := ⟨.nil, by simp, fun _ _ => rfl⟩
open Go.RowKit Go.Sort
def fN (x y : Int) : Int := if x < y then -1 else if y < x then 1 else 0
def Bd (M : Int) (p : Pt) : Prop := -M ≤ p.1 ∧ p.1 ≤ M ∧ -M ≤ p.2 ∧ p.2 ≤ M
theorem bR {a b A B : Int} (h1 : -A ≤ a ∧ a ≤ A) (h2 : -B ≤ b ∧ b ≤ B) : -(A * B) ≤ a * b ∧ a * b ≤ A * B := by
 have e1 := Int.mul_nonneg (a := A - a) (b := B + b) (by omega) (by omega)
 have e2 := Int.mul_nonneg (a := A + a) (b := B - b) (by omega) (by omega)
 have e3 := Int.mul_nonneg (a := A - a) (b := B - b) (by omega) (by omega)
 have e4 := Int.mul_nonneg (a := A + a) (b := B + b) (by omega) (by omega)
 simp only [Int.sub_mul, Int.add_mul, Int.mul_sub, Int.mul_add] at e1 e2 e3 e4
 omega
theorem isNaN_h (x : Int) (W : World) : Calls Tryz.prog 209 #[.int .i64 x] W fun e w' => e = .returned (.bool false) ∧ w' = W := by
 go_enter Tryz.func209, Tryz.ntmps209
 go_wp2
 go_ret
 exact ⟨by simp, rfl⟩
theorem compare_h (x y : Int) (W : World) : Calls Tryz.prog 175 #[.int .i64 x, .int .i64 y] W fun e w' => e = .returned (.int .i64 (fN x y)) ∧ w' = W := by
 have hcon := isNaN_h
 go_enter Tryz.func175, Tryz.ntmps175
 go_wp2_with (go_at_call 209; refine (hcon _ _).mono ?_; rintro e w' ⟨rfl, rfl⟩)
 ·go_ret
  exact ⟨f0 (by unfold fN; rw [if_pos (by assumption)]), rfl⟩
 ·go_ret
  exact ⟨f0 (by unfold fN; rw [if_neg (by omega), if_pos (by assumption)]), rfl⟩
 ·go_ret
  exact ⟨f0 (by unfold fN; rw [if_neg (by omega), if_neg (by omega)]), rfl⟩
structure Up where
 p : Pt
 up : up p
 bd : Bd 268435456 p
instance : Inhabited Up := ⟨⟨(1, 0), .inr ⟨rfl, by decide⟩, by unfold Bd; simp⟩⟩
open Go.RowKit

def b9 (W H : Int) (xs : List Int) : Bool := decide (1 ≤ W ∧ W ≤ 64 ∧ 1 ≤ H ∧ H ≤ 64 ∧ (xs.length : Int) = W * H ∧ ∀ v ∈ xs, v ≤ 2)
def inB (W H x y : Int) : Bool := decide (0 ≤ x ∧ x < W ∧ 0 ≤ y ∧ y < H)
def atI (W H : Int) (xs : List Int) (x y : Int) : Int := if inB W H x y then gi xs (y * W + x).toNat else 2
structure Vld (W H : Int) (xs : List Int) : Prop where
 w0 : 1 ≤ W
 w1 : W ≤ 64
 h0 : 1 ≤ H
 h1 : H ≤ 64
 len : (xs.length : Int) = W * H
 le : ∀ v ∈ xs, v ≤ 2
theorem cg {W H : Int} {xs : List Int} : b9 W H xs = true ↔ Vld W H xs := by
 unfold b9
 rw [decide_eq_true_iff]
 exact ⟨fun ⟨a, b, c, d, e, f⟩ => ⟨a, b, c, d, e, f⟩, fun ⟨a, b, c, d, e, f⟩ => ⟨a, b, c, d, e, f⟩⟩
theorem vld_false {W H : Int} {xs : List Int} : b9 W H xs = false ↔ ¬ Vld W H xs := by
 rw [← cg]; simp
theorem dK {W H x y : Int} : inB W H x y = true ↔ 0 ≤ x ∧ x < W ∧ 0 ≤ y ∧ y < H := by
 unfold inB; rw [decide_eq_true_iff]
theorem gH {a b : Int} (h0 : 0 ≤ a) (h1 : a ≤ 64) (h2 : 0 ≤ b) (h3 : b ≤ 64) : 0 ≤ a * b ∧ a * b ≤ 4096 :=
 ⟨Int.mul_nonneg h0 h2, Int.le_trans (Int.mul_le_mul h1 h3 h2 (by omega)) (by omega)⟩
theorem Vld.pos {W H : Int} {xs : List Int} (h : Vld W H xs) : 1 ≤ W * H ∧ W * H ≤ 4096 ∧ 0 < xs.length ∧ xs.length ≤ 4096 := by
 have h1 : 1 * 1 ≤ W * H := Int.mul_le_mul h.w0 h.h0 (by omega) (by have := h.w0; omega)
 have h2 := gH (a := W) (b := H) (by have := h.w0; omega) h.w1 (by have := h.h0; omega) h.h1
 have h3 := h.len
 omega
theorem idx_bd {W H x y : Int} (h : inB W H x y = true) : 0 ≤ y * W ∧ 0 ≤ y * W + x ∧ y * W + x < W * H := by
 obtain ⟨a, b, c, d⟩ := dK.1 h
 have h1 : 0 ≤ y * W := Int.mul_nonneg c (by omega)
 have h2 : (y + 1) * W ≤ H * W := Int.mul_le_mul_of_nonneg_right (by omega) (by omega)
 rw [Int.add_mul, Int.one_mul] at h2
 rw [Int.mul_comm W H]
 omega
theorem Vld.idx {W H x y : Int} {xs : List Int} (hv : Vld W H xs) (h : inB W H x y = true) : 0 ≤ y * W ∧ y * W ≤ 4096 ∧ 0 ≤ y * W + x ∧ y * W + x < W * H ∧ (y * W + x).toNat < xs.length ∧ 0 ≤ x ∧ x < 64 ∧ 0 ≤ y ∧ y < 64 := by
 have h1 := idx_bd h
 have h2 := hv.pos
 have h3 := hv.len
 obtain ⟨a, b, c, d⟩ := dK.1 h
 have := hv.w1
 have := hv.h1
 omega
open Go.RowKit
open Go.RowKit

def depI (q z : Bool) (ops : Array Oper) (i j : Nat) : Bool :=
 match ops[i]?, ops[j]? with
 | some a, some b =>
  let free := fun (i : Nat) (a b : Oper) => (match a.dst with | some t => b.dst != some t && !(b.looksAt ops).contains t | none => true) && (!cM q a.op || cL b.op || (!z && (kExt ops i a.op && dc b.op)))
  !(free i a b && free j b a)
 | _, _ => false
def eY (q z : Bool) (ops : Array Oper) (τ : List Nat) : Array Oper :=
 (τ.zipIdx.map fun p => { (ops[p.1]?.getD default) with after := (((List.range p.2).filter fun k => depI q z ops ((τ[k]?).getD 0) p.1).map fun k => (⟨k, .data⟩ : Edge)).toArray, guard := none }).toArray
def dx (l : List Oper) (τ : List Nat) : List LOp := τ.map fun i => ((l[i]?).map fun o => (⟨o.dst, o.op, none⟩ : LOp)).getD ⟨none, .move (.tmp 0), none⟩
def ordB (mk : List Nat) (i j : Nat) : Bool := (mk.getD j 0).testBit i
def loose (q z : Bool) (ops : Array Oper) (mk : List Nat) : List (Nat × Nat) :=
 (List.range ops.size).flatMap fun j => ((List.range j).filter fun i => depI q z ops i j && !ordB mk i j && !ordB mk j i).map fun i => (i, j)
def iT : List (Nat × Nat) → List Bool → List (Nat × Nat)
 | p :: ps, b :: bs => (bif b then p else (p.2, p.1)) :: iT ps bs
 | _, _ => []
def allV : Nat → List (List Bool)
 | 0 => [[]]
 | n + 1 => (allV n).flatMap fun v => [true :: v, false :: v]
def ij (mk : List Nat) (x y : Nat) : Bool := x == y || ordB mk x y
def refuted (mk : List Nat) (O : List (Nat × Nat)) : Bool :=
 (O.any fun a => O.any fun b => ij mk a.2 b.1 && ij mk b.2 a.1) || O.any fun a => O.any fun b => O.any fun c => ij mk a.2 b.1 && ij mk b.2 c.1 && ij mk c.2 a.1
def okRep (q z : Bool) (ops : Array Oper) (mk : List Nat) (O : List (Nat × Nat)) (τ : List Nat) : Bool :=
 (List.range τ.length).all fun k => (List.range k).all fun k' => let i := (τ[k']?).getD 0; let j := (τ[k]?).getD 0; !depI q z ops i j || ordB mk i j || O.contains (i, j)
def coverB (q z : Bool) (ops : Array Oper) (reps : List (List Nat)) : Bool :=
 let mk := fy ops
 let U := loose q z ops mk
 (allV U.length).all fun v => let O := iT U v; refuted mk O || reps.any fun τ => okRep q z ops mk O τ
def permB (n : Nat) (τ : List Nat) : Bool := τ.length == n && ((List.range n).all fun i => τ.contains i) && (τ.all fun i => Nat.blt i n) && (List.range n).all fun k => τ.idxOf ((τ[k]?).getD 0) == k
def strictB (q : Bool) (ops : Array Oper) : Bool :=
 let m := fy ops; ops.toList.zipIdx.all fun p => ops.toList.zipIdx.all fun r => p.2 == r.2 || ((m.getD r.2 0).testBit p.2 || (m.getD p.2 0).testBit r.2 || !cM q p.1.op || cL r.1.op)
theorem tw {q : Bool} {ops : Array Oper} (h : strictB q ops = true) : kG q ops := fun i j a b ha hb hij hc hp => by
 have zi : ∀ i o, ops[i]? = some o → (o, i) ∈ ops.toList.zipIdx := fun i o ho => List.mem_iff_getElem?.2 ⟨i, by simp [List.getElem?_zipIdx, ho]⟩
 have := List.all_eq_true.1 (List.all_eq_true.1 h _ (zi i a ha)) _ (zi j b hb)
 simp only [Bool.or_eq_true, beq_iff_eq] at this
 rcases this with h | ((h | h) | h) | h
 ·exact absurd h hij
 ·exact .inl (dz h)
 ·exact .inr (dz h)
 ·rw [hc] at h; cases h
 ·rw [hp] at h; cases h
def iU (q z : Bool) (N : Nat) (ops : Array Oper) (reps : List (List Nat)) : Bool :=
 (ops.toList.all fun o => o.guard.isNone) && (ops.toList.zipIdx.all fun p => p.1.after.all fun e => !Region.binds .any e || decide (e.on < p.2)) &&
 (reps.all fun τ => permB ops.size τ && eT q N (eY q z ops τ) && (!z || strictB q (eY q z ops τ))) && coverB q z ops reps
section
variable {P : Program} {N n m : Nat} {Q : Exit → Fr → ac → Prop} {q z : Bool} {ops : Array Oper}
theorem idx_ne {a b : Nat} {l : List Nat} (h : a ≠ b) : (a :: l).idxOf b = l.idxOf b + 1 := by
 rw [List.idxOf_cons]
 have : (a == b) = false := by simp [h]
 rw [this]; rfl
inductive ValidL (ops : Array Oper) : Array Bool → List Nat → Prop where
 | nil {listed : Array Bool} : Region.ready .any ops listed = [] → ValidL ops listed []
 | cons {listed : Array Bool} {i : Nat} {π : List Nat} : i ∈ Region.ready .any ops listed → ValidL ops (listed.setIfInBounds i true) π → ValidL ops listed (i :: π)
theorem go_valid : ∀ (fuel t : Nat) (listed : Array Bool), listed.size = ops.size → unl listed.toList ≤ fuel → ValidL ops listed (Region.linearise.go .any ops fuel t listed [])
 | 0, t, listed, hs, hu => by
  refine .nil ?_
  apply List.eq_nil_iff_forall_not_mem.2
  intro j hj
  obtain ⟨h0, o, ho, -⟩ := mem_ready.1 hj
  have hj' := (Array.getElem?_eq_some_iff.1 ho).1
  have hi' : j < listed.toList.length := by simp; omega
  have := List.countP_eq_zero.1 (Nat.le_zero.1 hu) listed.toList[j] (List.getElem_mem hi')
  simp at this
  simp [hs, hj', this] at h0
 | fuel + 1, t, listed, hs, hu => by
  simp only [Region.linearise.go]
  change ValidL ops listed (match (Region.ready .any ops listed)[t % (Region.ready .any ops listed).length]? with
   | some i => Region.linearise.go .any ops fuel (t / (Region.ready .any ops listed).length) (listed.setIfInBounds i true) [i]
   | none => [].reverse)
  cases hi : (Region.ready .any ops listed)[t % (Region.ready .any ops listed).length]? with
  | none =>
   refine .nil ?_
   cases hr : Region.ready .any ops listed with
   | nil => rfl
   | cons x xs =>
    rw [hr] at hi
    have hlt : t % (x :: xs).length < (x :: xs).length := Nat.mod_lt _ (by simp)
    simp at hi
    simp at hlt
    omega
  | some i =>
   simp only []
   rw [linearise_go_acc, List.reverse_singleton, List.singleton_append]
   have hmem := List.mem_of_getElem? hi
   refine .cons hmem (go_valid fuel _ _ (by simp [hs]) ?_)
   obtain ⟨h0, o, ho, -⟩ := mem_ready.1 hmem
   have hj' := (Array.getElem?_eq_some_iff.1 ho).1
   have := unl_set (l := listed.toList) (k := i) (by simp; omega) (by
    rw [Array.getElem?_toList]
    simp [hs, hj'] at h0
    rw [Array.getElem?_eq_getElem (by omega), h0])
   rw [Array.toList_setIfInBounds]
   omega
theorem pA {Q : Exit → Act → World → Prop} : ∀ (π : List Nat) (fuel : Nat) (listed : Array Bool) (a : Act) (w : World), π.length ≤ fuel → wpAny P .any ops Q fuel listed a w → ValidL ops listed π → wpOps P ops Q π a w
 | [], 0, _, _, _, _, h, _ => h.2
 | [], _ + 1, _, _, _, _, h, hv => by cases hv with | nil hr => exact h.1 hr
 | i :: π, 0, _, _, _, hl, _, _ => by simp at hl
 | i :: π, fuel + 1, listed, a, w, hl, h, hv => by
  cases hv with
  | cons hi hv =>
   rw [wpOps_cons]
   exact wpOp_mono (fun a w hh => pA π fuel _ a w (by simp at hl; omega) hh hv) (h.2 i hi)
theorem pB (hback : ∀ (i : Nat) (o : Oper) (e : Edge), ops[i]? = some o → e ∈ o.after → Region.binds .any e = true → e.on < i) : ∀ (π : List Nat) (listed : Array Bool), listed.size = ops.size → ValidL ops listed π →
  (∀ i, i < ops.size → listed.getD i false = false → i ∈ π) ∧ (∀ i ∈ π, i < ops.size ∧ listed.getD i false = false) ∧ π.Nodup ∧ ∀ (j : Nat) (o : Oper) (e : Edge), j ∈ π → ops[j]? = some o → e ∈ o.after → Region.binds .any e = true → listed.getD e.on false = true ∨ π.idxOf e.on < π.idxOf j
 | [], listed, hs, hv => by
  cases hv with
  | nil hr =>
   refine ⟨fun i hi hli => ?_, fun i h => by simp at h, List.nodup_nil, fun j o e h => by simp at h⟩
   exfalso
   have hall : ∀ i, i < ops.size → listed.getD i false = true := by
    intro i
    induction i using Nat.strongRecOn with
    | _ i ihi =>
     intro hi
     cases hli : listed.getD i false with
     | true => rfl
     | false =>
      exfalso
      have ho : ops[i]? = some ops[i] := Array.getElem?_eq_getElem hi
      have : i ∈ Region.ready .any ops listed := mem_ready.2 ⟨by simp [hs, hi] at hli ⊢; exact hli, _, ho, fun e he hb => by
       have hlt := hback i _ e ho he hb
       exact ihi e.on hlt (by omega)⟩
      rw [hr] at this; cases this
   rw [hall i hi] at hli; cases hli
 | i :: π, listed, hs, hv => by
  cases hv with
  | cons hi hv =>
   obtain ⟨h1, h2, h3, h4⟩ := pB hback π _ (by simp [hs]) hv
   obtain ⟨h0, o, ho, hed⟩ := mem_ready.1 hi
   have hin := (Array.getElem?_eq_some_iff.1 ho).1
   have hli : listed.getD i false = false := by simp [hs, hin] at h0 ⊢; exact h0
   have hget : ∀ j, (listed.setIfInBounds i true).getD j false = if j = i then true else listed.getD j false := fun j => by
    by_cases e : j = i
    ·subst e; simp [hs, hin]
    ·rw [if_neg e, getD_set_ne false (fun e' => e e'.symm)]
   have hni : i ∉ π := fun hm => by
    have := (h2 i hm).2
    rw [hget, if_pos rfl] at this; cases this
   refine ⟨fun j hj hjl => ?_, fun j hj => ?_, List.nodup_cons.2 ⟨hni, h3⟩, fun j o' e hj ho' he hb => ?_⟩
   ·by_cases e : j = i
    ·simp [e]
    ·exact List.mem_cons_of_mem _ (h1 j hj (by rw [hget, if_neg e]; exact hjl))
   ·rcases List.mem_cons.1 hj with rfl | hj
    ·exact ⟨hin, hli⟩
    ·have := h2 j hj
     rw [hget] at this
     by_cases e : j = i
     ·rw [if_pos e] at this; cases this.2
     ·rw [if_neg e] at this; exact this
   ·by_cases eji : j = i
    ·subst eji
     rw [ho] at ho'; simp at ho'; subst ho'
     exact .inl (hed e he hb)
    ·have hj' : j ∈ π := (List.mem_cons.1 hj).resolve_left eji
     have hidx : (i :: π).idxOf j = π.idxOf j + 1 := by rw [idx_ne (fun e => eji e.symm)]
     rcases h4 j o' e hj' ho' he hb with h5 | h5
     ·rw [hget] at h5
      by_cases e2 : e.on = i
      ·right; rw [e2, List.idxOf_cons_self, hidx]; omega
      ·rw [if_neg e2] at h5; exact .inl h5
     ·by_cases e2 : e.on = i
      ·right; rw [e2, List.idxOf_cons_self, hidx]; omega
      ·right; rw [idx_ne (fun e' => e2 e'.symm), hidx]; omega
theorem tx : ∀ (v : List Bool), v ∈ allV v.length
 | [] => by simp [allV]
 | b :: v => by
  simp only [List.length_cons, allV, List.mem_flatMap]
  refine ⟨v, tx v, ?_⟩
  cases b <;> simp
theorem pC {rk : Nat → Nat} : ∀ (U : List (Nat × Nat)), (∀ p ∈ U, rk p.1 ≠ rk p.2) → ∀ p ∈ iT U (U.map fun p => decide (rk p.1 < rk p.2)), rk p.1 < rk p.2
 | [], _, p, h => by simp [iT] at h
 | u :: U, hU, p, h => by
  simp only [List.map_cons, iT, List.mem_cons] at h
  rcases h with rfl | h
  ·by_cases hd : rk u.1 < rk u.2
   ·rw [decide_eq_true hd, cond_true]; exact hd
   ·rw [decide_eq_false hd, cond_false]
    have := hU u (by simp)
    show rk u.2 < rk u.1
    omega
  ·exact pC U (fun p hp => hU p (by simp [hp])) p h
theorem cover_rep {reps : List (List Nat)} {rk : Nat → Nat} (hc : coverB q z ops reps = true) (hord : ∀ i j, ordB (fy ops) i j = true → rk i < rk j) (hU : ∀ p ∈ loose q z ops (fy ops), rk p.1 ≠ rk p.2) :
  ∃ τ ∈ reps, ∀ k k' : Nat, k < τ.length → k' < k → depI q z ops ((τ[k']?).getD 0) ((τ[k]?).getD 0) = true → rk ((τ[k']?).getD 0) < rk ((τ[k]?).getD 0) := by
 have hlt := pC (rk := rk) _ hU
 have hv := List.all_eq_true.1 hc ((loose q z ops (fy ops)).map fun p => decide (rk p.1 < rk p.2)) (by
  have := tx ((loose q z ops (fy ops)).map fun p => decide (rk p.1 < rk p.2))
  simpa using this)
 simp only [Bool.or_eq_true] at hv
 have hlink : ∀ x y, ij (fy ops) x y = true → rk x ≤ rk y := fun x y h => by
  unfold ij at h
  simp only [Bool.or_eq_true, beq_iff_eq] at h
  rcases h with rfl | h
  ·exact Nat.le_refl _
  ·exact Nat.le_of_lt (hord _ _ h)
 rcases hv with hv | hv
 ·exfalso
  unfold refuted at hv
  simp only [Bool.or_eq_true, List.any_eq_true, Bool.and_eq_true] at hv
  rcases hv with ⟨a, ha, b, hb, h1, h2⟩ | ⟨a, ha, b, hb, c, hc', ⟨h1, h2⟩, h3⟩
  ·have := hlt a ha; have := hlt b hb; have := hlink _ _ h1; have := hlink _ _ h2; omega
  ·have := hlt a ha; have := hlt b hb; have := hlt c hc'; have := hlink _ _ h1; have := hlink _ _ h2; have := hlink _ _ h3; omega
 ·obtain ⟨τ, hτ, hk⟩ := List.any_eq_true.1 hv
  refine ⟨τ, hτ, fun k k' h1 h2 hd => ?_⟩
  have := List.all_eq_true.1 (List.all_eq_true.1 hk k (List.mem_range.2 h1)) k' (List.mem_range.2 h2)
  simp only [hd, Bool.not_true, Bool.false_or, Bool.or_eq_true] at this
  rcases this with h | h
  ·exact hord _ _ h
  ·exact hlt _ (by simpa using h)
theorem kd {τ : List Nat} {k i : Nat} (hk : τ[k]? = some i) : (eY q z ops τ)[k]? = some { (ops[i]?.getD default) with after := (((List.range k).filter fun k' => depI q z ops ((τ[k']?).getD 0) i).map fun k' => (⟨k', .data⟩ : Edge)).toArray, guard := none } := by
 unfold eY
 simp [List.getElem?_zipIdx, hk]
theorem gI {τ : List Nat} : (eY q z ops τ).size = τ.length := by simp [eY]
theorem uv {A B : List Nat} {i : Nat} (h : (A ++ B).idxOf i < A.length) : i ∈ A := by
 by_cases hi : i ∈ A
 ·exact hi
 ·rw [List.idxOf_append, if_neg hi] at h; omega
theorem validT {τ π0 : List Nat} (hlen : τ.length = ops.size) (hmem : ∀ i, i < ops.size → i ∈ τ) (hpos : ∀ k, k < ops.size → τ.idxOf ((τ[k]?).getD 0) = k) (hin : ∀ i ∈ τ, i < ops.size)
  (hnd : π0.Nodup) (hall : ∀ i, i < ops.size → i ∈ π0) (hπ : ∀ i ∈ π0, i < ops.size)
  (hag : ∀ k k' : Nat, k < τ.length → k' < k → depI q z ops ((τ[k']?).getD 0) ((τ[k]?).getD 0) = true → π0.idxOf ((τ[k']?).getD 0) < π0.idxOf ((τ[k]?).getD 0)) :
  ∀ (π A : List Nat) (L : Array Bool), π0 = A ++ π → L.size = ops.size → (∀ k, k < ops.size → L.getD k false = decide ((τ[k]?).getD 0 ∈ A)) → ValidL (eY q z ops τ) L (π.map fun i => τ.idxOf i)
 | [], A, L, e, hs, hL => by
  refine .nil ?_
  apply List.eq_nil_iff_forall_not_mem.2
  intro k hk
  obtain ⟨h0, o, ho, -⟩ := mem_ready.1 hk
  have hk' := (Array.getElem?_eq_some_iff.1 ho).1
  rw [gI, hlen] at hk'
  have h1 := hL k hk'
  have hτ : τ[k]? = some τ[k] := List.getElem?_eq_getElem (by omega)
  rw [hτ] at h1
  have : τ[k] ∈ A := by
   rw [List.append_nil] at e
   rw [← e]; exact hall _ (hin _ (List.getElem_mem _))
  simp [this] at h1
  simp [hs, hk'] at h0 h1
  rw [h1] at h0; cases h0
 | j :: π, A, L, e, hs, hL => by
  have hj : j < ops.size := hπ j (by rw [e]; simp)
  have hjm := hmem j hj
  have hkl : τ.idxOf j < τ.length := List.idxOf_lt_length_of_mem hjm
  have hτk : τ[τ.idxOf j]? = some j := by rw [List.getElem?_eq_getElem hkl, List.getElem_idxOf]
  have hjA : j ∉ A := fun h => by
   rw [e] at hnd
   exact (List.nodup_append.1 hnd).2.2 j h j (by simp) rfl
  have hget := kd (q := q) (z := z) (ops := ops) hτk
  refine .cons (mem_ready.2 ⟨?_, _, hget, fun ed he _ => ?_⟩) (validT hlen hmem hpos hin hnd hall hπ hag π (A ++ [j]) _ (by rw [e]; simp) (by simp [hs]) fun k hk => ?_)
  ·have := hL (τ.idxOf j) (by omega)
   rw [hτk] at this
   simp [hjA] at this
   show L.getD (τ.idxOf j) true = false
   rw [Array.getD_eq_getD_getElem?]
   rw [Array.getElem?_eq_getElem (by omega)] at this ⊢
   simpa using this
  ·simp only [List.mem_toArray, List.mem_map, List.mem_filter, List.mem_range] at he
   obtain ⟨k', ⟨hk1, hk2⟩, rfl⟩ := he
   have h1 := hag (τ.idxOf j) k' hkl hk1 (by rw [hτk]; exact hk2)
   rw [hτk] at h1
   simp only [Option.getD_some] at h1
   have hjx : π0.idxOf j = A.length := by
    rw [e, List.idxOf_append, if_neg hjA, List.idxOf_cons_self, Nat.zero_add]
   rw [hjx, e] at h1
   have := uv h1
   rw [hL k' (by omega)]
   simp [this]
  ·by_cases ek : k = τ.idxOf j
   ·subst ek
    rw [hτk]
    simp [hs, hj, hlen ▸ hkl]
   ·rw [getD_set_ne false (fun e' => ek e'.symm), hL k hk]
    have hne : (τ[k]?).getD 0 ≠ j := fun h => ek (by have := hpos k hk; rw [h] at this; exact this.symm)
    simp [hne]
theorem wpOps_T {Q : Exit → Act → World → Prop} {τ : List Nat} (hmem : ∀ i, i < ops.size → i ∈ τ) (hg : ∀ (i : Nat) (o : Oper), ops[i]? = some o → o.guard = none) : ∀ (π : List Nat) (a : Act) (w : World), (∀ i ∈ π, i < ops.size) → wpOps P (eY q z ops τ) Q (π.map fun i => τ.idxOf i) a w → wpOps P ops Q π a w
 | [], _, _, _, h => h
 | i :: π, a, w, hπ, h => by
  rw [List.map_cons, wpOps_cons] at h
  rw [wpOps_cons]
  have h1 := wpOp_mono (fun a w hh => wpOps_T hmem hg π a w (fun j hj => hπ j (by simp [hj])) hh) h
  have hi := hπ i (by simp)
  have him := hmem i hi
  have hτk : τ[τ.idxOf i]? = some i := by rw [List.getElem?_eq_getElem (List.idxOf_lt_length_of_mem him), List.getElem_idxOf]
  have ho : ops[i]? = some ops[i] := Array.getElem?_eq_getElem hi
  unfold wpOp at h1 ⊢
  rw [kd hτk] at h1
  rw [ho] at h1 ⊢
  have hgi := hg i _ ho
  simp only [Region.wanted, hgi, if_true, Option.getD_some] at h1 ⊢
  exact h1
theorem pick_opsT {τ : List Nat} (hin : ∀ i ∈ τ, i < ops.size) : (eY q z ops τ).toList.map (lightOf (dsts (eY q z ops τ))) = dx ops.toList τ := by
 refine List.ext_getElem? fun k => ?_
 unfold dx
 rw [List.getElem?_map, List.getElem?_map, Array.getElem?_toList]
 cases hk : τ[k]? with
 | none =>
  have : (eY q z ops τ)[k]? = none := Array.getElem?_eq_none (by rw [gI]; exact List.getElem?_eq_none_iff.1 hk)
  rw [this]; rfl
 | some i =>
  rw [kd hk]
  have hi := hin i (List.mem_of_getElem? hk)
  simp only [Option.map_some, lightOf, Option.map_none]
  rw [Array.getElem?_toList, Array.getElem?_eq_getElem hi]
  rfl
theorem pD : ∀ (n : Nat) (l : List Nat), l.Nodup → (∀ i ∈ l, i < n) → l.length ≤ n
 | 0, l, _, h => by
  cases l with
  | nil => simp
  | cons x l => exact absurd (h x (by simp)) (Nat.not_lt_zero x)
 | n + 1, l, hd, h => by
  have h1 := pD n (l.filter fun i => i != n) (hd.filter _) (fun i hi => by
   simp only [List.mem_filter, bne_iff_ne] at hi
   have := h i hi.1
   omega)
  have h2 := List.length_eq_countP_add_countP (fun i => i != n) (l := l)
  rw [← List.countP_eq_length_filter] at h1
  have h3 : List.countP (fun a => decide ¬(a != n) = true) l = l.count n := by
   unfold List.count
   congr 1
   funext a
   by_cases e : a = n <;> simp [e]
  have h4 := List.nodup_iff_count.1 hd n
  omega
theorem lR {id : Nat} {F : Fr} {H : ac} (hm : P.follows .mixedOrders = true) (reps : List (List Nat)) (hok : iU q z N ops reps = true) (hmz : m = H.length ∨ z = true)
  (hh : ∀ τ ∈ reps, AOpsDL P q m (dx ops.toList τ) F H (fun F' H' => Q .normal F' H')) : AW P N n (.region id ops true) Q F H := by
 intro E w a h1 h2 h3 h4 h5
 unfold iU at hok
 simp only [Bool.and_eq_true] at hok
 obtain ⟨⟨⟨k1, k2⟩, k3⟩, k4⟩ := hok
 have zi : ∀ i o, ops[i]? = some o → (o, i) ∈ ops.toList.zipIdx := fun i o ho => List.mem_iff_getElem?.2 ⟨i, by simp [List.getElem?_zipIdx, ho]⟩
 have hg : ∀ (i : Nat) (o : Oper), ops[i]? = some o → o.guard = none := fun i o ho => by
  have := List.all_eq_true.1 k1 o (by simpa using Array.mem_of_getElem? ho)
  simpa using this
 have hback : ∀ (i : Nat) (o : Oper) (e : Edge), ops[i]? = some o → e ∈ o.after → Region.binds .any e = true → e.on < i := fun i o e ho he hb => by
  have := List.all_eq_true.1 k2 _ (zi i o ho)
  have := Array.all_eq_true_iff_forall_mem.1 this e he
  simpa [hb] using this
 refine wp_region_draw fun t => ?_
 simp only [Region.schedule, hm, Bool.true_or, if_true]
 have hv : ValidL ops (Array.replicate ops.size false) (Region.linearise .any ops t) := go_valid _ t _ (by simp) (by simp [unl, List.countP_replicate])
 generalize Region.linearise .any ops t = π at hv
 have hL : ∀ i, (Array.replicate ops.size false).getD i false = false := fun i => by
  rw [Array.getD_eq_getD_getElem?]
  cases hq : (Array.replicate ops.size false)[i]? with
  | none => rfl
  | some b => rw [Array.getElem?_replicate] at hq; split at hq <;> simp at hq; subst hq; rfl
 obtain ⟨v1, v2, v3, v4⟩ := pB hback π _ (by simp) hv
 have hall : ∀ i, i < ops.size → i ∈ π := fun i hi => v1 i hi (hL i)
 have hπ : ∀ i ∈ π, i < ops.size := fun i hi => (v2 i hi).1
 have hpred : ∀ i j, Pred ops i j → j < ops.size → π.idxOf i < π.idxOf j := fun i j hp => by
  induction hp with
  | edge ho he hb =>
   intro hj
   rcases v4 _ _ _ (hall _ hj) ho he hb with h | h
   ·rw [hL] at h; cases h
   ·exact h
  | step ho he hb _ ih =>
   intro hj
   rcases v4 _ _ _ (hall _ hj) ho he hb with h | h
   ·rw [hL] at h; cases h
   ·exact Nat.lt_trans (ih (by have := hback _ _ _ ho he hb; omega)) h
 have predlt : ∀ i j, Pred ops i j → j < ops.size := fun i j hp => by
  cases hp with
  | edge ho _ _ => exact (Array.getElem?_eq_some_iff.1 ho).1
  | step ho _ _ _ => exact (Array.getElem?_eq_some_iff.1 ho).1
 obtain ⟨τ, hτ, hag⟩ := cover_rep (rk := fun i => π.idxOf i) k4 (fun i j h => hpred i j (dz h) (predlt i j (dz h))) (fun p hp => by
  unfold loose at hp
  simp only [List.mem_flatMap, List.mem_range, List.mem_map, List.mem_filter] at hp
  obtain ⟨j, hj, i, ⟨hi, -⟩, rfl⟩ := hp
  intro e
  have h1 : π[π.idxOf i]? = some i := by rw [List.getElem?_eq_getElem (List.idxOf_lt_length_of_mem (hall i (by omega))), List.getElem_idxOf]
  have h2 : π[π.idxOf j]? = some j := by rw [List.getElem?_eq_getElem (List.idxOf_lt_length_of_mem (hall j hj)), List.getElem_idxOf]
  simp only at e
  rw [e, h2] at h1
  simp at h1; omega)
 have hr := List.all_eq_true.1 k3 τ hτ
 simp only [Bool.and_eq_true] at hr
 obtain ⟨⟨hp, hd⟩, hz⟩ := hr
 unfold permB at hp
 simp only [Bool.and_eq_true, beq_iff_eq] at hp
 obtain ⟨⟨⟨p1, p2⟩, p3⟩, p4⟩ := hp
 have hmem : ∀ i, i < ops.size → i ∈ τ := fun i hi => by
  have := List.all_eq_true.1 p2 i (List.mem_range.2 hi)
  simpa using this
 have hin : ∀ i ∈ τ, i < ops.size := fun i hi => Nat.le_of_ble_eq_true (List.all_eq_true.1 p3 i hi)
 have hpos : ∀ k, k < ops.size → τ.idxOf ((τ[k]?).getD 0) = k := fun k hk => by
  have := List.all_eq_true.1 p4 k (List.mem_range.2 hk)
  simpa using this
 refine wpOps_T (q := q) (z := z) hmem hg π a _ hπ ?_
 have hvT := validT (q := q) (z := z) p1 hmem hpos hin v3 hall hπ hag π [] (Array.replicate (eY q z ops τ).size false) (by simp) (by simp [gI, p1]) (fun k hk => by
  rw [Array.getD_eq_getD_getElem?]
  cases hq : (Array.replicate (eY q z ops τ).size false)[k]? with
  | none => simp
  | some b => rw [Array.getElem?_replicate] at hq; split at hq <;> simp at hq; subst hq; simp)
 have hany := jZ (P := P) (N := N) (n := n) (Q := Q) q hd (hmz.imp (fun e => Nat.le_of_eq e) fun e => tw (by rw [e] at hz; simpa [e] using hz)) (fc (eY q z ops τ).toList F H (by rw [pick_opsT hin]; exact hh τ hτ)) h1 h2 h3 h4 h5
 refine pA _ _ _ _ _ ?_ hany hvT
 rw [List.length_map, gI, p1]
 have := pD ops.size π v3 hπ
 omega
theorem lr {c : Code} {Q : Exit → Fr → ac → Prop} {σ : Nat → Nat} {F F2 : Fr} {H H2 : ac} (ab : Abs n σ F H F2 H2) (h : AW P N n c Q F2 H2) : AW P N n c Q F H := by
 intro E w a h1 h2 h3 h4 h5
 obtain ⟨E', hle, f, e⟩ := ab.emb h1 h4 h5
 exact wp_mono (h E' w a hle.n h2 h3 f e) fun e a w hh => LiftQ.shift hle hh
theorem jo {a b : Code} {F : Fr} {H : ac} (q : Bool) (hm : P.follows .mixedOrders = true) (hc : cZ N q a = true) (J : Fr → ac → Prop) (h1 : AGo P N n q Q [.code a, .inv J] F H) (h2 : ∀ F H, J F H → AW P N n b Q F H) : AW P N n (.seq a b) Q F H := by
 refine fC (AW.mono (fz hm a hc _ F H h1) fun e F H hq => ?_)
 cases e <;> first | exact h2 F H hq | exact hq
theorem aI {a : Code} {F : Fr} {H : ac} (q : Bool) (hm : P.follows .mixedOrders = true) (hc : cZ N q a = true) (h : AGo P N n q Q [.code a] F H) : AW P N n a Q F H := fz hm a hc _ F H h
theorem cm {id : Nat} {b : Code} {F : Fr} {H : ac} (q : Bool) (hm : P.follows .mixedOrders = true) (reps : List (List Nat)) (hok : iU q false N ops reps = true) (I : Fr → ac → Prop)
  (h1 : ∀ τ ∈ reps, ∀ J : Fr → ac → Prop, (∀ F' H', (∃ σ F2 H2, I F2 H2 ∧ Abs n σ F' H' F2 H2) → J F' H') → AGo P N n q Q [.opsD H.length (dx ops.toList τ), .inv J] F H) (h2 : ∀ F2 H2, I F2 H2 → AW P N n b Q F2 H2) : AW P N n (.seq (.region id ops true) b) Q F H := by
 refine fC (AW.mono (lR (Q := ej (fun F' H' => ∃ σ F2 H2, I F2 H2 ∧ Abs n σ F' H' F2 H2) Q) hm reps hok (.inl rfl) fun τ hτ => ?_) fun e F H hq => ?_)
 ·exact h1 τ hτ (fun F' H' => ∃ σ F2 H2, I F2 H2 ∧ Abs n σ F' H' F2 H2) (fun _ _ h => h)
 ·cases e with
  | normal =>
   obtain ⟨σ, F2, H2, hi, ab⟩ := hq
   exact lr ab (h2 F2 H2 hi)
  | _ => exact hq
theorem jQ {id : Nat} {b : Code} {F : Fr} {H : ac} (q : Bool) (hm : P.follows .mixedOrders = true) (reps : List (List Nat)) (hok : iU q true N ops reps = true) (I : Fr → ac → Prop)
  (h1 : ∀ τ ∈ reps, ∀ J : Fr → ac → Prop, (∀ F' H', (∃ σ F2 H2, I F2 H2 ∧ Abs n σ F' H' F2 H2) → J F' H') → AGo P N n q Q [.opsD (H.length + 1000000) (dx ops.toList τ), .inv J] F H) (h2 : ∀ F2 H2, I F2 H2 → AW P N n b Q F2 H2) : AW P N n (.seq (.region id ops true) b) Q F H := by
 refine fC (AW.mono (lR (m := H.length + 1000000) (Q := ej (fun F' H' => ∃ σ F2 H2, I F2 H2 ∧ Abs n σ F' H' F2 H2) Q) hm reps hok (.inr rfl) fun τ hτ => ?_) fun e F H hq => ?_)
 ·exact h1 τ hτ (fun F' H' => ∃ σ F2 H2, I F2 H2 ∧ Abs n σ F' H' F2 H2) (fun _ _ h => h)
 ·cases e with
  | normal =>
   obtain ⟨σ, F2, H2, hi, ab⟩ := hq
   exact lr ab (h2 F2 H2 hi)
  | _ => exact hq
theorem aR {p : List Nat → Prop} {τ : List Nat} {l : List (List Nat)} (h : p τ) (h2 : ∀ τ ∈ l, p τ) : ∀ τ' ∈ τ :: l, p τ' := fun τ' h' => by
 rcases List.mem_cons.1 h' with rfl | h'
 ·exact h
 ·exact h2 _ h'
theorem cn {p : List Nat → Prop} : ∀ τ' ∈ ([] : List (List Nat)), p τ' := fun τ' h => by simp at h
theorem aZ {J : Fr → ac → Prop} {r : List It} {F : Fr} {H : ac} (h : J F H) : AGo P N n q Q (.inv J :: r) F H := h
theorem bK {f : FuncId} {fn : Func} {args : List AV} {R : AV → ac → Prop} {H : ac} (hf : P.funcs[f]? = some fn) (N : Nat) (hN : fn.ntmps = N) (ha : args.length ≤ N) (hsome : fn.body.isSome = true)
  (h : HBel H.length H → ∀ Q, (∀ F H', dp P fn H.length R .ret F H' → eC Q F H') → (∀ F H', dp P fn H.length R .normal F H' → Q .normal F H') → ∀ c, fn.body = some c → AW P N H.length c Q (argF 0 args) H) : ACalls P f args H R := by
 cases hb : fn.body with
 | none => rw [hb] at hsome; cases hsome
 | some c => exact iM hf hb hN ha fun hbel => h hbel (dp P fn H.length R) (fun _ _ k => k) (fun _ _ k => k) c hb
def dW (N : Nat) (q : Bool) : Code → Bool
 | .seq a b => dW N q a && dW N q b
 | .cond _ a b => dW N q a && dW N q b
 | .block _ c => dW N q c
 | .region _ ops draw => bif draw then eT q N ops else iG N ops
 | _ => true
theorem gU (hm : P.follows .mixedOrders = true) : ∀ (c : Code), dW N q c = true → ∀ (Q : Exit → Fr → ac → Prop) (F : Fr) (H : ac), AWr P N n q c Q F H → AW P N n c Q F H
 | .skip, _, _, _, _, h => AW_skip h
 | .label _, _, _, _, _, h => pX h
 | .seq a b, hc, Q, F, H, h => by
  simp only [dW, Bool.and_eq_true] at hc
  refine fC (AW.mono (gU hm a hc.1 _ F H h) fun e F H hq => ?_)
  cases e with
  | normal => exact gU hm b hc.2 _ F H hq
  | _ => exact hq
 | .cond c a b, hc, Q, F, H, h => by
  simp only [dW, Bool.and_eq_true] at hc
  obtain ⟨t, h1, h2, h3⟩ := h
  exact ga t h1 (fun e => gU hm a hc.1 _ F H (h2 e)) (fun e => gU hm b hc.2 _ F H (h3 e))
 | .block id c, hc, Q, F, H, h => jX (gU hm c hc _ F H h)
 | .exit _, _, _, _, _, h => AW_exit h
 | .ret, _, _, _, _, h => AW_ret h
 | .region id ops draw, hc, Q, F, H, h => by
  cases draw
  ·exact me hc (jf _ _ _ h)
  ·exact AW_draw q hm hc (fc _ _ _ h)
 | .loop c, _, _, _, _, h => h
 | .rangeFunc .., _, _, _, _, h => h.elim
 | .scope _, _, _, _, _, h => h.elim
 | .goto _, _, _, _, _, h => h.elim
 | .refuse _, _, _, _, _, h => h.elim
theorem uh {f : FuncId} {fn : Func} {args : List AV} {R : AV → ac → Prop} {H : ac} (hm : P.follows .mixedOrders = true) (hf : P.funcs[f]? = some fn) (q : Bool) (N : Nat) (hN : fn.ntmps = N) (ha : args.length ≤ N)
  (hc : (fn.body.map (dW N q)) = some true) (h : HBel H.length H → ∀ Q, (∀ F H', dp P fn H.length R .ret F H' → eC Q F H') → (∀ F H', dp P fn H.length R .normal F H' → Q .normal F H') → ∀ c, fn.body = some c → AGo P N H.length q Q [.code c] (argF 0 args) H) : ACalls P f args H R := by
 cases hb : fn.body with
 | none => rw [hb] at hc; cases hc
 | some c =>
  rw [hb] at hc
  simp at hc
  exact iM hf hb hN ha fun hbel => gU hm c hc _ _ _ (h hbel (dp P fn H.length R) (fun _ _ k => k) (fun _ _ k => k) c hb)
theorem aO {a b : Code} {F : Fr} {H : ac} (h : ∀ Q2 : Exit → Fr → ac → Prop, (∀ F H, AW P N n b Q F H → Q2 .normal F H) → (∀ F H, eC Q F H → eC Q2 F H) → (∀ id F H, Q (.exit id) F H → Q2 (.exit id) F H) → AW P N n a Q2 F H) : AW P N n (.seq a b) Q F H :=
 fC (h (ej (fun F H => AW P N n b Q F H) Q) (fun _ _ k => k) (fun _ _ k => k) (fun _ _ _ k => k))
theorem dM {id : Nat} {c : Code} {F : Fr} {H : ac} (h : ∀ Q2 : Exit → Fr → ac → Prop, (∀ F H, Q .normal F H → Q2 .normal F H) → (∀ F H, eC Q F H → eC Q2 F H) → (∀ id', id' ≠ id → ∀ F H, Q (.exit id') F H → Q2 (.exit id') F H) → (∀ F H, Q .normal F H → Q2 (.exit id) F H) → AW P N n c Q2 F H) : AW P N n (.block id c) Q F H :=
 jX (h (d8 id Q) (fun _ _ k => k) (fun _ _ k => k) (fun id' hne F H k => by simp only [d8]; rw [if_neg hne]; exact k) (fun F H k => by simp only [d8, if_true]; exact k))
theorem go_loopA {c : Code} {r : List It} {F : Fr} {H : ac} (I : Nat → Fr → ac → Prop) (k0 : Nat) (h0 : ∃ σ F2 H2, I k0 F2 H2 ∧ Abs n σ F H F2 H2)
  (round : ∀ k F H, I k F H → ∀ Q2 : Exit → Fr → ac → Prop, (∀ F' H', (∃ k', k' < k ∧ ∃ σ F2 H2, I k' F2 H2 ∧ Abs n σ F' H' F2 H2) → Q2 .normal F' H') → (∀ F H, eC Q F H → eC Q2 F H) → (∀ id F H, gG P N n q Q id r F H → Q2 (.exit id) F H) → AW P N n c Q2 F H) : AGo P N n q Q (.code (.loop c) :: r) F H :=
 lL I k0 h0 fun k F H hi => round k F H hi (ej _ (St P N n q Q r)) (fun _ _ k => k) (fun F H k => by show St P N n q Q r .ret F H; rw [fe]; exact k) (fun _ _ _ k => k)
theorem ke {c : Code} {F : Fr} {H : ac} (I : Nat → Fr → ac → Prop) (k0 : Nat) (h0 : ∃ σ F2 H2, I k0 F2 H2 ∧ Abs n σ F H F2 H2)
  (round : ∀ k F H, I k F H → ∀ Q2 : Exit → Fr → ac → Prop, (∀ F' H', (∃ k', k' < k ∧ ∃ σ F2 H2, I k' F2 H2 ∧ Abs n σ F' H' F2 H2) → Q2 .normal F' H') → (∀ F H, eC Q F H → eC Q2 F H) → (∀ id F H, Q (.exit id) F H → Q2 (.exit id) F H) → AW P N n c Q2 F H) : AW P N n (.loop c) Q F H :=
 lL I k0 h0 fun k F H hi => round k F H hi (ej _ Q) (fun _ _ k => k) (fun F H k => k) (fun _ _ _ k => k)
theorem AcT (q : Bool) {f : FuncId} {fn : Func} {args : List AV} {R : AV → ac → Prop} {H : ac} (hf : P.funcs[f]? = some fn) {c : Code} (h : HBel H.length H → ∀ Q : Exit → Fr → ac → Prop, (∀ F H', dp P fn H.length R .ret F H' → eC Q F H') → AGo P fn.ntmps H.length q Q [.code c] (argF 0 args) H)
  (hb : fn.body = some c := by rfl) (hm : P.follows .mixedOrders = true := by exact try_mixed) (ha : args.length ≤ fn.ntmps := by exact Nat.le_of_ble_eq_true (by kernel_rfl)) (hc : cZ fn.ntmps q c = true := by kernel_rfl) : ACalls P f args H R :=
 cl hm hf q _ rfl ha (by rw [hb]; exact congrArg some hc) fun hbel Q hQ _ c' hc' => by
  rw [hb] at hc'
  injection hc' with hc'
  subst hc'
  exact h hbel Q hQ
theorem AcL (q : Bool) {f : FuncId} {fn : Func} {args : List AV} {R : AV → ac → Prop} {H : ac} (hf : P.funcs[f]? = some fn) {c : Code} (h : HBel H.length H → ∀ Q : Exit → Fr → ac → Prop, (∀ F H', dp P fn H.length R .ret F H' → eC Q F H') → AGo P fn.ntmps H.length q Q [.code c] (argF 0 args) H)
  (hb : fn.body = some c := by rfl) (hm : P.follows .mixedOrders = true := by exact try_mixed) (ha : args.length ≤ fn.ntmps := by exact Nat.le_of_ble_eq_true (by kernel_rfl)) (hc : dW fn.ntmps q c = true := by kernel_rfl) : ACalls P f args H R :=
 uh hm hf q _ rfl ha (by rw [hb]; exact congrArg some hc) fun hbel Q hQ _ c' hc' => by
  rw [hb] at hc'
  injection hc' with hc'
  subst hc'
  exact h hbel Q hQ
end
set_option linter.unusedSimpArgs false
set_option linter.unusedVariables false
open Go.RowKit



inductive FT where
 | nil
 | leaf (x : AV)
 | node (l r : FT)
def FT.get : Nat → FT → Nat → AV
 | 0, f, _ => (match f with | .leaf x => x | _ => .any)
 | d + 1, f, t => (match f with | .node l r => bif Nat.beq (t % 2) 0 then FT.get d l (t / 2) else FT.get d r (t / 2) | _ => .any)
def FT.set : Nat → Nat → AV → FT → FT
 | 0, _, x, _ => .leaf x
 | d + 1, t, x, f => (match f with
  | .node l r => bif Nat.beq (t % 2) 0 then .node (FT.set d (t / 2) x l) r else .node l (FT.set d (t / 2) x r)
  | _ => bif Nat.beq (t % 2) 0 then .node (FT.set d (t / 2) x .nil) .nil else .node .nil (FT.set d (t / 2) x .nil))
def getT (f : FT) (t : Nat) : AV := bif Nat.blt t 1024 then FT.get 10 f t else .any
def ev (f : FT) : Operand → AV
 | .tmp t => getT f t
 | .const v => AV.ofValue v
 | .global _ => .any
 | .func g => .fn g []
abbrev Caller := FuncId → List AV → ac → Option (AV × Option ac)
def CallOk (P : Program) (call : Caller) : Prop := ∀ f args H x o, call f args H = some (x, o) → dn P f = true ∧ H.length ≤ (o.getD H).length ∧ ACalls P f args H (fun y H1 => y = x ∧ H1 = o.getD H)
section
section
variable {P : Program} {N n m : Nat} {d : Option Nat} {q keep : Bool} {call : Caller}
theorem Rel.env {E E' : Env} {x : AV} {v : Value} (h : Rel E x v) (hn : E'.n = E.n) (hl : ∀ b, E'.loc b = E.loc b) : Rel E' x v := by
 induction h with
 | any v => exact .any v
 | int k n => exact .int k n
 | bool b => exact .bool b
 | str s => exact .str s
 | nilptr => exact .nilptr
 | ptr b o hb => rw [← hl b]; exact .ptr b o (by rw [hn]; exact hb)
 | nilsl => exact .nilsl
 | nils b cap hb hc => exact .nils b cap (by rw [hn]; exact hb) hc
 | sl b o len cap c a hb h1 h2 h3 h4 h5 => exact .sl b o len cap c a (by rw [hn]; exact hb) h1 h2 h3 (by rw [hl]; exact h4) (by rw [hl]; exact h5)
 | nilmp => exact .nilmp
 | mp b hb => rw [← hl b]; exact .mp b (by rw [hn]; exact hb)
 | nilfn => exact .nilfn
 | fn f caps cs hl' _ ih => exact .fn f caps cs hl' ih
 | agg xs cs hl' _ ih => exact .agg xs cs hl' ih
 | tup xs cs hl' _ ih => exact .tup xs cs hl' ih
theorem RelL.env {E E' : Env} {xs : List AV} {vs : List Value} (h : RelL E xs vs) (hn : E'.n = E.n) (hl : ∀ b, E'.loc b = E.loc b) : RelL E' xs vs := ⟨h.1, fun i x v hx hv => (h.2 i x v hx hv).env hn hl⟩
theorem BlkOk.env {E E' : Env} {w : World} {L : Loc} {x : ABlk} (h : BlkOk E w L x) (hB : E'.B = E.B) (hn : E'.n = E.n) (hl : ∀ b, E'.loc b = E.loc b) : BlkOk E' w L x := by
 cases x with
 | dead => trivial
 | cells own es xs =>
  obtain ⟨h1, h2, h3, h4⟩ := h
  refine ⟨fun j x hj => ?_, fun ho => by rw [hB]; exact h2 ho, fun ho hl => by rw [hB]; exact h3 ho hl, h4⟩
  obtain ⟨a, v, hv, hr⟩ := h1 j x hj
  exact ⟨a, v, hv, hr.env hn hl⟩
 | map es =>
  obtain ⟨h1, h2, ents, clock, h3, h4, h5⟩ := h
  exact ⟨by rw [hB]; exact h1, h2, ents, clock, h3, h4.env hn hl, h5.env hn hl⟩
theorem Abs0.same (n : Nat) {F G : Fr} (h : look F = look G) {H : ac} (hn : n ≤ H.length) : Abs0 n id F H G H where
 small _ _ := rfl
 len := hn
 frame E E' h1 h2 h3 t v hv := by
  rw [← h]
  exact hv.env (h2.trans h1.symm) h3
 heap E E' h1 h2 h3 h4 w hw b x hx := by
  rw [h4 b]
  exact (hw b x hx).env h3 (h2.trans h1.symm) h4
 inj b c x y hx hy ox oy hbc := ⟨hbc, ⟨x, hx, ox⟩, y, hy, oy⟩
theorem Abs.same (n : Nat) {F G : Fr} (h : look F = look G) {H : ac} (hn : n ≤ H.length) : Abs n id F H G H := (Abs0.same n h hn).abs
inductive TbOk (P : Program) : List (Nat × Bool × Func) → Prop where
 | nil : TbOk P []
 | cons {f : Nat} {q : Bool} {fn : Func} {r : List (Nat × Bool × Func)} : dn P f = true → P.funcs[f]? = some fn → (fn.body.map (cZ fn.ntmps q)) = some true → TbOk P r → TbOk P ((f, q, fn) :: r)
end
end
noncomputable def tb : List (Nat × Bool × Func) := [(36, false, Tryz.f36), (44, false, Tryz.f44), (66, false, Tryz.f66), (71, false, Tryz.f71), (74, false, Tryz.f74), (86, false, Tryz.f86), (93, false, Tryz.f93), (97, false, Tryz.f97), (105, false, Tryz.f105), (121, false, Tryz.f121), (132, false, Tryz.f132), (134, false, Tryz.f134), (135, false, Tryz.f135), (147, false, Tryz.f147), (171, false, Tryz.f171), (172, false, Tryz.f172), (174, false, Tryz.f174), (175, false, Tryz.f175), (198, false, Tryz.f198), (199, false, Tryz.f199), (200, false, Tryz.f200), (201, false, Tryz.f201), (202, false, Tryz.f202), (203, false, Tryz.f203), (204, false, Tryz.f204), (205, false, Tryz.f205), (206, false, Tryz.f206), (209, false, Tryz.f209), (223, false, Tryz.f223), (224, false, Tryz.f224), (226, false, Tryz.f226), (227, false, Tryz.f227), (237, false, Tryz.f237)]
end Go.Proofs.YtojbkljfioegkaaGreat
