/- An abstract machine beside the model: values and memory by block numbers of its own, and what they mean in a world. Conditions: none. -/
import Derived.Test.YtjfnbcifafmefaaSeg
import Derived.Laws.IdiomCopy
import Derived.Laws.StructEq
import Derived.ChangeKeysEq
import Derived.Laws.Tables
namespace Go.Proofs.Ytjfnbcifafmefaa
set_option linter.unusedSimpArgs false
set_option linter.unusedVariables false
open Go.RowKit

/-- A value as the abstract machine has it; 'any' says nothing. -/
inductive AV where
  | any
  | int (k : IntKind) (n : Int)
  | bool (b : Bool)
  | str (s : List UInt8)
  | ptr (a : Option (Nat × Nat))
  | sl (a : Option (Nat × Nat)) (len : Nat) (cap : Option Nat)
  | mp (r : Option Nat)
  | fn (f : FuncId) (caps : List AV)
  | nilfn
  | agg (cs : List AV)
  | tup (vs : List AV)
  deriving Inhabited
/-- A value of one cell that is known. -/
def AV.one : AV → Bool
  | .any | .agg _ | .tup _ => false
  | _ => true
def AV.cells : AV → List AV
  | .agg cs => cs
  | v => [v]
/-- A block: nothing is said of it; cells (its own or the caller's; the size of an element of it; what they hold); a map. -/
inductive ABlk where
  | dead
  | cells (own : Bool) (es : Nat) (xs : List AV)
  | map (es : List (AV × AV))
  deriving Inhabited
def ABlk.owned : ABlk → Bool
  | .cells o _ _ => o
  | .map _ => true
  | .dead => false
abbrev AHeap := List ABlk
/-- Where a block lies: the world's block, the offset, how many cells from there on, an element's size. -/
structure Loc where
  blk : Nat
  off : Nat
  sz : Nat
  es : Nat
structure Env where
  B : Nat
  w0 : World
  n : Nat
  loc : Nat → Loc
structure Env.le (E E' : Env) : Prop where
  B : E'.B = E.B
  w0 : E'.w0 = E.w0
  n : E.n ≤ E'.n
  loc : ∀ b, b < E.n → E'.loc b = E.loc b
theorem Env.le.refl (E : Env) : E.le E := ⟨rfl, rfl, Nat.le_refl _, fun _ _ => rfl⟩
theorem Env.le.trans {E E' E'' : Env} (h : E.le E') (k : E'.le E'') : E.le E'' :=
  ⟨k.B.trans h.B, k.w0.trans h.w0, Nat.le_trans h.n k.n, fun b hb => (k.loc b (Nat.lt_of_lt_of_le hb h.n)).trans (h.loc b hb)⟩
/-- One more block. -/
def Env.push (E : Env) (L : Loc) : Env := { E with n := E.n + 1, loc := fun b => if b = E.n then L else E.loc b }
theorem Env.le_push (E : Env) (L : Loc) : E.le (E.push L) := ⟨rfl, rfl, Nat.le_succ _, fun b hb => by simp [Env.push]; omega⟩
theorem Env.push_new (E : Env) (L : Loc) : (E.push L).loc E.n = L := by simp [Env.push]
theorem Env.push_old (E : Env) (L : Loc) {b : Nat} (h : b < E.n) : (E.push L).loc b = E.loc b := by simp [Env.push]; omega

/-- What an abstract value means. -/
inductive Rel (E : Env) : AV → Value → Prop where
  | any (v) : Rel E .any v
  | int (k n) : Rel E (.int k n) (.int k n)
  | bool (b) : Rel E (.bool b) (.bool b)
  | str (s : List UInt8) : Rel E (.str s) (.string ⟨s.toArray⟩)
  | nilptr : Rel E (.ptr none) (.pointer none)
  | ptr (b o : Nat) : b < E.n → Rel E (.ptr (some (b, o))) (.pointer (some ⟨(E.loc b).blk, (E.loc b).off + o, none⟩))
  | nilsl : Rel E (.sl none 0 (some 0)) (.slice none 0 0)
  | nils (b cap) : b < E.n → (cap = none ∨ cap = some 0) → Rel E (.sl (some (b, 0)) 0 cap) (.slice none 0 0)
  | sl (b o len cap c a) : b < E.n → len ≤ c → c ≤ maxLen → (cap = none ∨ cap = some c) → (c = 0 ∨ a = ⟨(E.loc b).blk, (E.loc b).off + o, none⟩) →
      o + c * (E.loc b).es ≤ (E.loc b).sz → Rel E (.sl (some (b, o)) len cap) (.slice (some a) len c)
  | nilmp : Rel E (.mp none) (.map none)
  | mp (b) : b < E.n → Rel E (.mp (some b)) (.map (some (E.loc b).blk))
  | nilfn : Rel E .nilfn .nilFunc
  | fn (f) (caps : List AV) (cs : Array Value) : caps.length = cs.size → (∀ (i : Nat) (x : AV) (v : Value), caps[i]? = some x → cs[i]? = some v → Rel E x v) → Rel E (.fn f caps) (.func (.func f) #[] cs)
  | agg (xs : List AV) (cs : Array Value) : xs.length = cs.size → (∀ (i : Nat) (x : AV) (v : Value), xs[i]? = some x → cs[i]? = some v → Rel E x v) → Rel E (.agg xs) (.agg cs)
  | tup (xs : List AV) (cs : Array Value) : xs.length = cs.size → (∀ (i : Nat) (x : AV) (v : Value), xs[i]? = some x → cs[i]? = some v → Rel E x v) → Rel E (.tup xs) (.tuple cs)
theorem Rel.mono {E E' : Env} {x : AV} {v : Value} (h : Rel E x v) (he : E.le E') : Rel E' x v := by
  induction h with
  | any v => exact .any v
  | int k n => exact .int k n
  | bool b => exact .bool b
  | str s => exact .str s
  | nilptr => exact .nilptr
  | ptr b o hb => rw [← he.loc b hb]; exact .ptr b o (Nat.lt_of_lt_of_le hb he.n)
  | nilsl => exact .nilsl
  | nils b cap hb hc => exact .nils b cap (Nat.lt_of_lt_of_le hb he.n) hc
  | sl b o len cap c a hb h1 h2 h3 h4 h5 =>
    have e := he.loc b hb
    exact .sl b o len cap c a (Nat.lt_of_lt_of_le hb he.n) h1 h2 h3 (by rw [e]; exact h4) (by rw [e]; exact h5)
  | nilmp => exact .nilmp
  | mp b hb => rw [← he.loc b hb]; exact .mp b (Nat.lt_of_lt_of_le hb he.n)
  | nilfn => exact .nilfn
  | fn f caps cs hl _ ih => exact .fn f caps cs hl ih
  | agg xs cs hl _ ih => exact .agg xs cs hl ih
  | tup xs cs hl _ ih => exact .tup xs cs hl ih
theorem Rel.one {E : Env} {x : AV} {v : Value} (h : Rel E x v) (ho : x.one = true) : v.oneCell' = true := by
  cases h <;> first | rfl | (simp [AV.one] at ho)
/-- Lists of values. -/
def RelL (E : Env) (xs : List AV) (vs : List Value) : Prop := xs.length = vs.length ∧ ∀ (i : Nat) (x : AV) (v : Value), xs[i]? = some x → vs[i]? = some v → Rel E x v
theorem RelL.mono {E E' : Env} {xs : List AV} {vs : List Value} (h : RelL E xs vs) (he : E.le E') : RelL E' xs vs := ⟨h.1, fun i x v hx hv => (h.2 i x v hx hv).mono he⟩
theorem RelL.nil (E : Env) : RelL E [] [] := ⟨rfl, fun i x v h => by simp at h⟩
theorem RelL.cons {E : Env} {x : AV} {v : Value} {xs : List AV} {vs : List Value} (h : Rel E x v) (hs : RelL E xs vs) : RelL E (x :: xs) (v :: vs) :=
  ⟨by simp [hs.1], fun i y u hy hu => by
    cases i with
    | zero => simp at hy hu; subst hy hu; exact h
    | succ i => exact hs.2 i y u (by simpa using hy) (by simpa using hu)⟩
theorem RelL.uncons {E : Env} {x : AV} {v : Value} {xs : List AV} {vs : List Value} (h : RelL E (x :: xs) (v :: vs)) : Rel E x v ∧ RelL E xs vs :=
  ⟨h.2 0 x v rfl rfl, by have := h.1; simpa using this, fun i y u hy hu => h.2 (i + 1) y u (by simpa using hy) (by simpa using hu)⟩
theorem RelL.append {E : Env} {xs ys : List AV} {vs us : List Value} (h : RelL E xs vs) (k : RelL E ys us) : RelL E (xs ++ ys) (vs ++ us) :=
  ⟨by simp [h.1, k.1], fun i x v hx hv => by
    rw [List.getElem?_append] at hx hv
    rw [h.1] at hx
    by_cases hi : i < vs.length
    · rw [if_pos hi] at hx hv; exact h.2 i x v hx hv
    · rw [if_neg hi] at hx hv; exact k.2 _ x v hx hv⟩
theorem RelL.get {E : Env} {xs : List AV} {vs : List Value} (h : RelL E xs vs) {i : Nat} {x : AV} (hx : xs[i]? = some x) : ∃ v, vs[i]? = some v ∧ Rel E x v := by
  have hi : i < xs.length := by
    rcases Nat.lt_or_ge i xs.length with h | h
    · exact h
    · rw [List.getElem?_eq_none h] at hx; cases hx
  have hv : vs[i]? = some (vs[i]'(by rw [← h.1]; exact hi)) := List.getElem?_eq_getElem _
  exact ⟨_, hv, h.2 i x _ hx hv⟩
theorem RelL.drop {E : Env} {xs : List AV} {vs : List Value} (h : RelL E xs vs) (k : Nat) : RelL E (xs.drop k) (vs.drop k) :=
  ⟨by simp [h.1], fun i x v hx hv => h.2 (k + i) x v (by simpa using hx) (by simpa using hv)⟩
theorem RelL.take {E : Env} {xs : List AV} {vs : List Value} (h : RelL E xs vs) (k : Nat) : RelL E (xs.take k) (vs.take k) :=
  ⟨by simp [h.1], fun i x v hx hv => by
    rw [List.getElem?_take] at hx hv
    split at hx
    · exact h.2 i x v hx (by simpa [*] using hv)
    · cases hx⟩
theorem RelL.agg {E : Env} {xs : List AV} {vs : List Value} (h : RelL E xs vs) : Rel E (.agg xs) (.agg vs.toArray) :=
  .agg xs _ (by simp [h.1]) fun i x v hx hv => h.2 i x v hx (by simpa using hv)
theorem RelL.tup {E : Env} {xs : List AV} {vs : List Value} (h : RelL E xs vs) : Rel E (.tup xs) (.tuple vs.toArray) :=
  .tup xs _ (by simp [h.1]) fun i x v hx hv => h.2 i x v hx (by simpa using hv)
theorem RelL.fn {E : Env} {f : FuncId} {xs : List AV} {vs : List Value} (h : RelL E xs vs) : Rel E (.fn f xs) (.func (.func f) #[] vs.toArray) :=
  .fn f xs _ (by simp [h.1]) fun i x v hx hv => h.2 i x v hx (by simpa using hv)
theorem RelL.of_agg {E : Env} {xs : List AV} {cs : Array Value} (h : Rel E (.agg xs) (.agg cs)) : RelL E xs cs.toList := by
  cases h with
  | agg _ _ hl h => exact ⟨by simpa using hl, fun i x v hx hv => h i x v hx (by simpa using hv)⟩
theorem RelL.of_tup {E : Env} {xs : List AV} {cs : Array Value} (h : Rel E (.tup xs) (.tuple cs)) : RelL E xs cs.toList := by
  cases h with
  | tup _ _ hl h => exact ⟨by simpa using hl, fun i x v hx hv => h i x v hx (by simpa using hv)⟩
/-- The cells of a value. -/
theorem Rel.cells {E : Env} {x : AV} {v : Value} (h : Rel E x v) (ho : x.one = true ∨ ∃ cs, x = .agg cs) : RelL E x.cells v.cells.toList := by
  rcases ho with ho | ⟨cs, rfl⟩
  · cases h <;> first | (simp [AV.one] at ho; done) | skip
    all_goals exact .cons (by constructor <;> assumption) (.nil E)
  · cases h with
    | agg _ cs' hl h => exact ⟨by simpa [AV.cells, Value.cells] using hl, fun i x v hx hv => h i x v hx (by simpa [Value.cells] using hv)⟩
theorem exists_list {p : Nat → Value → Prop} : ∀ n, (∀ j, j < n → ∃ v, p j v) → ∃ vs : List Value, vs.length = n ∧ ∀ j v, vs[j]? = some v → p j v
  | 0, _ => ⟨[], rfl, fun j v h => by simp at h⟩
  | n + 1, h => by
    obtain ⟨vs, hl, hp⟩ := exists_list n (fun j hj => h j (by omega))
    obtain ⟨v, hv⟩ := h n (by omega)
    refine ⟨vs ++ [v], by simp [hl], fun j u hu => ?_⟩
    rw [List.getElem?_append] at hu
    split at hu
    · exact hp j u hu
    · have : j - vs.length = 0 := by
        rcases Nat.eq_zero_or_pos (j - vs.length) with h0 | h0
        · exact h0
        · rw [List.getElem?_eq_none (by simp; omega)] at hu; cases hu
      rw [this] at hu
      simp at hu; subst hu
      have : j = n := by omega
      subst this; exact hv

/-- What a block means. -/
def BlkOk (E : Env) (w : World) (L : Loc) : ABlk → Prop
  | .dead => True
  | .cells own es xs => (∀ (j : Nat) (x : AV), xs[j]? = some x → x.one = true ∧ ∃ v, w.cell? ⟨L.blk, L.off + j, none⟩ = some v ∧ Rel E x v) ∧
      (own = true → E.B ≤ L.blk ∧ L.blk < w.heap.size ∧ L.es = es ∧ xs.length ≤ L.sz ∧ ∀ j, j < L.sz → (w.cell? ⟨L.blk, L.off + j, none⟩).isSome = true ∧ w.frozen? ⟨L.blk, L.off + j, none⟩ = false) ∧
      (own = false → 0 < xs.length → L.blk < E.B) ∧ L.es = es
  | .map es => E.B ≤ L.blk ∧ L.blk < w.heap.size ∧ ∃ (ents : Array MapEntry) (clock : Nat), w.heap[L.blk]? = some (.map ents clock) ∧ RelL E (es.map (·.1)) (ents.toList.map (·.key)) ∧ RelL E (es.map (·.2)) (ents.toList.map (·.val))
/-- The abstract memory H lies in the world w as E says. -/
structure Emb (E : Env) (H : AHeap) (w : World) : Prop where
  n : E.n = H.length
  below : Below E.B E.w0 w
  base : E.B ≤ w.heap.size
  blk : ∀ (b : Nat) (x : ABlk), H[b]? = some x → BlkOk E w (E.loc b) x
  inj : ∀ (b c : Nat) (x y : ABlk), H[b]? = some x → H[c]? = some y → x.owned = true → y.owned = true → b ≠ c → (E.loc b).blk ≠ (E.loc c).blk
theorem getElem?_lt {α : Type} {l : List α} {i : Nat} {x : α} (h : l[i]? = some x) : i < l.length := by
  rcases Nat.lt_or_ge i l.length with k | k
  · exact k
  · rw [List.getElem?_eq_none k] at h; cases h
theorem BlkOk.mono {E E' : Env} {w w' : World} {L : Loc} {x : ABlk} (h : BlkOk E w L x) (he : E.le E') (hs : w.heap.size ≤ w'.heap.size) (hb : x.owned = true → w'.heap[L.blk]? = w.heap[L.blk]?) (hB : L.blk < E.B → w'.heap[L.blk]? = w.heap[L.blk]?) : BlkOk E' w' L x := by
  cases x with
  | dead => trivial
  | cells own es xs =>
    obtain ⟨h1, h2, h3, h4⟩ := h
    have hblk : 0 < xs.length ∨ own = true → w'.heap[L.blk]? = w.heap[L.blk]? := fun hx => by
      cases own
      · exact hB (h3 rfl (hx.resolve_right (by simp)))
      · exact hb rfl
    refine ⟨fun j x hj => ?_, fun ho => ?_, fun ho hl => by rw [he.B]; exact h3 ho hl, h4⟩
    · obtain ⟨a, v, hv, hr⟩ := h1 j x hj
      have := hblk (.inl (by have := getElem?_lt hj; omega))
      exact ⟨a, v, (World.cell?_of_block (w := w) (w' := w') (a := ⟨L.blk, L.off + j, none⟩) this).trans hv, hr.mono he⟩
    · obtain ⟨a1, a2, a3, a4, a5⟩ := h2 ho
      have := hblk (.inr ho)
      refine ⟨by rw [he.B]; exact a1, Nat.lt_of_lt_of_le a2 hs, a3, a4, fun j hj => ?_⟩
      rw [World.cell?_of_block (w := w) (w' := w') (a := ⟨L.blk, L.off + j, none⟩) this, World.frozen?_of_block (w := w) (w' := w') (a := ⟨L.blk, L.off + j, none⟩) this]
      exact a5 j hj
  | map es =>
    obtain ⟨h1, h2, ents, clock, h3, h4, h5⟩ := h
    exact ⟨by rw [he.B]; exact h1, Nat.lt_of_lt_of_le h2 hs, ents, clock, (hb rfl).trans h3, h4.mono he, h5.mono he⟩
/-- A new block of cells. -/
theorem Emb.alloc {E : Env} {H : AHeap} {w : World} (h : Emb E H w) (es : Nat) {xs : List AV} {vs : List Value} (hr : RelL E xs vs) (ho : ∀ x ∈ xs, x.one = true) (t : TypeId) :
    Emb (E.push ⟨w.heap.size, 0, xs.length, es⟩) (H ++ [.cells true es xs]) (w.alloc (.cells vs.toArray t)) := by
  have hle := E.le_push ⟨w.heap.size, 0, xs.length, es⟩
  have hold : ∀ b, b < w.heap.size → (w.alloc (.cells vs.toArray t)).heap[b]? = w.heap[b]? := fun b hb => Below.heap_alloc _ _ _ hb
  have hnew : (w.alloc (.cells vs.toArray t)).heap[w.heap.size]? = some (.cells vs.toArray t (0, 0)) := heap_alloc_new w _
  refine ⟨by simp [Env.push, h.n], ?_, ?_, fun b x hx => ?_, fun b c x y hx hy ox oy hbc => ?_⟩
  · exact h.below.alloc h.base _
  · simp [Env.push]; have := h.base; omega
  · rw [List.getElem?_append] at hx
    split at hx
    · rename_i hb
      rw [Env.push_old _ _ (by rw [h.n]; exact hb)]
      have hk := h.blk b x hx
      refine hk.mono hle (by simp) (fun ho => hold _ ?_) (fun hB => hold _ (Nat.lt_of_lt_of_le hB h.base))
      cases x with
      | dead => cases ho
      | cells own e ys => exact (hk.2.1 ho).2.1
      | map es => exact hk.2.1
    · rename_i hb
      have hb0 : b - H.length = 0 := by
        rcases Nat.eq_zero_or_pos (b - H.length) with h0 | h0
        · exact h0
        · rw [List.getElem?_eq_none (by simp; omega)] at hx; cases hx
      rw [hb0] at hx
      simp at hx; subst hx
      have hbn : b = E.n := by rw [h.n]; omega
      subst hbn
      rw [Env.push_new]
      have hcell : ∀ j, (w.alloc (.cells vs.toArray t)).cell? ⟨w.heap.size, 0 + j, none⟩ = vs[j]? := fun j => by rw [Nat.zero_add, cell_of_row _ _ _ _ _ _ hnew]; simp
      refine ⟨fun j x hj => ?_, fun _ => ⟨h.base, by simp, rfl, Nat.le_refl _, fun j hj => ?_⟩, (fun ho => by cases ho), rfl⟩
      · obtain ⟨v, hv, hrv⟩ := hr.get hj
        exact ⟨ho x (List.mem_of_getElem? hj), v, by rw [hcell]; exact hv, hrv.mono hle⟩
      · rw [hcell]
        have hj' : j < vs.length := by rw [← hr.1]; exact hj
        refine ⟨by rw [List.getElem?_eq_getElem hj']; rfl, ?_⟩
        exact frozen_of_row _ _ _ _ _ hnew
  · have key : ∀ b x, (H ++ [ABlk.cells true es xs])[b]? = some x → x.owned = true → (b < H.length ∧ H[b]? = some x ∧ ((E.push ⟨w.heap.size, 0, xs.length, es⟩).loc b).blk = (E.loc b).blk ∧ (E.loc b).blk < w.heap.size) ∨ (b = H.length ∧ ((E.push ⟨w.heap.size, 0, xs.length, es⟩).loc b).blk = w.heap.size) := by
      intro b x hx ho
      rw [List.getElem?_append] at hx
      split at hx
      · rename_i hb
        refine .inl ⟨hb, hx, by rw [Env.push_old _ _ (by rw [h.n]; exact hb)], ?_⟩
        have hk := h.blk b x hx
        cases x with
        | dead => cases ho
        | cells own e ys => exact (hk.2.1 ho).2.1
        | map es => exact hk.2.1
      · rename_i hb
        have hb0 : b - H.length = 0 := by
          rcases Nat.eq_zero_or_pos (b - H.length) with h0 | h0
          · exact h0
          · rw [List.getElem?_eq_none (by simp; omega)] at hx; cases hx
        have hbn : b = H.length := by omega
        exact .inr ⟨hbn, by rw [hbn, ← h.n, Env.push_new]⟩
    rcases key b x hx ox with ⟨b1, b2, b3, b4⟩ | ⟨b1, b2⟩ <;> rcases key c y hy oy with ⟨c1, c2, c3, c4⟩ | ⟨c1, c2⟩
    · rw [b3, c3]; exact h.inj b c x y b2 c2 ox oy hbc
    · rw [b3, c2]; omega
    · rw [b2, c3]; omega
    · omega
end Go.Proofs.Ytjfnbcifafmefaa
/- The abstract machine's operations on memory and their meaning. Conditions: as each theorem states. -/
namespace Go.Proofs.Ytjfnbcifafmefaa
open Go.RowKit

abbrev Fr := List (Nat × AV)
/-- What a slot holds. -/
def look : Fr → Nat → AV
  | [], _ => .any
  | (s, v) :: r, t => bif s == t then v else look r t
def AV.ofCell : Value → AV
  | .int k n => .int k n
  | .bool b => .bool b
  | .string s => .str s.data.toList
  | .pointer none => .ptr none
  | .slice none 0 0 => .sl none 0 (some 0)
  | .map none => .mp none
  | .nilFunc => .nilfn
  | _ => .any
def AV.ofValue : Value → AV
  | .agg cs => .agg (cs.toList.map AV.ofCell)
  | v => AV.ofCell v
def aev (F : Fr) : Operand → AV
  | .tmp t => look F t
  | .const v => AV.ofValue v
  | .global _ => .any
  | .func f => .fn f []
def FrRel (E : Env) (F : Fr) (a : Act) : Prop := ∀ t, Rel E (look F t) (a.tmps.getD t undef)
theorem rel_ofCell (E : Env) (v : Value) : Rel E (AV.ofCell v) v := by
  unfold AV.ofCell
  split <;> constructor
theorem relL_map_ofCell (E : Env) (vs : List Value) : RelL E (vs.map AV.ofCell) vs :=
  ⟨by simp, fun i x v hx hv => by rw [List.getElem?_map, hv] at hx; simp at hx; subst hx; exact rel_ofCell E v⟩
theorem rel_ofValue (E : Env) (v : Value) : Rel E (AV.ofValue v) v := by
  unfold AV.ofValue
  split
  · rename_i cs
    have := (relL_map_ofCell E cs.toList).agg
    simpa using this
  · exact rel_ofCell E _
theorem FrRel.ev {E : Env} {F : Fr} {a : Act} (h : FrRel E F a) (x : Operand) : Rel E (aev F x) (a.eval x) := by
  cases x with
  | tmp t => exact h t
  | const v => exact rel_ofValue E v
  | global g => exact .any _
  | func f => exact RelL.fn (RelL.nil E)
theorem FrRel.mono {E E' : Env} {F : Fr} {a : Act} (h : FrRel E F a) (he : E.le E') : FrRel E' F a := fun t => (h t).mono he
theorem FrRel.put {E : Env} {F : Fr} {a : Act} (h : FrRel E F a) {d : Nat} (hd : d < a.tmps.size) {x : AV} {v : Value} (hv : Rel E x v) : FrRel E ((d, x) :: F) (a.put (some d) v) := by
  intro t
  unfold look Act.put
  by_cases e : d = t
  · subst e; simpa [hd] using hv
  · have : (d == t) = false := by simp [e]
    rw [this]
    simp only [cond_false]
    have hh := h t
    simp only [Array.getD_eq_getD_getElem?, Array.getElem?_setIfInBounds_ne e] at hh ⊢
    exact hh
/-- A condition to be met. -/
def need (p : Prop) [Decidable p] : Option Unit := if p then some () else none
theorem need_some {p : Prop} [Decidable p] {u : Unit} (h : need p = some u) : p := by
  unfold need at h; split at h
  · assumption
  · cases h

/-- What a step with a value comes to. -/
def Snd (P : Program) (E : Env) (w : World) (s : Sem Value) (r : AV × AHeap) : Prop := ∃ E' v w', s.run P w = .ok v w' ∧ E.le E' ∧ Rel E' r.1 v ∧ Emb E' r.2 w'
def SndU (P : Program) (E : Env) (w : World) (s : Sem Unit) (H : AHeap) : Prop := ∃ E' w', s.run P w = .ok () w' ∧ E.le E' ∧ Emb E' H w'
theorem Snd.pure {P : Program} {E : Env} {w : World} {H : AHeap} (h : Emb E H w) {x : AV} {v : Value} (hv : Rel E x v) : Snd P E w (Pure.pure v) (x, H) := ⟨E, v, w, rfl, .refl E, hv, h⟩
theorem Snd.of_run {P : Program} {E : Env} {w : World} {H : AHeap} (h : Emb E H w) {s : Sem Value} {x : AV} {v : Value} (hs : s.run P w = .ok v w) (hv : Rel E x v) : Snd P E w s (x, H) := ⟨E, v, w, hs, .refl E, hv, h⟩

/-- The types' facts that the machine asks for. -/
def tAgg (P : Program) (t : TypeId) : Option Bool :=
  match P.underlying t with
  | some (.struct _) | some (.array _ _) => some true
  | some _ => some false
  | none => none
def tSz (P : Program) (t : TypeId) : Option Nat := (P.info? t).map (·.size)
def tBytes (P : Program) (t : TypeId) : Option Nat := (P.info? t).map (·.bytes)
def tZero (P : Program) (t : TypeId) : Option (List AV) :=
  ((P.info? t).bind (·.zero)).bind fun z =>
    let l := z.cells.toList.map AV.ofCell
    if l.all AV.one then some l else none
def tElem (P : Program) (t : TypeId) : Option TypeId :=
  match P.underlying t with
  | some (.slice e) => some e
  | _ => none
/-- Where a field lies, its type. -/
def tFld (P : Program) (t : TypeId) (f : Nat) : Option (Nat × TypeId) :=
  match P.underlying t with
  | some (.struct fs) => (fs[f]?).map fun x => (x.offset, x.type)
  | _ => none
section
variable {P : Program} {w : World}
theorem run_isAgg {t : TypeId} {b : Bool} (h : tAgg P t = some b) : (isAgg t).run P w = .ok b w := by
  unfold tAgg at h
  cases hu : P.underlying t with
  | none => rw [hu] at h; cases h
  | some d =>
    rw [hu] at h
    cases d <;> simp at h <;> subst h <;> simp [isAgg, run_underlying hu]
theorem run_sizeOf' {t : TypeId} {n : Nat} (h : tSz P t = some n) : (sizeOf t).run P w = .ok n w := by
  unfold tSz at h
  cases hi : P.info? t with
  | none => rw [hi] at h; cases h
  | some i => rw [hi] at h; simp at h; subst h; simp [sizeOf, run_typeInfo w hi]
theorem run_bytes {t : TypeId} {n : Nat} (h : tBytes P t = some n) : ∃ i, P.info? t = some i ∧ i.bytes = n := by
  unfold tBytes at h
  cases hi : P.info? t with
  | none => rw [hi] at h; cases h
  | some i => rw [hi] at h; simp at h; exact ⟨i, rfl, h⟩
theorem run_zero {t : TypeId} {l : List AV} (h : tZero P t = some l) : ∃ z : Value, (zeroValue t).run P w = .ok z w ∧ l = z.cells.toList.map AV.ofCell ∧ (∀ x ∈ l, x.one = true) ∧ ∃ i, P.info? t = some i ∧ i.zero = some z := by
  unfold tZero at h
  cases hi : P.info? t with
  | none => rw [hi] at h; cases h
  | some i =>
    rw [hi] at h
    cases hz : i.zero with
    | none => simp [hz] at h
    | some z =>
      simp only [Option.bind_some, hz] at h
      split at h
      · rename_i ha
        simp at h
        refine ⟨z, by simp [zeroValue, run_typeInfo w hi, hz], h.symm, ?_, i, rfl, hz⟩
        rw [← h]
        exact List.all_eq_true.1 ha
      · cases h
theorem tElem_spec {t e : TypeId} (h : tElem P t = some e) : P.underlying t = some (.slice e) := by
  unfold tElem at h
  split at h
  · rename_i x hx; simp at h; subst h; exact hx
  · cases h
theorem add_addr (b o n : Nat) : (⟨b, o, none⟩ : Addr).add n = ⟨b, o + n, none⟩ := by
  unfold Addr.add; split <;> simp_all
theorem run_loadCellsFrom (b o : Nat) : ∀ (vs : List Value) (i : Nat) (acc : Array Value), (∀ j v, vs[j]? = some v → w.cell? ⟨b, o + i + j, none⟩ = some v) →
    (loadCellsFrom ⟨b, o, none⟩ i vs.length acc).run P w = .ok (acc ++ vs.toArray) w
  | [], i, acc, _ => by simp [loadCellsFrom]
  | v :: r, i, acc, h => by
    have h0 := h 0 v rfl
    simp only [Nat.add_zero] at h0
    have ih := run_loadCellsFrom b o r (i + 1) (acc.push v) (fun j u hu => by
      have := h (j + 1) u (by simpa using hu)
      rwa [show o + i + (j + 1) = o + (i + 1) + j by omega] at this)
    simp only [List.length_cons, loadCellsFrom, Sem.run_bind, add_addr, run_load, h0, Result.andThen_ok, ih]
    simp
theorem run_loadCells' (b o : Nat) (vs : List Value) (h : ∀ (j : Nat) (v : Value), vs[j]? = some v → w.cell? ⟨b, o + j, none⟩ = some v) : (loadCells ⟨b, o, none⟩ vs.length).run P w = .ok vs.toArray w := by
  unfold loadCells
  rw [run_loadCellsFrom b o vs 0 #[] (fun j v hj => by simpa using h j v hj)]
  simp
end
section
variable {P : Program} {E : Env} {H : AHeap} {w : World}
/-- One cell of a block. -/
def ard (H : AHeap) (b o : Nat) : Option AV :=
  match H[b]? with
  | some (.cells _ _ xs) => xs[o]?
  | _ => none
/-- n cells of a block. -/
def ards (H : AHeap) (b o n : Nat) : Option (List AV) :=
  match H[b]? with
  | some (.cells _ _ xs) => if o + n ≤ xs.length ∨ n = 0 then some ((xs.drop o).take n) else none
  | _ => none
theorem ard_spec (h : Emb E H w) {b o : Nat} {x : AV} (hx : ard H b o = some x) : x.one = true ∧ ∃ v, w.cell? ⟨(E.loc b).blk, (E.loc b).off + o, none⟩ = some v ∧ Rel E x v := by
  unfold ard at hx
  split at hx
  · rename_i own es xs hb
    exact (h.blk b _ hb).1 o x hx
  · cases hx
theorem ards_spec (h : Emb E H w) {b o n : Nat} {xs : List AV} (hx : ards H b o n = some xs) : xs.length = n ∧ (∀ x ∈ xs, x.one = true) ∧ ∃ vs : List Value, RelL E xs vs ∧ ∀ (j : Nat) (v : Value), vs[j]? = some v → w.cell? ⟨(E.loc b).blk, (E.loc b).off + o + j, none⟩ = some v := by
  unfold ards at hx
  split at hx
  · rename_i own es ys hb
    split at hx
    · rename_i hl
      simp at hx
      have hlen : xs.length = n := by rw [← hx]; simp; omega
      have hk := (h.blk b _ hb).1
      have hcell : ∀ j x, xs[j]? = some x → x.one = true ∧ ∃ v, w.cell? ⟨(E.loc b).blk, (E.loc b).off + o + j, none⟩ = some v ∧ Rel E x v := fun j x hj => by
        rw [← hx, List.getElem?_take] at hj
        split at hj
        · rw [List.getElem?_drop] at hj
          have := hk _ x hj
          rwa [← Nat.add_assoc] at this
        · cases hj
      obtain ⟨vs, hvl, hvs⟩ := exists_list (p := fun j v => w.cell? ⟨(E.loc b).blk, (E.loc b).off + o + j, none⟩ = some v ∧ ∀ x, xs[j]? = some x → Rel E x v) n (fun j hj => by
        have hj' : j < xs.length := by omega
        obtain ⟨-, v, hv, hr⟩ := hcell j xs[j] (List.getElem?_eq_getElem hj')
        exact ⟨v, hv, fun x hx => by rw [List.getElem?_eq_getElem hj'] at hx; simp at hx; subst hx; exact hr⟩)
      refine ⟨hlen, fun x hxm => ?_, vs, ⟨by omega, fun i x v hi hv => (hvs i v hv).2 x hi⟩, fun j v hv => (hvs j v hv).1⟩
      obtain ⟨j, hj⟩ := List.mem_iff_getElem?.1 hxm
      exact (hcell j x hj).1
    · cases hx
  · cases hx
/-- load -/
def aLoad (P : Program) (t : TypeId) (x : AV) (H : AHeap) : Option (AV × AHeap) :=
  match x with
  | .ptr (some (b, o)) => (tAgg P t).bind fun g => bif g then (tSz P t).bind fun n => (ards H b o n).map fun l => (.agg l, H) else (ard H b o).map fun v => (v, H)
  | _ => none
theorem snd_load (h : Emb E H w) {t : TypeId} {x : AV} {v : Value} (hv : Rel E x v) {r : AV × AHeap} (hr : aLoad P t x H = some r) : Snd P E w (Instr.loadAt t v) r := by
  unfold aLoad at hr
  split at hr
  · rename_i b o
    cases hv with
    | ptr _ _ hb =>
    cases hg : tAgg P t with
    | none => simp [hg] at hr
    | some g =>
      simp only [hg, Option.bind_some] at hr
      cases g
      · simp only [cond_false, Option.map_eq_some_iff] at hr
        obtain ⟨y, hy, rfl⟩ := hr
        obtain ⟨-, u, hu, hru⟩ := ard_spec h hy
        exact .of_run h (by simp [Instr.loadAt, Instr.sureAddr, loadVar, run_isAgg hg, hu]) hru
      · simp only [cond_true] at hr
        cases hn : tSz P t with
        | none => simp [hn] at hr
        | some n =>
          simp only [hn, Option.bind_some, Option.map_eq_some_iff] at hr
          obtain ⟨l, hl, rfl⟩ := hr
          obtain ⟨h1, -, vs, h2, h3⟩ := ards_spec h hl
          have hrun := run_loadCells' (P := P) (w := w) (E.loc b).blk ((E.loc b).off + o) vs h3
          rw [← h2.1, h1] at hrun
          exact .of_run h (by simp [Instr.loadAt, Instr.sureAddr, loadVar, run_isAgg hg, run_sizeOf' hn, hrun]) h2.agg
  · cases hr
/-- Cells written into a block that is the machine's own. -/
def splice : List AV → Nat → List AV → List AV
  | xs, _, [] => xs
  | xs, o, y :: r => splice (xs.set o y) (o + 1) r
def awrite (H : AHeap) (b o : Nat) (ys : List AV) : Option AHeap :=
  match H[b]? with
  | some (.cells true es xs) => if o + ys.length ≤ xs.length ∧ ys.all AV.one = true then some (H.set b (.cells true es (splice xs o ys))) else none
  | _ => none
theorem setCells_cell (g : Nat) : ∀ (vs : List Value) (o : Nat) (w : World) (p : Addr), (∀ j, j < vs.length → (w.cell? ⟨g, o + j, none⟩).isSome = true) →
    (w.setCells g o vs).cell? p = if p.block = g ∧ p.spot = none ∧ o ≤ p.off ∧ p.off < o + vs.length then vs[p.off - o]? else w.cell? p
  | [], o, w, p, _ => by simp [World.setCells]; intros; omega
  | v :: r, o, w, p, hc => by
    have h0 : (w.cell? ⟨g, o, none⟩).isSome = true := by have := hc 0 (by simp); simpa using this
    obtain ⟨u, hu⟩ := Option.isSome_iff_exists.1 h0
    have hc' : ∀ j, j < r.length → ((w.setCell ⟨g, o, none⟩ v).cell? ⟨g, o + 1 + j, none⟩).isSome = true := fun j hj => by
      rw [World.cell?_setCell_other _ _ _ _ (by intro e; injection e; omega)]
      have := hc (j + 1) (by simp; omega)
      rwa [show o + (j + 1) = o + 1 + j by omega] at this
    have ih := setCells_cell g r (o + 1) (w.setCell ⟨g, o, none⟩ v) p hc'
    show ((w.setCell ⟨g, o, none⟩ v).setCells g (o + 1) r).cell? p = _
    rw [ih]
    obtain ⟨pb, po, ps⟩ := p
    by_cases hp : pb = g ∧ ps = none
    · obtain ⟨rfl, rfl⟩ := hp
      simp only [true_and, List.length_cons]
      by_cases h1 : o + 1 ≤ po ∧ po < o + 1 + r.length
      · rw [if_pos h1, if_pos (by omega), show po - o = (po - (o + 1)) + 1 by omega, List.getElem?_cons_succ]
      · rw [if_neg h1]
        by_cases h2 : po = o
        · subst h2
          rw [if_pos (by omega), World.cell?_setCell_same _ _ _ hu]
          simp
        · rw [if_neg (by omega), World.cell?_setCell_other _ _ _ _ (by intro e; injection e; omega)]
    · rw [if_neg (fun h => hp ⟨h.1, h.2.1⟩), if_neg (fun h => hp ⟨h.1, h.2.1⟩), World.cell?_setCell_other _ _ _ _ (by intro e; apply hp; injection e with e1 e2 e3; exact ⟨e1.symm, e3.symm⟩)]
theorem setCells_frozen (g : Nat) : ∀ (vs : List Value) (o : Nat) (w : World) (p : Addr), (w.setCells g o vs).frozen? p = w.frozen? p
  | [], _, _, _ => rfl
  | v :: r, o, w, p => by
    show ((w.setCell ⟨g, o, none⟩ v).setCells g (o + 1) r).frozen? p = _
    rw [setCells_frozen g r (o + 1) _ p, World.frozen?_setCell]
theorem setCells_heap (g : Nat) : ∀ (vs : List Value) (o : Nat) (w : World) (k : Nat), k ≠ g → (w.setCells g o vs).heap[k]? = w.heap[k]?
  | [], _, _, _, _ => rfl
  | v :: r, o, w, k, hk => by
    show ((w.setCell ⟨g, o, none⟩ v).setCells g (o + 1) r).heap[k]? = _
    rw [setCells_heap g r (o + 1) _ k hk]
    exact Below.heap_setCell _ _ _ _ hk
theorem setCells_size (g : Nat) : ∀ (vs : List Value) (o : Nat) (w : World), (w.setCells g o vs).heap.size = w.heap.size
  | [], _, _ => rfl
  | v :: r, o, w => by
    show ((w.setCell ⟨g, o, none⟩ v).setCells g (o + 1) r).heap.size = _
    rw [setCells_size g r (o + 1) _]; simp
theorem setCells_below {B : Nat} (a : World) (g : Nat) (hg : B ≤ g) : ∀ (vs : List Value) (o : Nat) (w : World), Below B a w → Below B a (w.setCells g o vs)
  | [], _, _, h => h
  | v :: r, o, _, h => setCells_below a g hg r (o + 1) _ (h.setCell hg v)
theorem splice_len : ∀ (ys xs : List AV) (o : Nat), (splice xs o ys).length = xs.length
  | [], _, _ => rfl
  | y :: r, xs, o => by unfold splice; rw [splice_len r]; simp
theorem splice_length {xs ys : List AV} {o : Nat} (_h : o + ys.length ≤ xs.length) : (splice xs o ys).length = xs.length := splice_len ys xs o
theorem splice_get : ∀ {ys xs : List AV} {o : Nat} (_h : o + ys.length ≤ xs.length) (j : Nat), (splice xs o ys)[j]? = if o ≤ j ∧ j < o + ys.length then ys[j - o]? else xs[j]?
  | [], xs, o, _, j => by unfold splice; rw [if_neg (fun h => by simp only [List.length_nil] at h; omega)]
  | y :: r, xs, o, h, j => by
    unfold splice
    simp only [List.length_cons] at h ⊢
    rw [splice_get (by rw [List.length_set]; omega) j]
    by_cases h1 : o + 1 ≤ j ∧ j < o + 1 + r.length
    · rw [if_pos h1, if_pos (by omega), show j - o = j - (o + 1) + 1 by omega, List.getElem?_cons_succ]
    · rw [if_neg h1, List.getElem?_set]
      by_cases h2 : o = j
      · subst h2
        rw [if_pos rfl, if_pos (by omega), if_pos (by omega), Nat.sub_self]; rfl
      · rw [if_neg h2, if_neg (by omega)]
theorem splice_mem : ∀ {ys xs : List AV} {o : Nat} {x : AV}, x ∈ splice xs o ys → x ∈ xs ∨ x ∈ ys
  | [], _, _, _, h => .inl h
  | y :: r, xs, o, x, h => by
    unfold splice at h
    rcases splice_mem h with h | h
    · rcases List.mem_or_eq_of_mem_set h with h | h
      · exact .inl h
      · exact .inr (by simp [h])
    · exact .inr (by simp [h])
/-- Writing the cells of a block of the machine's own. -/
theorem Emb.write (h : Emb E H w) {b o : Nat} {ys : List AV} {vs : List Value} (hr : RelL E ys vs) {H' : AHeap} (hw : awrite H b o ys = some H') :
    (∀ v ∈ vs, v.oneCell' = true) ∧ (∀ j, j < vs.length → (w.cell? ⟨(E.loc b).blk, (E.loc b).off + o + j, none⟩).isSome = true) ∧ (∀ j, j < vs.length → w.frozen? ⟨(E.loc b).blk, (E.loc b).off + o + j, none⟩ = false) ∧
      Emb E H' (w.setCells (E.loc b).blk ((E.loc b).off + o) vs) := by
  unfold awrite at hw
  split at hw
  · rename_i es xs hb
    split at hw
    · rename_i hc
      obtain ⟨hlen, hone⟩ := hc
      simp at hw
      subst hw
      have hk := h.blk b _ hb
      obtain ⟨k1, k2, k3, k4, k5⟩ := hk.2.1 rfl
      have hall : ∀ j, j < vs.length → (w.cell? ⟨(E.loc b).blk, (E.loc b).off + o + j, none⟩).isSome = true ∧ w.frozen? ⟨(E.loc b).blk, (E.loc b).off + o + j, none⟩ = false := fun j hj => by
        have := k5 (o + j) (by have := hr.1; omega)
        rwa [← Nat.add_assoc] at this
      have hcells : ∀ v ∈ vs, v.oneCell' = true := fun v hv => by
        obtain ⟨i, hi⟩ := List.mem_iff_getElem?.1 hv
        have hi' : i < ys.length := by have := getElem?_lt hi; have := hr.1; omega
        exact (hr.2 i ys[i] v (List.getElem?_eq_getElem hi') hi).one (by simp at hone; exact hone _ (List.getElem_mem hi'))
      refine ⟨hcells, fun j hj => (hall j hj).1, fun j hj => (hall j hj).2, ?_⟩
      have hbl := getElem?_lt hb
      have hcell := setCells_cell (E.loc b).blk vs ((E.loc b).off + o) w
      have hget : ∀ c x, (H.set b (.cells true es (splice xs o ys)))[c]? = some x → (c = b ∧ x = .cells true es (splice xs o ys)) ∨ (c ≠ b ∧ H[c]? = some x) := fun c x hx => by
        rw [List.getElem?_set] at hx
        by_cases e : b = c
        · subst e; simp [hbl] at hx; exact .inl ⟨rfl, hx.symm⟩
        · rw [if_neg e] at hx; exact .inr ⟨fun e' => e e'.symm, hx⟩
      refine ⟨by simp [h.n], setCells_below _ _ k1 _ _ _ h.below, by rw [setCells_size]; exact h.base, fun c x hx => ?_, fun c d x y hx hy ox oy hcd => ?_⟩
      · rcases hget c x hx with ⟨rfl, rfl⟩ | ⟨hcb, hx⟩
        · refine ⟨fun j x hj => ?_, fun _ => ⟨k1, by rw [setCells_size]; exact k2, k3, by rw [splice_length hlen]; exact k4, fun j hj => ?_⟩, (fun hf => by cases hf), k3⟩
          · rw [splice_get hlen] at hj
            rw [hcell _ (fun j hj => (hall j hj).1)]
            simp only [true_and]
            split at hj
            · rename_i hin
              rw [if_pos (by have := hr.1; omega), show (E.loc c).off + j - ((E.loc c).off + o) = j - o by omega]
              obtain ⟨v, hv, hrv⟩ := hr.get hj
              exact ⟨by simp at hone; exact hone x (List.mem_of_getElem? hj), v, hv, hrv⟩
            · rename_i hin
              rw [if_neg (by have := hr.1; omega)]
              exact hk.1 j x hj
          · rw [hcell _ (fun j hj => (hall j hj).1), setCells_frozen]
            refine ⟨?_, (k5 j hj).2⟩
            split
            · rename_i hin
              obtain ⟨-, -, q1, q2⟩ := hin
              simp only at q1 q2
              rw [List.getElem?_eq_getElem (by show (E.loc c).off + j - ((E.loc c).off + o) < _; omega)]; rfl
            · exact (k5 j hj).1
        · have hne : x.owned = true → (E.loc c).blk ≠ (E.loc b).blk := fun ho => h.inj c b x _ hx hb ho rfl hcb
          refine (h.blk c x hx).mono (.refl E) (by rw [setCells_size]; exact Nat.le_refl _) (fun ho => setCells_heap _ _ _ _ _ (hne ho)) (fun hB => setCells_heap _ _ _ _ _ (by omega))
      · have ow : ∀ (c : Nat) (x : ABlk), (H.set b (.cells true es (splice xs o ys)))[c]? = some x → x.owned = true → ∃ x' : ABlk, H[c]? = some x' ∧ x'.owned = true := fun c x hx ho => by
          rcases hget c x hx with ⟨rfl, rfl⟩ | ⟨_, hx⟩
          · exact ⟨_, hb, rfl⟩
          · exact ⟨x, hx, ho⟩
        obtain ⟨x', hx', ox'⟩ := ow c x hx ox
        obtain ⟨y', hy', oy'⟩ := ow d y hy oy
        exact h.inj c d x' y' hx' hy' ox' oy' hcd
    · cases hw
  · cases hw
/-- A value that can lie in memory. -/
def AV.flat : AV → Bool
  | .any | .tup _ => false
  | .agg cs => cs.all AV.one
  | _ => true
theorem AV.flat_one {y : AV} (h : y.flat = true) : (∀ x ∈ y.cells, x.one = true) ∧ (y.one = true ∨ ∃ cs, y = .agg cs) := by
  cases y <;> simp [AV.flat, AV.cells, AV.one] at h ⊢
  exact h
/-- store -/
def aStore (P : Program) (t : TypeId) (x y : AV) (H : AHeap) : Option AHeap :=
  match x with
  | .ptr (some (b, o)) => (need (tSz P t = some y.cells.length ∧ y.flat = true)).bind fun _ => awrite H b o y.cells
  | _ => none
end
end Go.Proofs.Ytjfnbcifafmefaa
/- The abstract machine's other operations on memory: new variables, literals, fields, indexes, slices, make, append. Conditions: as each theorem states. -/
namespace Go.Proofs.Ytjfnbcifafmefaa
open Go.RowKit
section
variable {P : Program} {E : Env} {H : AHeap} {w : World}

theorem snd_store (h : Emb E H w) {t : TypeId} {x y : AV} {v u : Value} (hv : Rel E x v) (hu : Rel E y u) {H' : AHeap} (hr : aStore P t x y H = some H') : SndU P E w (Instr.storeAt t v u) H' := by
  unfold aStore at hr
  split at hr
  · rename_i b o
    cases hv with
    | ptr _ _ hb =>
    cases hn : need (tSz P t = some y.cells.length ∧ y.flat = true) with
    | none => rw [hn] at hr; cases hr
    | some q =>
      rw [hn] at hr
      simp only [Option.bind_some] at hr
      obtain ⟨h1, h2⟩ := need_some hn
      obtain ⟨f1, f2⟩ := AV.flat_one h2
      have hcs := hu.cells f2
      obtain ⟨w1, w2, w3, w4⟩ := h.write hcs hr
      have hrun := run_storeCells_cells (P := P) (E.loc b).blk ((E.loc b).off + o) u.cells.toList 0 w (by simpa using w2) (by simpa using w3) w1
      have hsz : u.cells.size = y.cells.length := by have := hcs.1; simpa using this.symm
      rw [Nat.add_zero] at hrun
      exact ⟨E, _, by simp only [Instr.storeAt, Instr.sureAddr, storeVar, Sem.run_bind, Sem.run_pure, Result.andThen_ok, run_sizeOf' h1, hsz, ne_eq, not_true, if_false, hrun], .refl E, w4⟩
  · cases hr
/-- A new variable. -/
def aNew (es : Nat) (xs : List AV) (H : AHeap) : AV × AHeap := (.ptr (some (H.length, 0)), H ++ [.cells true es xs])
theorem snd_newVar (h : Emb E H w) {xs : List AV} {v : Value} (hr : RelL E xs v.cells.toList) (ho : ∀ x ∈ xs, x.one = true) (t : TypeId) :
    Snd P E w (do Pure.pure (.pointer (some (← newVar t v)))) (aNew 0 xs H) := by
  have hE := h.alloc 0 hr ho t
  have hp : Rel (E.push ⟨w.heap.size, 0, xs.length, 0⟩) (.ptr (some (H.length, 0))) (.pointer (some ⟨w.heap.size, 0, none⟩)) := by
    have := Rel.ptr (E := E.push ⟨w.heap.size, 0, xs.length, 0⟩) H.length 0 (by simp [Env.push, h.n])
    rw [← h.n, Env.push_new] at this
    simpa [h.n] using this
  refine ⟨_, _, _, ?_, E.le_push _, hp, hE⟩
  simp [newVar, newRow]
def aAlloc (P : Program) (t : TypeId) (H : AHeap) : Option (AV × AHeap) := (tZero P t).map fun z => aNew 0 z H
theorem snd_alloc (h : Emb E H w) {t : TypeId} {r : AV × AHeap} (hr : aAlloc P t H = some r) : Snd P E w (Instr.alloc t true (.tuple #[])) r := by
  unfold aAlloc at hr
  cases hz : tZero P t with
  | none => simp [hz] at hr
  | some l =>
    simp [hz] at hr; subst hr
    obtain ⟨z, h1, h2, h3, -⟩ := run_zero (w := w) hz
    obtain ⟨E', v, w', k1, k2, k3, k4⟩ := snd_newVar (P := P) h (xs := l) (v := z) (by rw [h2]; exact relL_map_ofCell E _) h3 t
    refine ⟨E', v, w', ?_, k2, k3, k4⟩
    simp only [Instr.alloc, Sem.run_bind, h1, Result.andThen_ok]
    exact k1
def aBox (x : AV) (H : AHeap) : Option (AV × AHeap) := (need (x.flat = true)).map fun _ => aNew 0 x.cells H
theorem snd_box (h : Emb E H w) {t : TypeId} {x : AV} {v : Value} (hv : Rel E x v) {r : AV × AHeap} (hr : aBox x H = some r) : Snd P E w (Instr.box t v) r := by
  unfold aBox at hr
  cases hn : need (x.flat = true) with
  | none => simp [hn] at hr
  | some q =>
    simp [hn] at hr; subst hr
    obtain ⟨f1, f2⟩ := AV.flat_one (need_some hn)
    exact snd_newVar (P := P) h (hv.cells f2) f1 t

/-- The parts of a literal laid into its cells: places (offset, size). -/
def afill (pl : List (Nat × Nat)) : List AV → List (Nat × AV) → Option (List AV)
  | cs, [] => some cs
  | cs, (i, v) :: rest =>
    match pl[i]? with
    | none => none
    | some (off, size) => if v.flat = true ∧ v.cells.length = size ∧ off + size ≤ cs.length then afill pl (splice cs off v.cells) rest else none
theorem fold_set : ∀ (l : List Value) (k off : Nat) (cs : Array Value), ((l.zipIdx k).foldl (fun cs p => cs.setIfInBounds (off + p.2) p.1) cs).size = cs.size ∧
    ∀ i, i < cs.size → ((l.zipIdx k).foldl (fun cs p => cs.setIfInBounds (off + p.2) p.1) cs)[i]? = if off + k ≤ i ∧ i < off + k + l.length then l[i - (off + k)]? else cs[i]?
  | [], k, off, cs => ⟨by simp, fun i hi => by simp; intros; omega⟩
  | v :: l, k, off, cs => by
    obtain ⟨h1, h2⟩ := fold_set l (k + 1) off (cs.setIfInBounds (off + k) v)
    simp only [List.zipIdx_cons, List.foldl_cons]
    refine ⟨by rw [h1]; simp, fun i hi => ?_⟩
    rw [h2 i (by simpa using hi)]
    simp only [List.length_cons]
    by_cases e : i = off + k
    · subst e
      rw [if_neg (by omega), if_pos (by omega)]
      simp [hi]
    · by_cases e2 : off + (k + 1) ≤ i ∧ i < off + (k + 1) + l.length
      · rw [if_pos e2, if_pos (by omega), show i - (off + k) = i - (off + (k + 1)) + 1 by omega, List.getElem?_cons_succ]
      · rw [if_neg e2, if_neg (by omega), Array.getElem?_setIfInBounds_ne (by omega)]
theorem relL_splice {xs ys : List AV} {cs : Array Value} {us : List Value} (h : RelL E xs cs.toList) (k : RelL E ys us) {o : Nat} (ho : o + ys.length ≤ xs.length) :
    RelL E (splice xs o ys) ((us.zipIdx 0).foldl (fun cs p => cs.setIfInBounds (o + p.2) p.1) cs).toList := by
  obtain ⟨h1, h2⟩ := fold_set us 0 o cs
  have hl := h.1
  simp at hl
  refine ⟨by rw [splice_length ho]; simp [h1, hl], fun i x v hx hv => ?_⟩
  have hi : i < xs.length := by have := getElem?_lt hx; rwa [splice_length ho] at this
  rw [Array.getElem?_toList, h2 i (by omega)] at hv
  rw [splice_get ho] at hx
  simp only [Nat.add_zero] at hv
  have := k.1
  split at hx
  · rw [if_pos (by omega)] at hv; exact k.2 _ x v hx hv
  · rw [if_neg (by omega)] at hv; exact h.2 i x v hx (by simpa using hv)
theorem fill_rel (pl : List (Nat × Nat)) (place : Nat → Option (Nat × Nat)) (hp : ∀ i p, pl[i]? = some p → place i = some p) : ∀ (parts : List (Nat × AV)) (vparts : List (Nat × Value)) (xs : List AV) (cs : Array Value) (r : List AV),
    parts.map (·.1) = vparts.map (·.1) → RelL E (parts.map (·.2)) (vparts.map (·.2)) → RelL E xs cs.toList → (∀ x ∈ xs, x.one = true) → afill pl xs parts = some r →
    ∃ cs' : Array Value, Instr.fill place cs vparts = some cs' ∧ RelL E r cs'.toList ∧ ∀ x ∈ r, x.one = true
  | [], vparts, xs, cs, r, h1, h2, h3, h4, h5 => by
    simp at h1; subst h1
    simp [afill] at h5; subst h5
    exact ⟨cs, by simp [Instr.fill], h3, h4⟩
  | (i, x) :: rest, [], xs, cs, r, h1, h2, h3, h4, h5 => by simp at h1
  | (i, x) :: rest, (j, v) :: vrest, xs, cs, r, h1, h2, h3, h4, h5 => by
    simp at h1
    obtain ⟨rfl, h1⟩ := h1
    obtain ⟨hx, hrest⟩ := RelL.uncons (by simpa using h2)
    unfold afill at h5
    split at h5
    · cases h5
    · rename_i off size hpl
      split at h5
      · rename_i hc
        obtain ⟨hf, hsz, hoff⟩ := hc
        obtain ⟨f1, f2⟩ := AV.flat_one hf
        have hcs := hx.cells f2
        have hvs : v.cells.size = size := by have := hcs.1; simp at this; omega
        have hcl : cs.size = xs.length := by have := h3.1; simp at this; omega
        have hsp := relL_splice h3 hcs (o := off) (by omega)
        have hone : ∀ y ∈ splice xs off x.cells, y.one = true := fun y hy => by
          rcases splice_mem hy with hy | hy
          · exact h4 y hy
          · exact f1 y hy
        obtain ⟨cs', k1, k2, k3⟩ := fill_rel pl place hp rest vrest _ _ r (by simpa using h1) hrest hsp hone h5
        refine ⟨cs', ?_, k2, k3⟩
        unfold Instr.fill
        rw [hp _ _ hpl]
        simp only
        rw [if_neg (by simp [hvs]; omega), ← k1]
        congr 1
        rw [← Array.foldl_toList, Array.toList_zipIdx]
      · cases h5
def tPlaces (P : Program) (t : TypeId) : Option (List (Nat × Nat)) :=
  match P.underlying t with
  | some (.struct fields) => fields.toList.mapM fun f => (P.info? f.type).map fun i => (f.offset, i.size)
  | some (.array n e) => (tSz P e).map fun s => (List.range n).map fun i => (i * s, s)
  | _ => none
def aBuild (P : Program) (t : TypeId) (parts : List (Nat × AV)) : Option AV := (tZero P t).bind fun z => (tPlaces P t).bind fun pl => (afill pl z parts).map AV.agg
theorem relL_evs {F : Fr} {a : Act} (ps : List Operand) (hF : ∀ p ∈ ps, Rel E (aev F p) (a.eval p)) : RelL E (ps.map (aev F)) (ps.map a.eval) :=
  ⟨by simp, fun i x v hx hv => by
    rw [List.getElem?_map] at hx hv
    cases hp : ps[i]? with
    | none => rw [hp] at hx; cases hx
    | some p => rw [hp] at hx hv; simp at hx hv; subst hx hv; exact hF p (List.mem_of_getElem? hp)⟩
theorem snd_build (h : Emb E H w) {F : Fr} {a : Act} {t : TypeId} {parts : Array (Nat × Operand)} (hF : ∀ p ∈ parts.toList.map (·.2), Rel E (aev F p) (a.eval p)) {x : AV} (hr : aBuild P t (parts.toList.map fun p => (p.1, aev F p.2)) = some x) :
    Snd P E w (Instr.build t (parts.map fun (i, x) => (i, a.eval x))) (x, H) := by
  unfold aBuild at hr
  cases hz : tZero P t with
  | none => simp [hz] at hr
  | some z =>
    cases hpl : tPlaces P t with
    | none => simp [hz, hpl] at hr
    | some pl =>
      simp only [hz, hpl, Option.bind_some, Option.map_eq_some_iff] at hr
      obtain ⟨l, hl, rfl⟩ := hr
      obtain ⟨zv, z1, z2, z3, i, z4, z5⟩ := run_zero (w := w) hz
      have hp2 := relL_evs (parts.toList.map (·.2)) hF
      have go : ∀ place, (∀ i p, pl[i]? = some p → place i = some p) → ∃ cs', Instr.fill place zv.cells (parts.map fun (i, x) => (i, a.eval x)).toList = some cs' ∧ RelL E l cs'.toList := fun place hplace => by
        obtain ⟨cs', k1, k2, -⟩ := fill_rel (E := E) pl place hplace (parts.toList.map fun p => (p.1, aev F p.2)) (parts.map fun (i, x) => (i, a.eval x)).toList z zv.cells l
          (by simp) (by simpa [Function.comp_def] using hp2) (by rw [z2]; exact relL_map_ofCell E _) z3 hl
        exact ⟨cs', k1, k2⟩
      unfold tPlaces at hpl
      cases hu : P.underlying t with
      | none => rw [hu] at hpl; cases hpl
      | some d =>
        rw [hu] at hpl
        cases d <;> try (simp at hpl; done)
        · rename_i n e
          simp only [Option.map_eq_some_iff] at hpl
          obtain ⟨s, hs, hpl⟩ := hpl
          obtain ⟨ie, hie, hies⟩ : ∃ ie, P.info? e = some ie ∧ ie.size = s := by
            unfold tSz at hs
            cases hie : P.info? e with
            | none => rw [hie] at hs; cases hs
            | some ie => rw [hie] at hs; simp at hs; exact ⟨ie, rfl, hs⟩
          obtain ⟨cs', k1, k2⟩ := go (fun i => some (i * s, s)) (fun i p hip => by
            rw [← hpl, List.getElem?_map] at hip
            cases hri : (List.range n)[i]? with
            | none => rw [hri] at hip; cases hip
            | some q =>
              rw [hri] at hip
              obtain ⟨q1, q2⟩ := List.getElem?_eq_some_iff.1 hri
              simp at q2 hip
              subst q2
              rw [← hip])
          refine .of_run h (run_build w t _ cs' ?_) (by simpa using k2.agg)
          unfold Program.built
          rw [z4, hu]
          simp only [z5, hie, hies]
          exact k1
        · rename_i fields
          obtain ⟨cs', k1, k2⟩ := go (pl.toArray[·]?) (fun i p hip => by simpa using hip)
          refine .of_run h (run_build w t _ cs' ?_) (by simpa using k2.agg)
          unfold Program.built
          rw [z4, hu]
          simp only [z5, hpl]
          exact k1
/-- A slice's cells, all zero. -/
def arep (z : List AV) (m : Nat) : List AV :=
  match z with
  | [x] => List.replicate m x
  | _ => (List.range (m * z.length)).map fun j => z.getD (j % z.length) .any
theorem arep_rel {z : List AV} {zv : Value} (hz : z = zv.cells.toList.map AV.ofCell) (ho : ∀ x ∈ z, x.one = true) (h0 : 0 < z.length) (m : Nat) :
    RelL E (arep z m) (madeCells zv.cells (m * zv.cells.size)).toList ∧ (arep z m).length = m * z.length ∧ ∀ x ∈ arep z m, x.one = true := by
  have hlen : z.length = zv.cells.size := by rw [hz]; simp
  have hget : ∀ j : Nat, j < m * z.length → (arep z m)[j]? = some (z.getD (j % z.length) .any) := fun j hj => by
    unfold arep
    split
    · simp only [List.length_cons, List.length_nil, Nat.zero_add, Nat.mul_one] at hj
      rw [List.getElem?_replicate, if_pos hj]
      simp [Nat.mod_one]
    · simp [hj]
  have hal : (arep z m).length = m * z.length := by
    unfold arep
    split <;> simp
  refine ⟨⟨by rw [hal]; simp [madeCells, hlen], fun i x v hx hv => ?_⟩, hal, fun x hx => ?_⟩
  · have hi : i < m * z.length := by have := getElem?_lt hx; rwa [hal] at this
    rw [hget i hi] at hx
    simp at hx
    rw [Array.getElem?_toList, madeCells, Array.getElem?_map, Option.map_eq_some_iff] at hv
    obtain ⟨q, hq, hv⟩ := hv
    obtain ⟨q1, q2⟩ := Array.getElem?_eq_some_iff.1 hq
    simp at q2
    subst q2
    have hmod : i % zv.cells.size < zv.cells.size := Nat.mod_lt _ (by omega)
    rw [getElem!_pos zv.cells _ hmod] at hv
    subst hv
    rw [← hx, hlen, hz]
    simp [hmod]
    exact rel_ofCell E _
  · obtain ⟨j, hj⟩ := List.mem_iff_getElem?.1 hx
    have hi : j < m * z.length := by have := getElem?_lt hj; rwa [hal] at this
    rw [hget j hi] at hj
    simp at hj
    have hmod : j % z.length < z.length := Nat.mod_lt _ h0
    rw [← hj]
    simp only [List.getElem?_eq_getElem hmod, Option.getD_some]
    exact ho _ (List.getElem_mem hmod)
/-- The new slice lies in a new block. -/
theorem rel_newSlice (h : Emb E H w) {es n c k : Nat} (hn : n ≤ c) (hc : c ≤ maxLen) (hk : c * es ≤ k) : Rel (E.push ⟨w.heap.size, 0, k, es⟩) (.sl (some (H.length, 0)) n (some c)) (.slice (some ⟨w.heap.size, 0, none⟩) n c) := by
  have e := Env.push_new E ⟨w.heap.size, 0, k, es⟩
  rw [h.n] at e
  exact Rel.sl H.length 0 n (some c) c _ (by simp [Env.push, h.n]) hn hc (.inr rfl) (.inr (by rw [e])) (by rw [e]; simpa using hk)
def aMakeSlice (P : Program) (t : TypeId) (l c : AV) (H : AHeap) : Option (AV × AHeap) :=
  match l, c with
  | .int _ n, .int _ m => (tElem P t).bind fun e => (tZero P e).bind fun z => (tSz P e).bind fun s => (tBytes P e).bind fun by_ =>
      (need (0 ≤ n ∧ n ≤ m ∧ m ≤ 9223372036854775807 ∧ (by_ : Int) * m ≤ 281474976710656 ∧ z.length = s ∧ 0 < s)).map fun _ => (.sl (some (H.length, 0)) n.toNat (some m.toNat), H ++ [.cells true s (arep z m.toNat)])
  | _, _ => none
theorem snd_makeSlice (h : Emb E H w) {t : TypeId} {l c : AV} {lv cv : Value} (hl : Rel E l lv) (hc : Rel E c cv) {r : AV × AHeap} (hr : aMakeSlice P t l c H = some r) : Snd P E w (Instr.makeSlice t lv cv) r := by
  unfold aMakeSlice at hr
  split at hr
  · rename_i k1 n k2 m
    cases hl
    cases hc
    cases he : tElem P t with
    | none => simp [he] at hr
    | some e =>
    cases hz : tZero P e with
    | none => simp [he, hz] at hr
    | some z =>
    cases hs : tSz P e with
    | none => simp [he, hz, hs] at hr
    | some s =>
    cases hb : tBytes P e with
    | none => simp [he, hz, hs, hb] at hr
    | some by_ =>
      simp only [he, hz, hs, hb, Option.bind_some, Option.map_eq_some_iff] at hr
      obtain ⟨u, hu, rfl⟩ := hr
      obtain ⟨n1, n2, n3, n4, n5, n6⟩ := need_some hu
      obtain ⟨zv, z1, z2, z3, i, z4, z5⟩ := run_zero (w := w) hz
      obtain ⟨i', hi', hby⟩ := run_bytes hb
      rw [z4] at hi'; simp at hi'; subst hi'
      have hsz : i.size = s := by unfold tSz at hs; rw [z4] at hs; simpa using hs
      have hzl : zv.cells.size = s := by rw [← n5, z2]; simp
      obtain ⟨a1, a2, a3⟩ := arep_rel (E := E) z2 z3 (by omega) m.toNat
      have hE := h.alloc s a1 a3 e
      have hrun := run_make w t e i zv (tElem_spec he) z4 z5 k1 k2 n m n1 n2 (by rw [hby]; exact n4) n3
      refine ⟨E.push ⟨w.heap.size, 0, (arep z m.toNat).length, s⟩, _, _, hrun, E.le_push _, rel_newSlice h (by omega) (by simp [maxLen]; omega) (by rw [a2, n5]; exact Nat.le_refl _), ?_⟩
      have hzi : i.size = zv.cells.size := by omega
      rw [hzi]
      simpa using hE
  · cases hr
end
end Go.Proofs.Ytjfnbcifafmefaa
/- The abstract machine's operations on values: fields, indexes, slices, numbers, comparisons. Conditions: as each theorem states. -/
namespace Go.Proofs.Ytjfnbcifafmefaa
open Go.RowKit
section
variable {P : Program} {E : Env} {H : AHeap} {w : World}

def aBuildSlice (P : Program) (t : TypeId) (len : Nat) (parts : List (Nat × AV)) (H : AHeap) : Option (AV × AHeap) :=
  (tElem P t).bind fun e => (tZero P e).bind fun z => (tSz P e).bind fun s =>
    (need (z.length = s ∧ 0 < s ∧ len * s ≤ 2 ^ 24)).bind fun _ => (afill ((List.range len).map fun i => (i * s, s)) (arep z len) parts).map fun l => (.sl (some (H.length, 0)) len (some len), H ++ [.cells true s l])
theorem afill_length (pl : List (Nat × Nat)) : ∀ (parts : List (Nat × AV)) (xs r : List AV), afill pl xs parts = some r → r.length = xs.length
  | [], xs, r, h => by simp [afill] at h; rw [h]
  | (i, v) :: rest, xs, r, h => by
    unfold afill at h
    split at h
    · cases h
    · split at h
      · rename_i hc
        rw [afill_length pl rest _ r h, splice_length (by omega)]
      · cases h
theorem snd_buildSlice (h : Emb E H w) {F : Fr} {a : Act} {t : TypeId} {len : Nat} {parts : Array (Nat × Operand)} (hF : ∀ p ∈ parts.toList.map (·.2), Rel E (aev F p) (a.eval p)) {r : AV × AHeap} (hr : aBuildSlice P t len (parts.toList.map fun p => (p.1, aev F p.2)) H = some r) :
    Snd P E w (Instr.buildSlice t len (parts.map fun (i, x) => (i, a.eval x))) r := by
  unfold aBuildSlice at hr
  cases he : tElem P t with
  | none => simp [he] at hr
  | some e =>
  cases hz : tZero P e with
  | none => simp [he, hz] at hr
  | some z =>
  cases hs : tSz P e with
  | none => simp [he, hz, hs] at hr
  | some s =>
  simp only [he, hz, hs, Option.bind_some] at hr
  cases hn : need (z.length = s ∧ 0 < s ∧ len * s ≤ 2 ^ 24) with
  | none => simp [hn] at hr
  | some u =>
  simp only [hn, Option.bind_some, Option.map_eq_some_iff] at hr
  obtain ⟨l, hl, rfl⟩ := hr
  obtain ⟨n1, n2, n3⟩ := need_some hn
  obtain ⟨zv, z1, z2, z3, i, z4, z5⟩ := run_zero (w := w) hz
  have hsz : i.size = s := by unfold tSz at hs; rw [z4] at hs; simpa using hs
  have hzl : zv.cells.size = s := by rw [← n1, z2]; simp
  obtain ⟨a1, a2, a3⟩ := arep_rel (E := E) z2 z3 (by omega) len
  have hp2 := relL_evs (parts.toList.map (·.2)) hF
  obtain ⟨cs', k1, k2, k3⟩ := fill_rel (E := E) _ (fun i => some (i * s, s)) (fun i p hip => by
      rw [List.getElem?_map] at hip
      cases hri : (List.range len)[i]? with
      | none => rw [hri] at hip; cases hip
      | some q =>
        rw [hri] at hip
        obtain ⟨q1, q2⟩ := List.getElem?_eq_some_iff.1 hri
        simp at q2 hip
        subst q2
        rw [← hip]) (parts.toList.map fun p => (p.1, aev F p.2)) (parts.map fun (i, x) => (i, a.eval x)).toList _ (madeCells zv.cells (len * zv.cells.size)) l
      (by simp) (by simpa [Function.comp_def] using hp2) a1 a3 hl
  have hE := h.alloc s k2 k3 e
  have hll : l.length = len * s := by rw [afill_length _ _ _ _ hl, a2, n1]
  refine ⟨E.push ⟨w.heap.size, 0, l.length, s⟩, _, w.alloc (.cells cs' e), ?_, E.le_push _, rel_newSlice h (Nat.le_refl _) (by simp only [maxLen]; have : len ≤ len * s := Nat.le_mul_of_pos_right _ n2; omega) (by rw [hll]; exact Nat.le_refl _), by simpa using hE⟩
  have hfill : Instr.fill (fun i => some (i * s, s)) (madeCells zv.cells (len * s)) (parts.map fun (i, x) => (i, a.eval x)).toList = some cs' := by rw [← k1, hzl]
  unfold Instr.buildSlice
  simp only [Sem.run_bind, run_underlying (tElem_spec he), Result.andThen_ok, run_sizeOf' hs]
  rw [if_neg (by omega)]
  by_cases h0 : len * s = 0
  · have hfill0 : Instr.fill (fun i => some (i * s, s)) ((Array.range (len * s)).map (#[][· % (#[] : Array Value).size]!)) (parts.map fun (i, x) => (i, a.eval x)).toList = some cs' := by
      rw [← hfill]; congr 1; simp [madeCells, h0]
    rw [if_pos h0]
    simp only [Sem.run_bind, Sem.run_pure, Result.andThen_ok, hfill0]
    simp [newRow]
  · rw [if_neg h0]
    simp only [Sem.run_bind, z1, Sem.run_pure, Result.andThen_ok]
    have hfill1 : Instr.fill (fun i => some (i * s, s)) ((Array.range (len * s)).map (zv.cells[· % zv.cells.size]!)) (parts.map fun (i, x) => (i, a.eval x)).toList = some cs' := hfill
    simp only [hfill1]
    simp [newRow]

theorem tFld_spec {t : TypeId} {f o : Nat} {ty : TypeId} (h : tFld P t f = some (o, ty)) : ∃ (fs : Array Field) (x : Field), P.underlying t = some (.struct fs) ∧ fs[f]? = some x ∧ x.offset = o ∧ x.type = ty := by
  unfold tFld at h
  split at h
  · rename_i fs hfs
    simp only [Option.map_eq_some_iff] at h
    obtain ⟨x, hx, he⟩ := h
    injection he with e1 e2
    exact ⟨fs, x, hfs, hx, e1, e2⟩
  · cases h
/-- The address of a field. -/
def aFieldAddr (P : Program) (t : TypeId) (x : AV) (f : Nat) : Option AV :=
  match x with
  | .ptr (some (b, o)) => (tFld P t f).bind fun p => (tSz P p.2).bind fun s => (need (0 < s)).map fun _ => .ptr (some (b, o + p.1))
  | _ => none
theorem snd_fieldAddr (h : Emb E H w) {t : TypeId} {x : AV} {v : Value} (hv : Rel E x v) {f : Nat} {r : AV} (hr : aFieldAddr P t x f = some r) : Snd P E w (Instr.fieldAt t v f) (r, H) := by
  unfold aFieldAddr at hr
  split at hr
  · rename_i b o
    cases hv with
    | ptr _ _ hb =>
    cases hf : tFld P t f with
    | none => simp [hf] at hr
    | some p =>
    cases hs : tSz P p.2 with
    | none => simp [hf, hs] at hr
    | some s =>
      simp only [hf, hs, Option.bind_some, Option.map_eq_some_iff] at hr
      obtain ⟨u, hu, rfl⟩ := hr
      have h0 := need_some hu
      obtain ⟨po, pt⟩ := p
      obtain ⟨fs, y, f1, f2, f3, f4⟩ := tFld_spec hf
      refine .of_run h (v := .pointer (some ⟨(E.loc b).blk, (E.loc b).off + o + po, none⟩)) ?_ ?_
      · subst f3 f4
        simp only [Instr.fieldAt, Sem.run_bind, run_underlying f1, Result.andThen_ok, f2, Instr.sureAddr, Sem.run_pure, fieldPlace, run_sizeOf' hs]
        rw [if_neg (by omega)]
        simp [add_addr]
      · have := Rel.ptr (E := E) b (o + po) hb
        rwa [← Nat.add_assoc] at this
  · cases hr
/-- A field of a value. -/
def aField (P : Program) (t : TypeId) (x : AV) (f : Nat) : Option AV :=
  match x with
  | .agg cs => (tFld P t f).bind fun p => (tAgg P p.2).bind fun g => bif g then (tSz P p.2).map fun s => .agg ((cs.drop p.1).take s) else cs[p.1]?
  | _ => none
theorem run_part {ty : TypeId} {cs : Array Value} {off : Nat} {g : Bool} (hg : tAgg P ty = some g) {v : Value} (hv : if g = true then ∃ s, tSz P ty = some s ∧ v = .agg (cs.extract off (off + s)) else cs[off]? = some v) : (part ty cs off).run P w = .ok v w := by
  cases g
  · simp at hv
    simp [part, run_isAgg hg, hv]
  · simp at hv
    obtain ⟨s, hs, rfl⟩ := hv
    simp [part, run_isAgg hg, run_sizeOf' hs]
theorem relL_extract {xs : List AV} {cs : Array Value} (h : RelL E xs cs.toList) (o s : Nat) : RelL E ((xs.drop o).take s) (cs.extract o (o + s)).toList := by
  have := (h.drop o).take s
  have e : (cs.extract o (o + s)).toList = (cs.toList.drop o).take s := by
    rw [Array.toList_extract, List.extract_eq_take_drop]; simp
  rw [e]; exact this
theorem snd_field (h : Emb E H w) {t : TypeId} {x : AV} {v : Value} (hv : Rel E x v) {f : Nat} {r : AV} (hr : aField P t x f = some r) : Snd P E w (Instr.field t v f) (r, H) := by
  unfold aField at hr
  split at hr
  · rename_i xs
    cases hv with
    | agg _ cs hl hc =>
    have hL : RelL E xs cs.toList := RelL.of_agg (.agg xs cs hl hc)
    cases hf : tFld P t f with
    | none => simp [hf] at hr
    | some p =>
    obtain ⟨po, pt⟩ := p
    obtain ⟨fs, y, f1, f2, f3, f4⟩ := tFld_spec hf
    subst f3 f4
    cases hg : tAgg P y.type with
    | none => simp [hf, hg] at hr
    | some g =>
      simp only [hf, hg, Option.bind_some] at hr
      cases g
      · simp only [cond_false] at hr
        obtain ⟨u, hu, hru⟩ := hL.get hr
        refine .of_run h ?_ hru
        simp [Instr.field, run_underlying f1, f2, asAgg, run_part (w := w) hg (v := u) (cs := cs) (off := y.offset) (by simpa using hu)]
      · simp only [cond_true, Option.map_eq_some_iff] at hr
        obtain ⟨s, hs, rfl⟩ := hr
        have := (relL_extract hL y.offset s).agg
        rw [Array.toArray_toList] at this
        refine .of_run h ?_ this
        simp only [Instr.field, Sem.run_bind, run_underlying f1, Result.andThen_ok, f2, asAgg, Sem.run_pure]
        exact run_part (w := w) hg (by rw [if_pos rfl]; exact ⟨s, hs, rfl⟩)
  · cases hr
/-- The address of an element. -/
def tIdx (P : Program) (t : TypeId) : Option (Option Nat × TypeId) :=
  match P.underlying t with
  | some (.slice e) => some (none, e)
  | some (.array n e) => some (some n, e)
  | _ => none
def aIndexAddr (P : Program) (t : TypeId) (x i : AV) : Option AV :=
  match x, i with
  | .sl (some (b, o)) len _, .int _ n => (tElem P t).bind fun e => (tSz P e).bind fun s => (need (0 ≤ n ∧ n < len)).map fun _ => .ptr (some (b, o + n.toNat * s))
  | .ptr (some (b, o)), .int _ n => (tIdx P t).bind fun p => (tSz P p.2).bind fun s => (p.1).bind fun m => (need (0 ≤ n ∧ n < (m : Int))).map fun _ => .ptr (some (b, o + n.toNat * s))
  | _, _ => none
theorem snd_indexAddr (h : Emb E H w) {t : TypeId} {x i : AV} {v u : Value} (hv : Rel E x v) (hi : Rel E i u) {r : AV} (hr : aIndexAddr P t x i = some r) : Snd P E w (Instr.indexAt t v u) (r, H) := by
  unfold aIndexAddr at hr
  split at hr
  · rename_i b o len cap k n
    cases hi
    cases hv with
    | nils _ _ hb hc =>
      exfalso
      obtain ⟨_, -, hr⟩ := Option.bind_eq_some_iff.1 hr
      obtain ⟨_, -, hr⟩ := Option.bind_eq_some_iff.1 hr
      obtain ⟨_, hq, -⟩ := Option.map_eq_some_iff.1 hr
      have := need_some hq
      omega
    | sl _ _ _ _ c a hb h1 h2 h3 h4 h5 =>
    cases he : tElem P t with
    | none => simp [he] at hr
    | some e =>
    cases hs : tSz P e with
    | none => simp [he, hs] at hr
    | some s =>
      simp only [he, hs, Option.bind_some, Option.map_eq_some_iff] at hr
      obtain ⟨q, hq, rfl⟩ := hr
      obtain ⟨q1, q2⟩ := need_some hq
      obtain rfl := h4.resolve_left (by omega)
      refine .of_run h (v := .pointer (some ⟨(E.loc b).blk, (E.loc b).off + o + n.toNat * s, none⟩)) ?_ ?_
      · simp only [Instr.indexAt, asIntOf, Sem.run_bind, Sem.run_pure, Result.andThen_ok, run_underlying (tElem_spec he)]
        rw [if_pos ⟨q1, q2⟩]
        simp [run_sizeOf' hs, add_addr]
      · have := Rel.ptr (E := E) b (o + n.toNat * s) hb
        rwa [← Nat.add_assoc] at this
  · rename_i b o k n
    cases hi
    cases hv with
    | ptr _ _ hb =>
    unfold tIdx at hr
    cases hu : P.underlying t with
    | none => simp [hu] at hr
    | some d =>
      cases d <;> try (simp [hu] at hr; done)
      rename_i m e
      simp only [hu, Option.bind_some] at hr
      cases hs : tSz P e with
      | none => simp [hs] at hr
      | some s =>
        simp only [hs, Option.bind_some, Option.map_eq_some_iff] at hr
        obtain ⟨q, hq, rfl⟩ := hr
        obtain ⟨q1, q2⟩ := need_some hq
        refine .of_run h (v := .pointer (some ⟨(E.loc b).blk, (E.loc b).off + o + n.toNat * s, none⟩)) ?_ ?_
        · simp only [Instr.indexAt, asIntOf, Sem.run_bind, Sem.run_pure, Result.andThen_ok, run_underlying hu, Instr.sureAddr]
          rw [if_pos ⟨q1, q2⟩]
          simp [run_sizeOf' hs, add_addr]
        · have := Rel.ptr (E := E) b (o + n.toNat * s) hb
          rwa [← Nat.add_assoc] at this
  · cases hr
/-- An element of an array's value. -/
def aIndex (P : Program) (t : TypeId) (x i : AV) : Option AV :=
  match x, i with
  | .agg cs, .int _ n => (tIdx P t).bind fun p => (tSz P p.2).bind fun s => (p.1).bind fun m => (tAgg P p.2).bind fun g => (need (0 ≤ n ∧ n < (m : Int))).bind fun _ => bif g then some (.agg ((cs.drop (n.toNat * s)).take s)) else cs[n.toNat * s]?
  | _, _ => none
theorem snd_index (h : Emb E H w) {t : TypeId} {x i : AV} {v u : Value} (hv : Rel E x v) (hi : Rel E i u) {r : AV} (hr : aIndex P t x i = some r) : Snd P E w (Instr.index t v u) (r, H) := by
  unfold aIndex at hr
  split at hr
  · rename_i xs k n
    cases hi
    cases hv with
    | agg _ cs hl hc =>
    have hL : RelL E xs cs.toList := RelL.of_agg (.agg xs cs hl hc)
    unfold tIdx at hr
    cases hu : P.underlying t with
    | none => simp [hu] at hr
    | some d =>
      cases d <;> try (simp [hu] at hr; done)
      rename_i m e
      simp only [hu, Option.bind_some] at hr
      cases hs : tSz P e with
      | none => simp [hs] at hr
      | some s =>
      cases hg : tAgg P e with
      | none => simp [hs, hg] at hr
      | some g =>
        simp only [hs, hg, Option.bind_some] at hr
        cases hq : need (0 ≤ n ∧ n < (m : Int)) with
        | none => simp [hq] at hr
        | some q =>
          simp only [hq, Option.bind_some] at hr
          have q12 := need_some hq
          cases g
          · simp only [cond_false] at hr
            obtain ⟨u, hu', hru⟩ := hL.get hr
            refine .of_run h ?_ hru
            simp only [Instr.index, asIntOf, Sem.run_bind, Sem.run_pure, Result.andThen_ok, run_underlying hu]
            rw [if_pos q12]
            simp [run_sizeOf' hs, run_part (w := w) hg (v := u) (cs := cs) (off := n.toNat * s) (by simpa using hu')]
          · simp only [cond_true, Option.some.injEq] at hr
            subst hr
            have := (relL_extract hL (n.toNat * s) s).agg
            rw [Array.toArray_toList] at this
            refine .of_run h ?_ this
            simp only [Instr.index, asIntOf, Sem.run_bind, Sem.run_pure, Result.andThen_ok, run_underlying hu]
            rw [if_pos q12]
            simp only [Sem.run_bind, run_sizeOf' hs, Result.andThen_ok]
            exact run_part (w := w) hg (by rw [if_pos rfl]; exact ⟨s, hs, rfl⟩)
  · cases hr
/-- A part of a tuple. -/
def aExtract (x : AV) (i : Nat) : Option AV :=
  match x with
  | .tup vs => vs[i]?
  | _ => none
theorem snd_extract (h : Emb E H w) {x : AV} {v : Value} (hv : Rel E x v) {i : Nat} {r : AV} (hr : aExtract x i = some r) : Snd P E w (Instr.extract v i) (r, H) := by
  unfold aExtract at hr
  split at hr
  · cases hv with
    | tup _ cs hl hc =>
    obtain ⟨u, hu, hru⟩ := (RelL.of_tup (.tup _ cs hl hc)).get hr
    rw [Array.getElem?_toList] at hu
    exact .of_run h (by simp [Instr.extract, hu]) hru
  · cases hr
/-- A bound of a slice expression. -/
def aBound (x : Option AV) (d : Nat) : Option Nat :=
  match x with
  | none => some d
  | some (.int _ i) => (need (0 ≤ i)).map fun _ => i.toNat
  | _ => none
theorem run_sliceBound' {x : AV} {v : Value} (hv : Rel E x v) {d n y : Nat} (hb : aBound (some x) d = some n) (hy : n ≤ y) (code : BoundsCode) : (Instr.sliceBound v y code).run P w = .ok n w := by
  unfold aBound at hb
  split at hb
  · rename_i e; cases e
  · rename_i k i e
    injection e with e; subst e
    cases hv
    simp only [Option.map_eq_some_iff] at hb
    obtain ⟨u, hu, rfl⟩ := hb
    have := need_some hu
    exact run_sliceBound w k i y code this (by omega)
  · cases hb
def OptRel (E : Env) : Option AV → Option Value → Prop
  | none, none => True
  | some x, some v => Rel E x v
  | _, _ => False
theorem run_bounds {len cap : Nat} {lo hi mx : Option AV} {lv hv mv : Option Value} (r1 : OptRel E lo lv) (r2 : OptRel E hi hv) (r3 : OptRel E mx mv) {l hh m : Nat}
    (b1 : aBound lo 0 = some l) (b2 : aBound hi len = some hh) (b3 : aBound mx cap = some m) (c1 : l ≤ hh) (c2 : hh ≤ m) (c3 : m ≤ cap) (c4 : mx.isSome = true → hi.isSome = true) (isS : Bool) :
    (Instr.sliceBounds isS len cap lv hv mv).run P w = .ok (l, hh, m) w := by
  cases mx <;> cases mv <;> simp only [OptRel] at r3 <;> cases hi <;> cases hv <;> simp only [OptRel] at r2 <;> cases lo <;> cases lv <;> simp only [OptRel] at r1
  · simp only [aBound, Option.some.injEq] at b1 b2 b3; subst b1 b2 b3; simp [Instr.sliceBounds]
  · simp only [aBound, Option.some.injEq] at b2 b3; subst b2 b3
    simp [Instr.sliceBounds, run_sliceBound' r1 b1 c1]
  · simp only [aBound, Option.some.injEq] at b1 b3; subst b1 b3
    simp [Instr.sliceBounds, run_sliceBound' r2 b2 c2]
  · simp only [aBound, Option.some.injEq] at b3; subst b3
    simp [Instr.sliceBounds, run_sliceBound' r2 b2 c2, run_sliceBound' r1 b1 c1]
  · simp at c4
  · simp at c4
  · simp only [aBound, Option.some.injEq] at b1; subst b1
    simp [Instr.sliceBounds, run_sliceBound' r3 b3 c3, run_sliceBound' r2 b2 c2]
  · simp [Instr.sliceBounds, run_sliceBound' r3 b3 c3, run_sliceBound' r2 b2 c2, run_sliceBound' r1 b1 c1]
/-- A slice of a slice. -/
def aSlice (P : Program) (t : TypeId) (x : AV) (lo hi mx : Option AV) (H : AHeap) : Option AV :=
  match x with
  | .sl none _ _ => (tElem P t).bind fun _ => (tElem P t).bind fun e => (tSz P e).bind fun _ => (aBound lo 0).bind fun l => (aBound hi 0).bind fun h => (aBound mx 0).bind fun m => (need (l = 0 ∧ h = 0 ∧ m = 0 ∧ (mx.isSome = true → hi.isSome = true))).map fun _ => .sl none 0 (some 0)
  | .sl (some (b, o)) len cap =>
    match H[b]? with
    | some (.cells _ es _) => (tElem P t).bind fun e => (tSz P e).bind fun s => (aBound lo 0).bind fun l => (aBound hi len).bind fun h =>
      match mx with
      | none => (need (l ≤ h ∧ s = es ∧ (h ≤ len ∨ h ≤ cap.getD 0))).map fun _ => .sl (some (b, o + l * s)) (h - l) (cap.map (· - l))
      | some _ => (aBound mx 0).bind fun m => (need (l ≤ h ∧ h ≤ m ∧ s = es ∧ (m ≤ len ∨ m ≤ cap.getD 0) ∧ hi.isSome = true)).map fun _ => .sl (some (b, o + l * s)) (h - l) (some (m - l))
    | _ => none
  | _ => none
end
end Go.Proofs.Ytjfnbcifafmefaa
/- The abstract machine: slices of slices, numbers, comparisons, append, copy. Conditions: as each theorem states. -/
namespace Go.Proofs.Ytjfnbcifafmefaa
open Go.RowKit
section
variable {P : Program} {E : Env} {H : AHeap} {w : World}
theorem need_of {p : Prop} [Decidable p] {α : Type} {f : Unit → α} {r : α} (h : (need p).map f = some r) : p ∧ f () = r := by
  cases hn : need p with
  | none => simp [hn] at h
  | some u => simp [hn] at h; exact ⟨need_some hn, h⟩
theorem need_bind {p : Prop} [Decidable p] {α : Type} {f : Unit → Option α} {r : α} (h : (need p).bind f = some r) : p ∧ f () = some r := by
  cases hn : need p with
  | none => simp [hn] at h
  | some u => simp [hn] at h; exact ⟨need_some hn, h⟩
theorem bind_some' {α β : Type} {x : Option α} {f : α → Option β} {r : β} (h : x.bind f = some r) : ∃ a, x = some a ∧ f a = some r := Option.bind_eq_some_iff.1 h
theorem bounds_d (x : AV) (d d' : Nat) : aBound (some x) d = aBound (some x) d' := by cases x <;> rfl
theorem snd_slice (h : Emb E H w) {t : TypeId} {x : AV} {v : Value} (hv : Rel E x v) {lo hi mx : Option AV} {lv hv' mv : Option Value} (r1 : OptRel E lo lv) (r2 : OptRel E hi hv') (r3 : OptRel E mx mv) {r : AV} (hr : aSlice P t x lo hi mx H = some r) :
    Snd P E w (Instr.sliceAt t v lv hv' mv) (r, H) := by
  unfold aSlice at hr
  split at hr
  · obtain ⟨_, -, hr⟩ := bind_some' hr
    obtain ⟨e, he, hr⟩ := bind_some' hr
    obtain ⟨s, hs, hr⟩ := bind_some' hr
    obtain ⟨l, hl, hr⟩ := bind_some' hr
    obtain ⟨hh, hhh, hr⟩ := bind_some' hr
    obtain ⟨m, hm, hr⟩ := bind_some' hr
    obtain ⟨⟨rfl, rfl, rfl, q⟩, rfl⟩ := need_of hr
    have hu := tElem_spec he
    cases hv with
    | nilsl =>
      have hb := run_bounds (P := P) (w := w) r1 r2 r3 hl hhh hm (Nat.le_refl _) (Nat.le_refl _) (Nat.le_refl _) q true
      refine .of_run h (v := .slice none 0 0) ?_ .nilsl
      simp [Instr.sliceAt, run_underlying hu, Instr.slice, hb, run_sizeOf' hs]
  · rename_i b o len cap
    split at hr
    · rename_i own es xs hb
      obtain ⟨e, he, hr⟩ := bind_some' hr
      obtain ⟨s, hs, hr⟩ := bind_some' hr
      obtain ⟨l, hl, hr⟩ := bind_some' hr
      obtain ⟨hh, hhh, hr⟩ := bind_some' hr
      have hu := tElem_spec he
      cases hv with
      | nils _ _ hbn hc =>
        have hg : ∀ q, q ≤ 0 ∨ q ≤ cap.getD 0 → q = 0 := fun q hq => by rcases hc with rfl | rfl <;> simpa using hq
        split at hr
        · obtain ⟨⟨c1, c2, c3⟩, rfl⟩ := need_of hr
          cases mv <;> simp only [OptRel] at r3
          obtain rfl := hg _ c3
          obtain rfl : l = 0 := by omega
          have hbd := run_bounds (P := P) (w := w) (mx := none) (mv := none) r1 r2 trivial hl hhh rfl (Nat.le_refl _) (Nat.le_refl _) (Nat.le_refl _) (by simp) true
          refine .of_run h (v := .slice none 0 0) ?_ ?_
          · simp [Instr.sliceAt, run_underlying hu, Instr.slice, hbd, run_sizeOf' hs]
          · have := Rel.nils (E := E) b (cap.map (· - 0)) hbn (by rcases hc with rfl | rfl <;> simp)
            simpa using this
        · rename_i y
          obtain ⟨m, hm, hr⟩ := bind_some' hr
          obtain ⟨⟨c1, c2, c3, c4, c5⟩, rfl⟩ := need_of hr
          obtain rfl := hg _ c4
          obtain rfl : hh = 0 := by omega
          obtain rfl : l = 0 := by omega
          have hbd := run_bounds (P := P) (w := w) r1 r2 r3 hl hhh hm (Nat.le_refl _) (Nat.le_refl _) (Nat.le_refl _) (fun _ => c5) true
          refine .of_run h (v := .slice none 0 0) ?_ ?_
          · simp [Instr.sliceAt, run_underlying hu, Instr.slice, hbd, run_sizeOf' hs]
          · have := Rel.nils (E := E) b (some 0) hbn (.inr rfl)
            simpa using this
      | sl _ _ _ _ c a hbn h1 h2 h3 h4 h5 =>
      have hes := (h.blk b _ hb).2.2.2
      have hcap : ∀ q, q ≤ len ∨ q ≤ cap.getD 0 → q ≤ c := fun q hq => by
        rcases hq with hq | hq
        · omega
        · rcases h3 with rfl | rfl
          · simp at hq; omega
          · simpa using hq
      have fin : ∀ m cap', l ≤ hh → hh ≤ m → m ≤ c → s = es → (cap' = none ∨ cap' = some (m - l)) → (Instr.sliceBounds true len c lv hv' mv).run P w = .ok (l, hh, m) w → Snd P E w (Instr.sliceAt t (.slice (some a) len c) lv hv' mv) (.sl (some (b, o + l * s)) (hh - l) cap', H) := by
        intro m cap' c1 c2 c3 c4 c5 hbd
        refine .of_run h (v := .slice (some (if m = l then a else a.add (l * s))) (hh - l) (m - l)) ?_ ?_
        · simp only [Instr.sliceAt, Sem.run_bind, run_underlying hu, Result.andThen_ok, Instr.slice, hbd, run_sizeOf' hs, Sem.run_pure]
          split <;> simp
        · refine .sl b _ _ _ _ _ hbn (by omega) (by omega) c5 ?_ ?_
          · by_cases e : m = l
            · left; omega
            · right
              rw [if_neg e]
              obtain rfl := h4.resolve_left (by omega)
              rw [add_addr, Nat.add_assoc]
          · rw [hes]
            rw [hes] at h5
            have hl' : l * s + (m - l) * es = m * es := by rw [c4, ← Nat.add_mul]; congr 1; omega
            have hm' : m * es ≤ c * es := Nat.mul_le_mul_right _ c3
            omega
      split at hr
      · obtain ⟨⟨c1, c2, c3⟩, rfl⟩ := need_of hr
        cases mv <;> simp only [OptRel] at r3
        have hhc := hcap hh c3
        refine fin c _ c1 hhc (Nat.le_refl _) c2 ?_ (run_bounds (mx := none) (mv := none) r1 r2 trivial hl hhh rfl c1 hhc (Nat.le_refl _) (by simp) true)
        rcases h3 with rfl | rfl
        · exact .inl rfl
        · exact .inr rfl
      · rename_i y
        obtain ⟨m, hm, hr⟩ := bind_some' hr
        obtain ⟨⟨c1, c2, c3, c4, c5⟩, rfl⟩ := need_of hr
        have hmc := hcap m c4
        exact fin m _ c1 c2 hmc c3 (.inr rfl) (run_bounds r1 r2 r3 hl hhh (by rw [bounds_d _ _ 0]; exact hm) c1 c2 hmc (fun _ => c5) true)
    · cases hr
  · cases hr

/-- Integers. -/
def aInt (op : BinOp) (k : IntKind) (a b : Int) : Option AV :=
  match op with
  | .add => some (.int k (k.wrap (a + b)))
  | .sub => some (.int k (k.wrap (a - b)))
  | .mul => some (.int k (k.wrap (a * b)))
  | .quo => (need (b ≠ 0)).map fun _ => .int k (k.wrap (a.tdiv b))
  | .rem => (need (b ≠ 0)).map fun _ => .int k (a.tmod b)
  | .and => some (.int k (k.wrap (BitVec.ofInt k.bits a &&& BitVec.ofInt k.bits b).toNat))
  | .or => some (.int k (k.wrap (BitVec.ofInt k.bits a ||| BitVec.ofInt k.bits b).toNat))
  | .xor => some (.int k (k.wrap (BitVec.ofInt k.bits a ^^^ BitVec.ofInt k.bits b).toNat))
  | .andNot => some (.int k (k.wrap (BitVec.ofInt k.bits a &&& ~~~(BitVec.ofInt k.bits b)).toNat))
  | .eql => some (.bool (a == b))
  | .neq => some (.bool (a != b))
  | .lss => some (.bool (decide (a < b)))
  | .leq => some (.bool (decide (a ≤ b)))
  | .gtr => some (.bool (decide (a > b)))
  | .geq => some (.bool (decide (a ≥ b)))
  | .shl => (need (0 ≤ b)).map fun _ => .int k (k.wrap (a * 2 ^ (min b.toNat k.bits)))
  | .shr => (need (0 ≤ b)).map fun _ => .int k (a.fdiv (2 ^ (min b.toNat k.bits)))
def tIsBool (P : Program) (t : TypeId) : Bool := match P.underlying t with | some .bool => true | _ => false
def tIsSlice (P : Program) (t : TypeId) : Bool := match P.underlying t with | some (.slice _) => true | _ => false
/-- Equality of values of a type, by their cells. -/
def aEq (P : Program) : Nat → TypeId → List AV → List AV → Option Bool
  | 0, _, _, _ => none
  | d + 1, t, xs, ys =>
    match P.underlying t with
    | some (.int _) => (match xs, ys with | [.int k a], [.int k' b] => if k = k' then some (a == b) else none | _, _ => none)
    | some .bool => (match xs, ys with | [.bool a], [.bool b] => some (a == b) | _, _ => none)
    | some .string => (match xs, ys with | [.str a], [.str b] => some (a == b) | _, _ => none)
    | some (.struct fs) => if P.stoodInHeld t then none else
        fs.toList.foldr (fun f acc => acc.bind fun r => if f.name = "_" then none else (tSz P f.type).bind fun n => (aEq P d f.type ((xs.drop f.offset).take n) ((ys.drop f.offset).take n)).map fun b => b && r) (some true)
    | _ => none
/-- A value of type t out of its cells. -/
def ofCells (P : Program) (t : TypeId) (cs : List Value) (v : Value) : Prop := if tAgg P t = some true then v = .agg cs.toArray else cs = [v]
def dAgg : TypeDesc → Bool
  | .struct _ | .array _ _ => true
  | _ => false
theorem tAgg_of {t : TypeId} {d : TypeDesc} (h : P.underlying t = some d) : tAgg P t = some (dAgg d) := by
  unfold tAgg; rw [h]; cases d <;> rfl
theorem relL_single {x : AV} {vs : List Value} (h : RelL E [x] vs) : ∃ v, vs = [v] ∧ Rel E x v := by
  match vs, h with
  | [v], h => exact ⟨v, rfl, (RelL.uncons h).1⟩
theorem run_aEq : ∀ (d : Nat) (t : TypeId) (xs ys : List AV) (vs us : List Value) (v u : Value) (r : Bool), aEq P d t xs ys = some r → RelL E xs vs → RelL E ys us → ofCells P t vs v → ofCells P t us u → ∀ D w, (Op.equalIn (d + D) t v u).run P w = .ok r w
  | 0, _, _, _, _, _, _, _, _, h, _, _, _, _, _, _ => by simp [aEq] at h
  | d + 1, t, xs, ys, vs, us, v, u, r, h, hx, hy, hv, hu, D, w => by
    rw [show d + 1 + D = (d + D) + 1 by omega]
    unfold aEq at h
    unfold ofCells at hv hu
    cases ht : P.underlying t with
    | none => rw [ht] at h; cases h
    | some td =>
      rw [ht] at h
      rw [tAgg_of ht] at hv hu
      cases td <;> try (simp at h; done)
      · simp only [dAgg, Option.some.injEq, Bool.false_eq_true, if_false] at hv hu
        simp only at h
        split at h
        · obtain ⟨v', e1, q1⟩ := relL_single hx
          obtain ⟨u', e2, q2⟩ := relL_single hy
          rw [hv] at e1; rw [hu] at e2
          simp at e1 e2 h; subst e1 e2 h
          cases q1; cases q2
          exact run_equalIn_bool w (d + D) t _ _ ht
        · cases h
      · simp only [dAgg, Option.some.injEq, Bool.false_eq_true, if_false] at hv hu
        simp only at h
        split at h
        · split at h
          · rename_i hk
            obtain ⟨v', e1, q1⟩ := relL_single hx
            obtain ⟨u', e2, q2⟩ := relL_single hy
            rw [hv] at e1; rw [hu] at e2
            simp at e1 e2 h; subst e1 e2 h hk
            cases q1; cases q2
            exact run_equalIn_int w (d + D) t _ _ _ _ ht
          · cases h
        · cases h
      · simp only [dAgg, Option.some.injEq, Bool.false_eq_true, if_false] at hv hu
        simp only at h
        split at h
        · obtain ⟨v', e1, q1⟩ := relL_single hx
          obtain ⟨u', e2, q2⟩ := relL_single hy
          rw [hv] at e1; rw [hu] at e2
          simp at e1 e2 h; subst e1 e2 h
          cases q1; cases q2
          rename_i a b
          rw [run_equalIn_string w (d + D) t _ _ ht]
          simp [ByteArray.toList_eq]
        · cases h
      · rename_i fs
        simp only [dAgg, if_true] at hv hu
        subst hv hu
        simp only at h
        split at h
        · cases h
        · rename_i hst
          have hst' : P.stoodInHeld t = false := by simpa using hst
          have hfo : P.fieldsOf t = fs := by unfold Program.fieldsOf; rw [ht]
          rw [run_equalIn_struct w (d + D) t _ _ (by rw [hfo]; exact ht) hst', hfo]
          clear hst hst' hfo ht
          generalize fs.toList = l at h ⊢
          induction l generalizing r with
          | nil => simp at h; subst h; simp [Op.eqFields]
          | cons f l ih =>
            simp only [List.foldr_cons] at h
            obtain ⟨r', hr', h⟩ := bind_some' h
            split at h
            · cases h
            · rename_i hname
              obtain ⟨n, hn, h⟩ := bind_some' h
              simp only [Option.map_eq_some_iff] at h
              obtain ⟨b, hb, rfl⟩ := h
              have part : ∀ (ps : List AV) (cs : List Value), RelL E ps cs → (∃ g, tAgg P f.type = some g ∧ (g = false → ((ps.drop f.offset).take n).length = 1)) → ∃ x, (part f.type cs.toArray f.offset).run P w = .ok x w ∧ ofCells P f.type ((cs.drop f.offset).take n) x := by
                rintro ps cs hac ⟨g, hg, hg1⟩
                cases g
                · obtain ⟨x, hx⟩ := List.length_eq_one_iff.1 (hg1 rfl)
                  obtain ⟨y, hy, hxy⟩ := relL_single (by rw [← hx]; exact (hac.drop f.offset).take n)
                  refine ⟨y, run_part (w := w) hg ?_, ?_⟩
                  · have h0 := congrArg (·[0]?) hy
                    simp only [List.getElem?_cons_zero] at h0
                    rw [List.getElem?_take] at h0
                    split at h0
                    · simpa using h0
                    · cases h0
                  · unfold ofCells; rw [hg]; simp [hy]
                · refine ⟨_, run_part (w := w) hg (by simp only [if_true]; exact ⟨n, hn, rfl⟩), ?_⟩
                  unfold ofCells
                  rw [hg]
                  simp [List.extract_eq_take_drop]
              have hg : ∃ g, tAgg P f.type = some g ∧ (g = false → ((xs.drop f.offset).take n).length = 1 ∧ ((ys.drop f.offset).take n).length = 1) := by
                cases d with
                | zero => simp [aEq] at hb
                | succ d' =>
                  unfold aEq at hb
                  cases hft : P.underlying f.type with
                  | none => rw [hft] at hb; cases hb
                  | some fd =>
                    rw [tAgg_of hft]
                    rw [hft] at hb
                    refine ⟨_, rfl, fun hgf => ?_⟩
                    cases fd <;> try (simp [dAgg] at hgf; done)
                    all_goals (simp only at hb; try (cases hb; done))
                    all_goals (split at hb <;> first | (cases hb; done) | (rename_i e1 e2; rw [e1, e2]; exact ⟨rfl, rfl⟩))
              obtain ⟨g, hg1, hg2⟩ := hg
              obtain ⟨a, pa, ca⟩ := part xs vs hx ⟨g, hg1, fun e => (hg2 e).1⟩
              obtain ⟨c, pc, cc⟩ := part ys us hy ⟨g, hg1, fun e => (hg2 e).2⟩
              have hrun := run_aEq d f.type _ _ _ _ a c b hb ((hx.drop f.offset).take n) ((hy.drop f.offset).take n) ca cc D w
              simp only [Op.eqFields, hname, ne_eq, not_false_eq_true, if_true, Sem.run_bind, pa, pc, Result.andThen_ok, hrun]
              cases b
              · simp
              · simp only [Bool.not_true, Bool.false_eq_true, if_false, Bool.true_and]
                exact ih r' hr'
end
end Go.Proofs.Ytjfnbcifafmefaa
