/- Parts of the proof: walks and plain facts. Conditions: as each theorem states. -/
import Derived.Test.YtoimakfecmhjkaaGreatG2
import Derived.Shelf.Small.Bits
import Derived.Shelf.Strconv.Itoa0
import Derived.Shelf.SlSortCmp.WholeK
import Derived.Shelf.SlGeneric
import Derived.Ground.SlsfProg
import Derived.Shelf.Spec.SlicesGrow
import Derived.Test.YtoimakfecmhjkaaGreatProg
import Derived.Lib.SortBridge
import Derived.Lib.RowBridge
import Derived.Test.YtoimakfecmhjkaaGreatG1
namespace Go.Proofs.YtoimakfecmhjkaaGreat
set_option linter.unusedSimpArgs false
set_option linter.unusedVariables false
open Go.RowKit
/-- A slice of n elements that are the whole of a block, or an empty one. -/
def Sl (H : AHeap) (sz : Nat) (s : AV) (n : Nat) (xs : List AV) : Prop := ∃ b own cap, s = .sl (some (b, 0)) n cap ∧ H[b]? = some (.cells own sz xs)
theorem Sl.app {H : AHeap} {sz n : Nat} {s : AV} {xs : List AV} (h : Sl H sz s n xs) (l : AHeap) : Sl (H ++ l) sz s n xs := by
  obtain ⟨b, own, cap, h1, h2⟩ := h
  exact ⟨b, own, cap, h1, get_app h2⟩
abbrev SlP (H : AHeap) (s : AV) (l : List (Int × Int)) : Prop := Sl H 2 s l.length (prs l)
abbrev SlI (H : AHeap) (k : IntKind) (s : AV) (l : List Int) : Prop := Sl H 1 s l.length (ints k l)
/-- A row that began as nil and has grown: its capacity, and whether its block is the function's own. -/
def capG (n : Nat) : Option Nat := match n with | 0 => some 0 | _ + 1 => none
def ownG (n : Nat) : Bool := match n with | 0 => false | _ + 1 => true
theorem capG_0 : capG 0 = some 0 := rfl
theorem ownG_0 : ownG 0 = false := rfl
theorem capG_s {n : Nat} : capG (n + 1) = none := rfl
theorem ownG_s {n : Nat} : ownG (n + 1) = true := rfl
theorem capG_p {n : Nat} (h : 0 < n) : capG n = none := by cases n <;> first | rfl | omega
theorem ownG_p {n : Nat} (h : 0 < n) : ownG n = true := by cases n <;> first | rfl | omega
theorem aApp_nil {P : Program} {t : TypeId} {n : Nat} {c : Option Nat} {x : AV} {H : AHeap} : aAppend P t (.sl none n c) x H = (tElem P t).bind fun e => (tSz P e).bind fun sz => (tBytes P e).bind fun by_ => (tZero P e).bind fun z => (aElems sz x H).bind fun mx =>
    (need (z.length = sz ∧ 0 < sz ∧ 0 < by_)).bind fun _ => (need (n = 0)).bind fun _ => bif mx.1 == 0 then some (.sl none 0 (some 0), H) else (need (mx.1 * by_ ≤ 140737488355328)).map fun _ => (.sl (some (H.length, 0)) mx.1 none, H ++ [.cells true sz mx.2]) := rfl
theorem aApp_none {P : Program} {t : TypeId} {b o n : Nat} {x : AV} {H : AHeap} : aAppend P t (.sl (some (b, o)) n none) x H = (tElem P t).bind fun e => (tSz P e).bind fun sz => (tBytes P e).bind fun by_ => (tZero P e).bind fun z => (aElems sz x H).bind fun mx =>
    (need (z.length = sz ∧ 0 < sz ∧ 0 < by_)).bind fun _ => (ards H b o (n * sz)).bind fun olds => (need ((n + mx.1) * by_ ≤ 140737488355328)).bind fun _ =>
      bif n + mx.1 == 0 then some (.sl (some (b, o)) 0 none, H)
      else match H[b]? with
        | some (.cells true es _) => (need (es = sz)).map fun _ => (.sl (some (H.length, 0)) (n + mx.1) none, H.set b .dead ++ [.cells true sz (olds ++ mx.2)])
        | _ => none := rfl
theorem aApp_some {P : Program} {t : TypeId} {b o n c : Nat} {x : AV} {H : AHeap} : aAppend P t (.sl (some (b, o)) n (some c)) x H = (tElem P t).bind fun e => (tSz P e).bind fun sz => (tBytes P e).bind fun by_ => (tZero P e).bind fun z => (aElems sz x H).bind fun mx =>
    (need (z.length = sz ∧ 0 < sz ∧ 0 < by_)).bind fun _ => (ards H b o (n * sz)).bind fun olds => (need ((n + mx.1) * by_ ≤ 140737488355328)).bind fun _ =>
      bif n + mx.1 == 0 then some (.sl (some (b, o)) 0 (some c), H)
      else bif decide (c < n + mx.1) then some (.sl (some (H.length, 0)) (n + mx.1) none, H ++ [.cells true sz (olds ++ mx.2)])
      else match H[b]? with
        | some (.cells true es _) => (need (es = sz)).map fun _ => (.sl (some (H.length, 0)) (n + mx.1) none, H.set b .dead ++ [.cells true sz (olds ++ mx.2)])
        | _ => none := rfl
/-- What is left of the elder block. -/
def killG (n : Nat) (X : ABlk) : ABlk := match n with | 0 => X | _ + 1 => .dead
/-- More is appended to a row that grows. -/
theorem aApp_grown {P : Program} {t : TypeId} {b n : Nat} {x : AV} {H : AHeap} : aAppend P t (.sl (some (b, 0)) n (capG n)) x H = (tElem P t).bind fun e => (tSz P e).bind fun sz => (tBytes P e).bind fun by_ => (tZero P e).bind fun z => (aElems sz x H).bind fun mx =>
    (need (z.length = sz ∧ 0 < sz ∧ 0 < by_)).bind fun _ => match H[b]? with
      | some (.cells own es xs) => bif (own == ownG n) && (decide (es = sz) && (decide (xs.length = n * sz) && (decide (0 < mx.1) && xs.all AV.one))) then
          (need ((n + mx.1) * by_ ≤ 140737488355328)).map fun _ => (.sl (some (H.length, 0)) (n + mx.1) none, H.set b (killG n (.cells own es xs)) ++ [.cells true sz (xs ++ mx.2)])
        else aAppend P t (.sl (some (b, 0)) n (capG n)) x H
      | _ => aAppend P t (.sl (some (b, 0)) n (capG n)) x H := by
  cases h1 : tElem P t with
  | none => simp [aAppend, h1]
  | some e =>
  cases h2 : tSz P e with
  | none => simp [aAppend, h1, h2]
  | some sz =>
  cases h3 : tBytes P e with
  | none => simp [aAppend, h1, h2, h3]
  | some by_ =>
  cases h4 : tZero P e with
  | none => simp [aAppend, h1, h2, h3, h4]
  | some z =>
  cases h5 : aElems sz x H with
  | none => simp [aAppend, h1, h2, h3, h4, h5]
  | some mx =>
  simp only [Option.bind_some, h2, h3, h4, h5]
  by_cases hz : z.length = sz ∧ 0 < sz ∧ 0 < by_
  · have hn : need (z.length = sz ∧ 0 < sz ∧ 0 < by_) = some () := if_pos hz
    rw [hn, Option.bind_some]
    split
    · rename_i own es xs hb
      cases hc : (own == ownG n) && (decide (es = sz) && (decide (xs.length = n * sz) && (decide (0 < mx.1) && xs.all AV.one))) with
      | false => rfl
      | true =>
        rw [cond_true]
        simp only [Bool.and_eq_true, beq_iff_eq, decide_eq_true_eq] at hc
        obtain ⟨rfl, rfl, hl, hm, ho⟩ := hc
        have hard : ards H b 0 (n * es) = some xs := by
          unfold ards
          rw [hb]
          simp only
          rw [List.drop_zero, List.take_of_length_le (by omega)]
          simp [hl, ho]
        cases n with
        | zero =>
          simp only [aAppend, h1, h2, h3, h4, h5, Option.bind_some, hn, hard, capG, killG]
          have e0 : (0 + mx.1 == 0) = false := beq_eq_false_iff_ne.2 (by omega)
          rw [e0, cond_false, decide_eq_true (by omega : (0 : Nat) < 0 + mx.1), cond_true]
          have hs : H.set b (.cells (ownG 0) es xs) = H := by
            refine List.ext_getElem? fun i => ?_
            rw [List.getElem?_set]
            split
            · rename_i e; subst e
              split
              · rw [hb]
              · rename_i hh; exact absurd (getElem?_lt hb) hh
            · rfl
          rw [hs]
          unfold need
          split <;> rfl
        | succ n =>
          simp only [aAppend, h1, h2, h3, h4, h5, Option.bind_some, hn, hard, capG, killG, hb, ownG]
          have e0 : (n + 1 + mx.1 == 0) = false := beq_eq_false_iff_ne.2 (by omega)
          rw [e0, cond_false, cond_false]
          have e1 : need True = some () := if_pos trivial
          rw [e1]
          unfold need
          split <;> rfl
    · rfl
  · have hn : need (z.length = sz ∧ 0 < sz ∧ 0 < by_) = none := if_neg hz
    simp only [aAppend, h1, h2, h3, h4, h5, Option.bind_some, hn, Option.bind_none]
theorem prs_one {l : List (Int × Int)} : (prs l).all AV.one = true := by
  induction l with
  | nil => rfl
  | cons p l ih => rw [prs_cons]; simp [AV.one, ih]
theorem ints_ones {k : IntKind} {l : List Int} : (ints k l).all AV.one = true := by simp [ints, AV.one]
section
variable {P : Program} {f : FuncId} {args : List AV} {H l1 : AHeap} {x : AV}
/-- What a call leaves, seen in another way. -/
theorem ACalls.weak (h : ACalls P f args H fun y H1 => y = x ∧ H1 = H ++ l1) (G : AHeap) (hG : G.all phant = true) (sel : List Nat) (hnd : sel.Nodup) (x2 : AV) (l2 : AHeap)
    (hw : W (H.length + (l1 ++ G).length) x (x2.mv (sig H.length (l1 ++ G).length sel)) ∧ absH (H.length + (l1 ++ G).length) (sig H.length (l1 ++ G).length sel) (l1 ++ G) sel l2) :
    ACalls P f args H fun y H1 => y = x2 ∧ H1 = H ++ l2 := fun E w vs hE hv => by
  refine (h E w vs hE hv).mono ?_
  rintro e w' ⟨E', v, H', x', he, ⟨rfl, rfl⟩, hle, hr, hemb⟩
  have hab := Abs.of (n := H.length) (H0 := H) (l1 := l1) (l2 := l2) (F1 := [(0, x')]) (F2 := [(0, x2)]) G hG rfl hE.bel sel hnd (fun p hp => by simp at hp; subst hp; exact hw.1) (absH_get hw.2).1 (absH_get hw.2).2
  obtain ⟨E2, l, f2, e2⟩ := hab.emb (a := ⟨#[v], []⟩) (by rw [hemb.n]; simp) (fun t => by
    unfold look
    cases t with
    | zero => simpa using hr
    | succ t => simp [look]; exact .any _) hemb
  refine ⟨E2, v, _, x2, he, ⟨rfl, rfl⟩, ?_, by have := f2 0; simpa [look] using this, e2⟩
  have hn := hE.n
  exact ⟨l.B.trans hle.B, l.w0.trans hle.w0, by rw [hn]; exact l.n, fun b hb => (l.loc b (by rw [← hn]; exact hb)).trans (hle.loc b hb)⟩
theorem ACalls.weak0 (h : ACalls P f args H fun y H1 => y = x ∧ H1 = H) (G : AHeap) (hG : G.all phant = true) (sel : List Nat) (hnd : sel.Nodup) (x2 : AV) (l2 : AHeap)
    (hw : W (H.length + G.length) x (x2.mv (sig H.length G.length sel)) ∧ absH (H.length + G.length) (sig H.length G.length sel) G sel l2) :
    ACalls P f args H fun y H1 => y = x2 ∧ H1 = H ++ l2 :=
  ACalls.weak (l1 := []) (h.mono fun y H1 ⟨a, b⟩ => ⟨a, by rw [b, List.append_nil]⟩) G hG sel hnd x2 l2 hw
end
section
variable {P : Program} {f : FuncId} {H : AHeap}
/-- An empty slice is nil, or it is none: a call at it. -/
theorem ACalls.nilsplit {b es : Nat} {cap : Option Nat} {x x2 : AV} {l1 l2 : AHeap} (h1 : ACalls P f [.sl none 0 (some 0)] H fun y H1 => y = x2 ∧ H1 = H ++ l2) (h2 : ∀ c, 0 < c → ACalls P f [.sl (some (b, 0)) 0 (some c)] H fun y H1 => y = x2 ∧ H1 = H ++ l2)
    (h3 : ACalls P f [.sl (some (H.length, 1)) 0 (some 0)] (H ++ [.cells false es []]) fun y H1 => y = x ∧ H1 = H ++ l1) (G : AHeap) (hG : G.all phant = true) (sel : List Nat) (hnd : sel.Nodup)
    (hw : W (H.length + (l1 ++ G).length) x (x2.mv (sig H.length (l1 ++ G).length sel)) ∧ absH (H.length + (l1 ++ G).length) (sig H.length (l1 ++ G).length sel) (l1 ++ G) sel l2) :
    ACalls P f [.sl (some (b, 0)) 0 cap] H fun y H1 => y = x2 ∧ H1 = H ++ l2 := fun E w vs hE hv => by
  obtain ⟨v1, l1, rfl, k1, h1'⟩ := rels_cons hv
  obtain rfl := rels_nil h1'
  cases k1 with
  | nils _ _ hb hc => exact h1 E w _ hE (.cons .nilsl (.nil E))
  | sl _ _ _ _ c a hb q1 q2 q3 q4 q5 =>
    rcases Nat.eq_zero_or_pos c with rfl | h0
    · have hn := hE.n
      have hX : Emb (E.push ⟨0, 0, 1, es⟩) (H ++ [.cells false es []]) w := by
        have hle := E.le_push ⟨0, 0, 1, es⟩
        have e1 : (E.push ⟨0, 0, 1, es⟩).loc H.length = ⟨0, 0, 1, es⟩ := by rw [← hn]; exact Env.push_new _ _
        refine ⟨by simp [Env.push, hn], hE.below, hE.base, fun b x hbx => ?_, fun b c x y hbx hcy ox oy hbc => ?_⟩
        · by_cases hbl : b < H.length
          · rw [List.getElem?_append_left hbl] at hbx
            rw [Env.push_old _ _ (by omega)]
            exact (hE.blk b x hbx).mono hle (Nat.le_refl _) (fun _ => rfl) (fun _ => rfl)
          · have hbe : b = H.length := by have := getElem?_lt hbx; simp at this; omega
            subst hbe
            rw [List.getElem?_append_right (Nat.le_refl _), Nat.sub_self] at hbx
            simp at hbx; subst hbx
            rw [e1]
            exact ⟨fun j x hj => by simp at hj, (fun h => by cases h), fun _ h0 => by simp at h0, rfl⟩
        · by_cases hbl : b < H.length
          · by_cases hcl : c < H.length
            · rw [List.getElem?_append_left hbl] at hbx
              rw [List.getElem?_append_left hcl] at hcy
              rw [Env.push_old _ _ (by omega), Env.push_old _ _ (by omega)]
              exact hE.inj b c x y hbx hcy ox oy hbc
            · have hbe : c = H.length := by have := getElem?_lt hcy; simp at this; omega
              subst hbe
              rw [List.getElem?_append_right (Nat.le_refl _), Nat.sub_self] at hcy
              simp at hcy; subst hcy; cases oy
          · have hbe : b = H.length := by have := getElem?_lt hbx; simp at this; omega
            subst hbe
            rw [List.getElem?_append_right (Nat.le_refl _), Nat.sub_self] at hbx
            simp at hbx; subst hbx; cases ox
      refine (h3 (E.push ⟨0, 0, 1, es⟩) w _ hX (.cons (.sl H.length 1 0 (some 0) 0 a (by simp [Env.push, hn]) (Nat.le_refl _) (by simp) (.inr rfl) (.inl rfl) ?_) (.nil _))).mono ?_
      · have e1 : (E.push ⟨0, 0, 1, es⟩).loc H.length = ⟨0, 0, 1, es⟩ := by rw [← hn]; exact Env.push_new _ _
        rw [e1]; simp
      · rintro e w' ⟨E', v, H', x', he, ⟨rfl, rfl⟩, hle, hr, hemb⟩
        have hab := Abs.of (n := H.length) (H0 := H) (l1 := l1) (l2 := l2) (F1 := [(0, x')]) (F2 := [(0, x2)]) G hG rfl hE.bel sel hnd (fun p hp => by simp at hp; subst hp; exact hw.1) (absH_get hw.2).1 (absH_get hw.2).2
        obtain ⟨E2, l, f2, e2⟩ := hab.emb (a := ⟨#[v], []⟩) (by rw [hemb.n]; simp) (fun t => by
          unfold look
          cases t with
          | zero => simpa using hr
          | succ t => simp [look]; exact .any _) hemb
        have hle' := (E.le_push ⟨0, 0, 1, es⟩).trans hle
        exact ⟨E2, v, _, x2, he, ⟨rfl, rfl⟩, ⟨l.B.trans hle'.B, l.w0.trans hle'.w0, by rw [hn]; exact l.n, fun b hb => (l.loc b (by rw [← hn]; exact hb)).trans (hle'.loc b hb)⟩, by have := f2 0; simpa [look] using this, e2⟩
    · exact h2 c h0 E w _ hE (.cons (.sl b 0 0 (some c) c a hb q1 q2 (.inr rfl) q4 q5) (.nil E))
end
theorem Abs.byN {H0 l1 : AHeap} {F1 F2 : Fr} (hsc : HBel H0.length H0) (h : absF (H0.length + l1.length) (sig H0.length l1.length []) F1 F2) : Abs H0.length (sig H0.length l1.length []) F1 (H0 ++ l1) F2 H0 := by
  have := Abs.by (l1 := l1) (l2 := []) (F1 := F1) (F2 := F2) hsc [] (by simp) ⟨h, trivial⟩
  simpa using this
theorem end_byE {P : Program} {fn : Func} {H l2 : AHeap} {R : AV → AHeap → Prop} {F : Fr} {e : Exit} (he : e = .ret ∨ e = .normal) (hbel : HBel H.length H) {x1 : AV} (x2 : AV) (hx : aResult P fn F H = some x1) (G : AHeap) (hG : G.all phant = true) (sel : List Nat) (hnd : sel.Nodup) (hR : R x2 (H ++ l2))
    (h : W (H.length + G.length) x1 (x2.mv (sig H.length G.length sel)) ∧ absH (H.length + G.length) (sig H.length G.length sel) G sel l2) : AEnd P fn H.length R e F H := by
  have h1 := end_byG (P := P) (fn := fn) (l1 := []) (l2 := l2) (R := R) (F := F) he hbel x2 (by simpa using hx) G hG sel hnd hR h
  simpa using h1
theorem ints_app {k : IntKind} {l m : List Int} : ints k (l ++ m) = ints k l ++ ints k m := by simp [ints]
theorem ints_cons {k : IntKind} {x : Int} {l : List Int} : ints k (x :: l) = .int k x :: ints k l := rfl
theorem ints_nil {k : IntKind} : ints k [] = [] := rfl
theorem bools_app {l m : List Bool} : bools (l ++ m) = bools l ++ bools m := by simp [bools]
theorem bools_cons {x : Bool} {l : List Bool} : bools (x :: l) = .bool x :: bools l := rfl
theorem bools_nil : bools [] = [] := rfl
set_option linter.unusedSimpArgs false
set_option linter.unusedVariables false
open Go.RowKit
/-- append, where nothing more is said of it. -/
def aAppendX (P : Program) (t : TypeId) (s x : AV) (H : AHeap) : Option (AV × AHeap) := aAppend P t s x H
/-- More is appended to a row that grows. -/
theorem aApp_grw {P : Program} {t : TypeId} {b n : Nat} {x : AV} {H : AHeap} : aAppend P t (.sl (some (b, 0)) n (capG n)) x H = (tElem P t).bind fun e => (tSz P e).bind fun sz => (tBytes P e).bind fun by_ => (tZero P e).bind fun z => (aElems sz x H).bind fun mx =>
    (need (z.length = sz ∧ 0 < sz ∧ 0 < by_)).bind fun _ => match H[b]? with
      | some (.cells own es xs) => bif (own == ownG n) && (decide (es = sz) && (decide (xs.length = n * sz) && (decide (0 < mx.1) && xs.all AV.one))) then
          (need ((n + mx.1) * by_ ≤ 140737488355328)).map fun _ => (.sl (some (H.length, 0)) (n + mx.1) none, H.set b (killG n (.cells own es xs)) ++ [.cells true sz (xs ++ mx.2)])
        else aAppendX P t (.sl (some (b, 0)) n (capG n)) x H
      | _ => aAppendX P t (.sl (some (b, 0)) n (capG n)) x H := aApp_grown
theorem W_nil0 {m b : Nat} (h : b < m) : W m (.sl none 0 (some 0)) (.sl (some (b, 0)) 0 none) = True := eq_true (W_nils h (.inl rfl))
theorem W_nil1 {m b : Nat} (h : b < m) : W m (.sl none 0 (some 0)) (.sl (some (b, 0)) 0 (some 0)) = True := eq_true (W_nils h (.inr rfl))
theorem W_cap' {m n : Nat} {p : Nat × Nat} {c : Option Nat} : W m (.sl (some p) n c) (.sl (some p) n none) = True := eq_true W_cap
theorem Wc_nil0 {m b : Nat} (h : b < m) : Wc m (.sl none 0 (some 0)) (.sl (some (b, 0)) 0 none) = True := eq_true (Wc_nils h (.inl rfl))
theorem Wc_nil1 {m b : Nat} (h : b < m) : Wc m (.sl none 0 (some 0)) (.sl (some (b, 0)) 0 (some 0)) = True := eq_true (Wc_nils h (.inr rfl))
theorem Wc_cap' {m n : Nat} {p : Nat × Nat} {c : Option Nat} : Wc m (.sl (some p) n c) (.sl (some p) n none) = True := eq_true Wc_cap
theorem int_beq (a b : Int) : (a == b) = decide (a = b) := rfl
theorem int_bne (a b : Int) : (a != b) = !decide (a = b) := rfl
theorem rem_nat (a b : Nat) : Int.tmod (a : Int) (b : Int) = ((a % b : Nat) : Int) := rfl
section
variable {P : Program} {H : AHeap} {n : Nat}
theorem LTy.intsU {t e : TypeId} {k : IntKind} {x : AV} (ht : P.underlying t = some (.slice e)) (he : P.underlying e = some (.int k)) (hl : leafs P (n + 1) e = some [e]) (h : LTy P H (n + 2) t x) : ∃ l : List Int, SlI H k x l ∧ l.length ≤ maxLen ∧ ∀ z ∈ l, (Lit.int k z).wf = true := by
  obtain ⟨b, rows, rfl, h1, h2, h3⟩ := h.slice ht hl
  obtain ⟨l, k1, k2, k3⟩ := rows_ints he rows h3
  exact ⟨l, ⟨b, false, none, by rw [k1], by rw [← k2]; exact h2⟩, by omega, k3⟩
end
/-- The machine steps on by its rules; what must hold is small arithmetic. -/
theorem runT {p q : Prop} (hq : q) (h : q → p := by
  intro hq
  simp -implicitDefEqProofs (disch := omega) only [aApp_nil, aApp_none, aApp_some, aApp_grw, simprocAttr, amset, tyset, Function.comp_apply, one1, lenV, calleeOf, lateOk, belowV, aop, AV.ofValue, AV.ofCell, AV.cells, AV.flat, AV.one, arep, aBin, aConv]
  repeat refine And.intro (by clear hq; omega) ?_
  exact hq) : p := h hq
theorem runTf {p q r : Prop} (f : r) (hq : q) (h : r → q → p := by
  intro hs hq
  simp -implicitDefEqProofs (disch := omega) only [hs, aApp_nil, aApp_none, aApp_some, aApp_grw, simprocAttr, amset, tyset, Function.comp_apply, one1, lenV, calleeOf, lateOk, belowV, aop, AV.ofValue, AV.ofCell, AV.cells, AV.flat, AV.one, arep, aBin, aConv]
  repeat refine And.intro (by clear hq; omega) ?_
  exact hq) : p := h f hq
theorem runDf {p q r : Prop} (f : r) (hq : q) (h : r → q → p := by
  intro hs hq
  simp -implicitDefEqProofs (disch := omega) only [hs, pickL, aApp_nil, aApp_none, aApp_some, aApp_grw, simprocAttr, amset, tyset, Function.comp_apply, one1, lenV, calleeOf, lateOk, belowV, aop, AV.ofValue, AV.ofCell, AV.cells, AV.flat, AV.one, arep, aBin, aConv]
  repeat refine And.intro (by clear hq; omega) ?_
  exact hq) : p := h f hq
/-- A known truth in plain words. -/
theorem bsT {p q : Prop} (h : p) (e : p → q := by
  intro h
  try simp only [boolset, beq_iff_eq, ne_eq] at h
  exact h) : q := e h
theorem bnT {p q : Prop} (h : p) (e : p → q := by
  intro h
  try simp only [int_bne, int_beq, Bool.not_eq_true', Bool.not_eq_false', Bool.not_not] at h
  exact h) : q := e h
set_option linter.unusedSimpArgs false
set_option linter.unusedVariables false
open Go.RowKit
abbrev Pt := Int × Int
def crs (a b : Pt) : Int := a.1 * b.2 - a.2 * b.1
/-- In the upper half plane (or on its right border), and not zero. -/
def up (p : Pt) : Prop := 0 < p.2 ∨ (p.2 = 0 ∧ 0 < p.1)
instance (p : Pt) : Decidable (up p) := inferInstanceAs (Decidable (_ ∨ _))
theorem crs_self (a : Pt) : crs a a = 0 := by unfold crs; rw [Int.mul_comm]; omega
theorem crs_anti (a b : Pt) : crs b a = -crs a b := by unfold crs; rw [Int.mul_comm b.1, Int.mul_comm b.2]; omega
theorem crs_id (x y z : Pt) : y.2 * crs x z = z.2 * crs x y + x.2 * crs y z := by unfold crs; grind
theorem up_y {p : Pt} (h : up p) : 0 ≤ p.2 := by unfold up at h; omega
theorem up_ne {p : Pt} (h : up p) : p ≠ (0, 0) := by rintro rfl; unfold up at h; simp at h
theorem crs_pos_y {x y : Pt} (hx : up x) (hy : up y) (h : 0 < crs x y) : 0 < y.2 := by
  have h1 := up_y hx
  have h2 := up_y hy
  rcases Int.lt_or_eq_of_le h2 with h3 | h3
  · exact h3
  · exfalso
    have h4 : 0 < y.1 := by unfold up at hy; omega
    unfold crs at h
    rw [← h3, Int.mul_zero] at h
    have := Int.mul_nonneg h1 (Int.le_of_lt h4)
    omega
theorem pos_of {a b : Int} (h : 0 < a * b) (ha : 0 < a) : 0 < b := Int.lt_of_mul_lt_mul_left (a := a) (b := 0) (c := b) (by simpa using h) (Int.le_of_lt ha)
theorem nonneg_of {a b : Int} (h : 0 ≤ a * b) (ha : 0 < a) : 0 ≤ b := Int.le_of_mul_le_mul_left (a := a) (b := 0) (c := b) (by simpa using h) ha
theorem crs_trans {x y z : Pt} (hx : up x) (hy : up y) (hz : up z) (h1 : 0 < crs x y) (h2 : 0 < crs y z) : 0 < crs x z := by
  have y0 := crs_pos_y hx hy h1
  have z0 := crs_pos_y hy hz h2
  have e := crs_id x y z
  have a := Int.mul_pos z0 h1
  have b := Int.mul_nonneg (up_y hx) (Int.le_of_lt h2)
  exact pos_of (by omega) y0
theorem crs_ntrans {x y z : Pt} (hx : up x) (hy : up y) (hz : up z) (h1 : 0 ≤ crs x y) (h2 : 0 ≤ crs y z) : 0 ≤ crs x z := by
  have e := crs_id x y z
  have a := Int.mul_nonneg (up_y hz) h1
  have b := Int.mul_nonneg (up_y hx) h2
  rcases Int.lt_or_eq_of_le (up_y hy) with h | h
  · exact nonneg_of (by omega) h
  · have y1 : 0 < y.1 := by unfold up at hy; omega
    have hx2 : x.2 = 0 := by
      unfold crs at h1
      rw [← h, Int.mul_zero] at h1
      rcases Int.lt_or_eq_of_le (up_y hx) with k | k
      · have := Int.mul_pos k y1; omega
      · exact k.symm
    have hx1 : 0 < x.1 := by unfold up at hx; omega
    unfold crs
    rw [hx2, Int.zero_mul, Int.sub_zero]
    exact Int.mul_nonneg (Int.le_of_lt hx1) (up_y hz)
theorem par_trans {x y z : Pt} (hx : up x) (hy : up y) (hz : up z) (h1 : crs x y = 0) (h2 : crs y z = 0) : crs x z = 0 := by
  have a := crs_ntrans hx hy hz (by omega) (by omega)
  have b := crs_ntrans hz hy hx (by rw [crs_anti]; omega) (by rw [crs_anti]; omega)
  rw [crs_anti] at b
  omega
/-- Behind a parallel one the order is the same. -/
theorem crs_par_l {x y z : Pt} (hx : up x) (hy : up y) (hz : up z) (h1 : crs x y = 0) (h2 : 0 < crs y z) : 0 < crs x z := by
  have a := crs_ntrans hx hy hz (by omega) (by omega)
  rcases Int.lt_or_eq_of_le a with h | h
  · exact h
  · have := par_trans hy hx hz (by rw [crs_anti]; omega) h.symm
    omega
theorem crs_par_r {x y z : Pt} (hx : up x) (hy : up y) (hz : up z) (h1 : 0 < crs x y) (h2 : crs y z = 0) : 0 < crs x z := by
  have a := crs_ntrans hx hy hz (by omega) (by omega)
  rcases Int.lt_or_eq_of_le a with h | h
  · exact h
  · have := par_trans hx hz hy h.symm (by rw [crs_anti]; omega)
    omega
def padd (a b : Pt) : Pt := (a.1 + b.1, a.2 + b.2)
theorem padd_comm (a b : Pt) : padd a b = padd b a := by unfold padd; rw [Int.add_comm, Int.add_comm a.2]
theorem padd_assoc (a b c : Pt) : padd (padd a b) c = padd a (padd b c) := by simp [padd, Int.add_assoc]
theorem padd_zero (a : Pt) : padd a (0, 0) = a := by simp [padd]
theorem zero_padd (a : Pt) : padd (0, 0) a = a := by simp [padd]
theorem crs_add_l (a b c : Pt) : crs (padd a b) c = crs a c + crs b c := by unfold crs padd; grind
theorem crs_add_r (a b c : Pt) : crs a (padd b c) = crs a b + crs a c := by unfold crs padd; grind
theorem up_add {a b : Pt} (h1 : up a) (h2 : up b) : up (padd a b) := by unfold up padd at *; simp only; omega
def nrm (g : Pt) : Pt := if g.2 < 0 ∨ (g.2 = 0 ∧ g.1 < 0) then (-g.1, -g.2) else g
theorem nrm_up {g : Pt} (h : nrm g ≠ (0, 0)) : up (nrm g) := by
  unfold nrm at *
  split
  · unfold up; simp only; omega
  · rename_i hc
    rw [if_neg hc] at h
    have : g.1 ≠ 0 ∨ g.2 ≠ 0 := by
      rcases Decidable.em (g.1 = 0) with e | e
      · right; intro e2; exact h (Prod.ext e e2)
      · exact .inl e
    unfold up; omega
/-- The sum of those that are parallel to g. -/
def dsum : List Pt → Pt → Pt
  | [], _ => (0, 0)
  | h :: l, g => if crs h g = 0 then padd h (dsum l g) else dsum l g
theorem dsum_append (g : Pt) : ∀ l m : List Pt, dsum (l ++ m) g = padd (dsum l g) (dsum m g)
  | [], m => by rw [List.nil_append]; exact (zero_padd _).symm
  | h :: l, m => by
    simp only [List.cons_append, dsum, dsum_append g l m]
    split
    · rw [padd_assoc]
    · rfl
theorem dsum_perm {l m : List Pt} (g : Pt) (h : l.Perm m) : dsum l g = dsum m g := by
  induction h with
  | nil => rfl
  | cons x _ ih => simp only [dsum, ih]
  | swap x y l =>
    simp only [dsum]
    split <;> split <;> try rfl
    rw [← padd_assoc, ← padd_assoc, padd_comm y x]
  | trans _ _ ih1 ih2 => rw [ih1, ih2]
theorem dsum_none {l : List Pt} {g : Pt} (h : ∀ e ∈ l, crs e g ≠ 0) : dsum l g = (0, 0) := by
  induction l with
  | nil => rfl
  | cons x l ih =>
    simp only [dsum]
    rw [if_neg (h x (by simp)), ih fun e he => h e (by simp [he])]
/-- C is the canonical form of the directions in S. -/
structure Can (C S : List Pt) : Prop where
  sorted : C.Pairwise fun a b => 0 < crs a b
  ups : ∀ e ∈ C, up e
  sums : ∀ g, up g → dsum C g = dsum S g
theorem Can.perm {C S S' : List Pt} (h : Can C S) (hp : S.Perm S') : Can C S' := ⟨h.sorted, h.ups, fun g hg => by rw [h.sums g hg, dsum_perm g hp]⟩
theorem Can.own {C S : List Pt} (h : Can C S) {e : Pt} (he : e ∈ C) : dsum C e = e := by
  obtain ⟨A, B, rfl⟩ := List.append_of_mem he
  have hs := h.sorted
  rw [List.pairwise_append] at hs
  obtain ⟨h1, h2, h3⟩ := hs
  rw [List.pairwise_cons] at h2
  rw [dsum_append]
  simp only [dsum, crs_self, if_true]
  rw [dsum_none (l := A) fun a ha => by have := h3 a ha e (by simp); omega, dsum_none (l := B) fun b hb => by have := h2.1 b hb; rw [crs_anti]; omega, padd_zero, zero_padd]
theorem Can.par {C S : List Pt} (h : Can C S) {g : Pt} (hg : up g) (hne : dsum C g ≠ (0, 0)) : dsum C g ∈ C := by
  have hex : ∃ e ∈ C, crs e g = 0 := by
    apply Classical.byContradiction
    intro hno
    exact hne (dsum_none fun e he h0 => hno ⟨e, he, h0⟩)
  obtain ⟨e, he, h0⟩ := hex
  have hu := h.ups e he
  have heq : dsum C g = dsum C e := by
    have : ∀ l : List Pt, (∀ x ∈ l, up x) → dsum l g = dsum l e := by
      intro l
      induction l with
      | nil => exact fun _ => rfl
      | cons x l ih =>
        intro hl
        have hx := hl x (by simp)
        simp only [dsum, ih fun y hy => hl y (by simp [hy])]
        by_cases hc : crs x g = 0
        · rw [if_pos hc, if_pos (par_trans hx hg hu hc (by rw [crs_anti]; omega))]
        · rw [if_neg hc, if_neg fun h1 => hc (par_trans hx hu hg h1 h0)]
    exact this C h.ups
  rw [heq, h.own he]; exact he
theorem eq_of_sorted {r : Pt → Pt → Prop} (has : ∀ a b, r a b → ¬ r b a) : ∀ (l m : List Pt), l.Pairwise r → m.Pairwise r → (∀ x, x ∈ l ↔ x ∈ m) → l = m
  | [], [], _, _, _ => rfl
  | [], b :: m, _, _, h => absurd ((h b).2 (by simp)) (by simp)
  | a :: l, [], _, _, h => absurd ((h a).1 (by simp)) (by simp)
  | a :: l, b :: m, h1, h2, h => by
    rw [List.pairwise_cons] at h1 h2
    have hirr : ∀ x, ¬ r x x := fun x hx => has x x hx hx
    have hab : a = b := by
      rcases List.mem_cons.1 ((h a).1 (by simp)) with e | hm
      · exact e
      · rcases List.mem_cons.1 ((h b).2 (by simp)) with e | hl
        · exact e.symm
        · exact absurd (h1.1 b hl) (has _ _ (h2.1 a hm))
    subst hab
    have : l = m := eq_of_sorted has l m h1.2 h2.2 fun x => by
      constructor
      · intro hx
        rcases List.mem_cons.1 ((h x).1 (by simp [hx])) with e | hm
        · subst e; exact absurd (h1.1 x hx) (hirr x)
        · exact hm
      · intro hx
        rcases List.mem_cons.1 ((h x).2 (by simp [hx])) with e | hm
        · subst e; exact absurd (h2.1 x hx) (hirr x)
        · exact hm
    rw [this]
/-- The canonical form is one only. -/
theorem Can.eq {C C' S : List Pt} (h : Can C S) (h' : Can C' S) : C = C' := by
  refine eq_of_sorted (r := fun a b => 0 < crs a b) (fun a b h => by rw [crs_anti]; omega) C C' h.sorted h'.sorted fun x => ?_
  have key : ∀ {C C' : List Pt}, Can C S → Can C' S → ∀ x, x ∈ C → x ∈ C' := fun {C C'} h h' x hx => by
    have e : dsum C' x = x := by rw [h'.sums x (h.ups x hx), ← h.sums x (h.ups x hx), h.own hx]
    have := h'.par (h.ups x hx) (by rw [e]; exact up_ne (h.ups x hx))
    rwa [e] at this
  exact ⟨key h h' x, key h' h x⟩
open Go.RowKit
/-- The cells of a row that have a property, from the left. -/
def rowR (p : Int → Int → Bool) (x0 y : Int) : Nat → List Pt
  | 0 => []
  | n + 1 => rowR p x0 y n ++ (if p (x0 + n) y = true then [(x0 + n, y)] else [])
/-- The cells of some rows. -/
def gridR (p : Int → Int → Bool) (x0 : Int) (w : Nat) (y0 : Int) : Nat → List Pt
  | 0 => []
  | n + 1 => gridR p x0 w y0 n ++ rowR p x0 (y0 + n) w
theorem rowR_mem {p : Int → Int → Bool} {x0 y : Int} : ∀ {n : Nat} {c : Pt}, c ∈ rowR p x0 y n ↔ (x0 ≤ c.1 ∧ c.1 < x0 + n) ∧ c.2 = y ∧ p c.1 c.2 = true
  | 0, c => by simp only [rowR, List.not_mem_nil, false_iff]; omega
  | n + 1, c => by
    rw [rowR, List.mem_append, rowR_mem]
    constructor
    · rintro (h | h)
      · exact ⟨by omega, h.2⟩
      · split at h
        · rename_i hp
          simp only [List.mem_singleton] at h
          subst h
          exact ⟨by simp only; omega, rfl, hp⟩
        · cases h
    · rintro ⟨h1, h2, h3⟩
      rcases (by omega : c.1 < x0 + n ∨ x0 + n ≤ c.1) with h | h
      · exact .inl ⟨by omega, h2, h3⟩
      · right
        have e : c = (x0 + n, y) := Prod.ext (by simp only; omega) h2
        rw [e] at h3
        rw [if_pos h3, e]; simp
theorem gridR_mem {p : Int → Int → Bool} {x0 y0 : Int} {w : Nat} : ∀ {n : Nat} {c : Pt}, c ∈ gridR p x0 w y0 n ↔ (x0 ≤ c.1 ∧ c.1 < x0 + w) ∧ (y0 ≤ c.2 ∧ c.2 < y0 + n) ∧ p c.1 c.2 = true
  | 0, c => by simp only [gridR, List.not_mem_nil, false_iff]; omega
  | n + 1, c => by
    rw [gridR, List.mem_append, gridR_mem, rowR_mem]
    constructor
    · rintro (h | h)
      · exact ⟨h.1, by omega, h.2.2⟩
      · exact ⟨h.1, by omega, h.2.2⟩
    · rintro ⟨h1, h2, h3⟩
      rcases (by omega : c.2 < y0 + n ∨ y0 + n ≤ c.2) with h | h
      · exact .inl ⟨h1, by omega, h3⟩
      · exact .inr ⟨h1, by omega, h3⟩
theorem rowR_len {p : Int → Int → Bool} {x0 y : Int} : ∀ n : Nat, (rowR p x0 y n).length ≤ n
  | 0 => Nat.le_refl _
  | n + 1 => by
    have := rowR_len (p := p) (x0 := x0) (y := y) n
    rw [rowR, List.length_append]
    split
    · rw [List.length_singleton]; omega
    · rw [List.length_nil]; omega
theorem gridR_len {p : Int → Int → Bool} {x0 y0 : Int} {w : Nat} : ∀ n : Nat, (gridR p x0 w y0 n).length ≤ n * w
  | 0 => by simp [gridR]
  | n + 1 => by
    have := gridR_len (p := p) (x0 := x0) (y0 := y0) (w := w) n
    have := rowR_len (p := p) (x0 := x0) (y := y0 + n) w
    rw [gridR, List.length_append, Nat.succ_mul]; omega
theorem rowR_all {x0 y : Int} : ∀ n : Nat, (rowR (fun _ _ => true) x0 y n).length = n
  | 0 => rfl
  | n + 1 => by rw [rowR, List.length_append, rowR_all n]; simp
theorem gridR_all {x0 y0 : Int} {w : Nat} : ∀ n : Nat, (gridR (fun _ _ => true) x0 w y0 n).length = n * w
  | 0 => by simp [gridR]
  | n + 1 => by rw [gridR, List.length_append, gridR_all n, rowR_all, Nat.succ_mul]
end Go.Proofs.YtoimakfecmhjkaaGreat
namespace Go.Proofs
open Go.Shelf
def Tryz.lays128_ren : Go.Shelf.Ren := ⟨fun | 128 => 189 | n => n, fun | 51 => 189 | 3 => 3 | 4 => 4 | 46 => 178 | 5 => 5 | 9 => 9 | n => n, fun | n => n⟩
theorem Tryz.lays128 : Go.Proofs.Lays.n128 Tryz.prog Tryz.lays128_ren := {
  mixed := by kernel_rfl
  f128 := Tryz.func189.trans (congrArg some (by kernel_rfl))
  t3 := Tryz.underlying3
  a3 := Tryz.isAgg3
  z3 := Tryz.sizeOf3
  v3 := Tryz.zeroValue3
  t4 := Tryz.underlying4
  a4 := Tryz.isAgg4
  z4 := Tryz.sizeOf4
  v4 := Tryz.zeroValue4
  t5 := Tryz.underlying5
  a5 := Tryz.isAgg5
  z5 := Tryz.sizeOf5
  v5 := Tryz.zeroValue5
  t9 := Tryz.underlying9
  a9 := Tryz.isAgg9
  z9 := Tryz.sizeOf9
  v9 := Tryz.zeroValue9
  t46 := Tryz.underlying178
  a46 := Tryz.isAgg178
  z46 := Tryz.sizeOf178
  v46 := Tryz.zeroValue178
  t51 := Tryz.underlying189
  a51 := Tryz.isAgg189
  z51 := Tryz.sizeOf189
  v51 := Tryz.zeroValue189 }
theorem Tryz.bits_Len32 (x : Int) (w : World) (h0 : 0 ≤ x) (h1 : x ≤ 4294967295) :
    Calls Tryz.prog 189 #[.int .u32 x] w fun e w' => e = .returned (.int .i64 (Lib.bitLen x.toNat)) ∧ w' = w := Any.bits_Len32 Tryz.lays128 x w h0 h1
def Tryz.lays125_ren : Go.Shelf.Ren := ⟨fun | 125 => 176 | 128 => 189 | 129 => 190 | n => n, fun | 46 => 178 | 3 => 3 | 51 => 189 | 53 => 191 | 4 => 4 | 5 => 5 | 9 => 9 | n => n, fun | n => n⟩
theorem Tryz.lays125 : Go.Proofs.Lays.n125 Tryz.prog Tryz.lays125_ren := {
  mixed := by kernel_rfl
  f125 := Tryz.func176.trans (congrArg some (by kernel_rfl))
  f128 := Tryz.func189.trans (congrArg some (by kernel_rfl))
  f129 := Tryz.func190.trans (congrArg some (by kernel_rfl))
  t3 := Tryz.underlying3
  a3 := Tryz.isAgg3
  z3 := Tryz.sizeOf3
  v3 := Tryz.zeroValue3
  t4 := Tryz.underlying4
  a4 := Tryz.isAgg4
  z4 := Tryz.sizeOf4
  v4 := Tryz.zeroValue4
  t5 := Tryz.underlying5
  a5 := Tryz.isAgg5
  z5 := Tryz.sizeOf5
  v5 := Tryz.zeroValue5
  t9 := Tryz.underlying9
  a9 := Tryz.isAgg9
  z9 := Tryz.sizeOf9
  v9 := Tryz.zeroValue9
  t46 := Tryz.underlying178
  a46 := Tryz.isAgg178
  z46 := Tryz.sizeOf178
  v46 := Tryz.zeroValue178
  t51 := Tryz.underlying189
  a51 := Tryz.isAgg189
  z51 := Tryz.sizeOf189
  v51 := Tryz.zeroValue189
  t53 := Tryz.underlying191
  a53 := Tryz.isAgg191
  z53 := Tryz.sizeOf191
  v53 := Tryz.zeroValue191 }
theorem Tryz.bits_Len (x : Int) (w : World) (h0 : 0 ≤ x) (h1 : x ≤ 18446744073709551615) :
    Calls Tryz.prog 176 #[.int .u64 x] w fun e w' => e = .returned (.int .i64 (Lib.bitLen x.toNat)) ∧ w' = w := Any.bits_Len Tryz.lays125 x w h0 h1
def Tryz.lays129_ren : Go.Shelf.Ren := ⟨fun | 129 => 190 | n => n, fun | 53 => 191 | 3 => 3 | 4 => 4 | 46 => 178 | 5 => 5 | 9 => 9 | n => n, fun | n => n⟩
theorem Tryz.lays129 : Go.Proofs.Lays.n129 Tryz.prog Tryz.lays129_ren := {
  mixed := by kernel_rfl
  f129 := Tryz.func190.trans (congrArg some (by kernel_rfl))
  t3 := Tryz.underlying3
  a3 := Tryz.isAgg3
  z3 := Tryz.sizeOf3
  v3 := Tryz.zeroValue3
  t4 := Tryz.underlying4
  a4 := Tryz.isAgg4
  z4 := Tryz.sizeOf4
  v4 := Tryz.zeroValue4
  t5 := Tryz.underlying5
  a5 := Tryz.isAgg5
  z5 := Tryz.sizeOf5
  v5 := Tryz.zeroValue5
  t9 := Tryz.underlying9
  a9 := Tryz.isAgg9
  z9 := Tryz.sizeOf9
  v9 := Tryz.zeroValue9
  t46 := Tryz.underlying178
  a46 := Tryz.isAgg178
  z46 := Tryz.sizeOf178
  v46 := Tryz.zeroValue178
  t53 := Tryz.underlying191
  a53 := Tryz.isAgg191
  z53 := Tryz.sizeOf191
  v53 := Tryz.zeroValue191 }
theorem Tryz.bits_Len64 (x : Int) (w : World) (h0 : 0 ≤ x) (h1 : x ≤ 18446744073709551615) :
    Calls Tryz.prog 190 #[.int .u64 x] w fun e w' => e = .returned (.int .i64 (Lib.bitLen x.toNat)) ∧ w' = w := Any.bits_Len64 Tryz.lays129 x w h0 h1
def Tryz.sort157_ren : Go.Shelf.Ren := ⟨fun | 6 => 157 | 15 => 176 | 14 => 175 | 28 => 189 | 29 => 190 | 20 => 181 | 21 => 182 | 22 => 183 | 23 => 184 | 24 => 185 | 25 => 186 | 26 => 187 | 27 => 188 | 46 => 191 | 47 => 192 | 48 => 193 | 49 => 194 | 50 => 195 | 57 => 196 | n => n, fun | 22 => 32 | 24 => 68 | 25 => 164 | 3 => 3 | 39 => 178 | 0 => 0 | 53 => 189 | 55 => 191 | 4 => 4 | 46 => 182 | 45 => 181 | 50 => 186 | 5 => 5 | 9 => 9 | 66 => 192 | 70 => 196 | 76 => 198 | 77 => 144 | n => n, fun | n => n⟩
theorem Tryz.sort157 : Go.Proofs.SlLaysF0.n6 Tryz.prog Tryz.sort157_ren := {
  mixed := by kernel_rfl
  f6 := ⟨Tryz.f157.name, by decide, Tryz.func157.trans (congrArg some (by kernel_rfl))⟩
  f14 := ⟨Tryz.f175.name, by decide, Tryz.func175.trans (congrArg some (by kernel_rfl))⟩
  f15 := Tryz.func176.trans (congrArg some (by kernel_rfl))
  f20 := ⟨Tryz.f181.name, by decide, Tryz.func181.trans (congrArg some (by kernel_rfl))⟩
  f21 := ⟨Tryz.f182.name, by decide, Tryz.func182.trans (congrArg some (by kernel_rfl))⟩
  f22 := ⟨Tryz.f183.name, by decide, Tryz.func183.trans (congrArg some (by kernel_rfl))⟩
  f23 := ⟨Tryz.f184.name, by decide, Tryz.func184.trans (congrArg some (by kernel_rfl))⟩
  f24 := ⟨Tryz.f185.name, by decide, Tryz.func185.trans (congrArg some (by kernel_rfl))⟩
  f25 := ⟨Tryz.f186.name, by decide, Tryz.func186.trans (congrArg some (by kernel_rfl))⟩
  f26 := ⟨Tryz.f187.name, by decide, Tryz.func187.trans (congrArg some (by kernel_rfl))⟩
  f27 := ⟨Tryz.f188.name, by decide, Tryz.func188.trans (congrArg some (by kernel_rfl))⟩
  f28 := Tryz.func189.trans (congrArg some (by kernel_rfl))
  f29 := Tryz.func190.trans (congrArg some (by kernel_rfl))
  f46 := ⟨Tryz.f191.name, by decide, Tryz.func191.trans (congrArg some (by kernel_rfl))⟩
  f47 := Tryz.func192.trans (congrArg some (by kernel_rfl))
  f48 := Tryz.func193.trans (congrArg some (by kernel_rfl))
  f49 := ⟨Tryz.f194.name, by decide, Tryz.func194.trans (congrArg some (by kernel_rfl))⟩
  f50 := ⟨Tryz.f195.name, by decide, Tryz.func195.trans (congrArg some (by kernel_rfl))⟩
  f57 := ⟨Tryz.f196.name, by decide, Tryz.func196.trans (congrArg some (by kernel_rfl))⟩
  t0 := Tryz.underlying0
  a0 := Tryz.isAgg0
  z0 := Tryz.sizeOf0
  v0 := Tryz.zeroValue0
  t3 := Tryz.underlying3
  a3 := Tryz.isAgg3
  z3 := Tryz.sizeOf3
  v3 := Tryz.zeroValue3
  t4 := Tryz.underlying4
  a4 := Tryz.isAgg4
  z4 := Tryz.sizeOf4
  v4 := Tryz.zeroValue4
  t5 := Tryz.underlying5
  a5 := Tryz.isAgg5
  z5 := Tryz.sizeOf5
  v5 := Tryz.zeroValue5
  t9 := Tryz.underlying9
  a9 := Tryz.isAgg9
  z9 := Tryz.sizeOf9
  v9 := Tryz.zeroValue9
  t22 := Tryz.underlying32
  a22 := Tryz.isAgg32
  z22 := Tryz.sizeOf32
  v22 := Tryz.zeroValue32
  t25 := Tryz.underlying164
  a25 := Tryz.isAgg164
  z25 := Tryz.sizeOf164
  v25 := Tryz.zeroValue164
  t39 := Tryz.underlying178
  a39 := Tryz.isAgg178
  z39 := Tryz.sizeOf178
  v39 := Tryz.zeroValue178
  t45 := Tryz.underlying181
  a45 := Tryz.isAgg181
  z45 := Tryz.sizeOf181
  v45 := Tryz.zeroValue181
  t46 := Tryz.underlying182
  a46 := Tryz.isAgg182
  z46 := Tryz.sizeOf182
  v46 := Tryz.zeroValue182
  t50 := Tryz.underlying186
  a50 := Tryz.isAgg186
  z50 := Tryz.sizeOf186
  v50 := Tryz.zeroValue186
  t53 := Tryz.underlying189
  a53 := Tryz.isAgg189
  z53 := Tryz.sizeOf189
  v53 := Tryz.zeroValue189
  t55 := Tryz.underlying191
  a55 := Tryz.isAgg191
  z55 := Tryz.sizeOf191
  v55 := Tryz.zeroValue191
  t66 := Tryz.underlying192
  a66 := Tryz.isAgg192
  z66 := Tryz.sizeOf192
  v66 := Tryz.zeroValue192
  t70 := Tryz.underlying196
  a70 := Tryz.isAgg196
  z70 := Tryz.sizeOf196
  v70 := Tryz.zeroValue196
  t76 := Tryz.underlying198
  a76 := Tryz.isAgg198
  z76 := Tryz.sizeOf198
  v76 := Tryz.zeroValue198
  t77 := Tryz.underlying144
  a77 := Tryz.isAgg144
  z77 := Tryz.sizeOf144
  v77 := Tryz.zeroValue144 }
def Tryz.grow163_ren : Go.Shelf.Ren := ⟨fun | 4 => 163 | n => n, fun | 22 => 32 | 25 => 68 | 3 => 3 | 4 => 4 | 9 => 9 | 20 => 20 | 0 => 0 | 2 => 3 | n => n, fun | n => n⟩
theorem Tryz.grow163 : Go.Proofs.Lays8.n4 Tryz.prog Tryz.grow163_ren := {
  mixed := by kernel_rfl
  f4 := ⟨Tryz.f163.name, by decide, Tryz.func163.trans (congrArg some (by kernel_rfl))⟩
  t0 := Tryz.underlying0
  a0 := Tryz.isAgg0
  z0 := Tryz.sizeOf0
  v0 := Tryz.zeroValue0
  t3 := Tryz.underlying3
  a3 := Tryz.isAgg3
  z3 := Tryz.sizeOf3
  v3 := Tryz.zeroValue3
  t4 := Tryz.underlying4
  a4 := Tryz.isAgg4
  z4 := Tryz.sizeOf4
  v4 := Tryz.zeroValue4
  t9 := Tryz.underlying9
  a9 := Tryz.isAgg9
  z9 := Tryz.sizeOf9
  v9 := Tryz.zeroValue9
  t20 := Tryz.underlying20
  a20 := Tryz.isAgg20
  z20 := Tryz.sizeOf20
  v20 := Tryz.zeroValue20
  t22 := Tryz.underlying32
  a22 := Tryz.isAgg32
  z22 := Tryz.sizeOf32
  v22 := Tryz.zeroValue32 }
end Go.Proofs
namespace Go.Proofs.YtoimakfecmhjkaaGreat
set_option linter.unusedSimpArgs false
set_option linter.unusedVariables false
open Go.RowKit Go.Sort
theorem below_grow (w : World) (os : Array Obj) : Below w.heap.size w (Go.Sort.grow w os) := ⟨rfl, rfl, rfl, by simp [grow], fun k hk => heap_grow_old w os hk⟩
theorem splice_all {xs ys : List AV} (h : ys.length = xs.length) : splice xs 0 ys = ys := by
  have hl : 0 + ys.length ≤ xs.length := by omega
  refine List.ext_getElem? fun j => ?_
  rw [splice_get hl]
  by_cases hj : j < ys.length
  · rw [if_pos ⟨by omega, by omega⟩, Nat.sub_zero]
  · rw [if_neg (by omega), List.getElem?_eq_none (by omega), List.getElem?_eq_none (by omega)]
theorem rels_prs {E : Env} : ∀ (l : List (Int × Int)), RelL E (prs l) (enc2 l)
  | [] => .nil E
  | p :: l => .cons (.int _ _) (.cons (.int _ _) (rels_prs l))
theorem prs_onef : ∀ (l : List (Int × Int)), (prs l).all AV.one = true
  | [] => rfl
  | p :: l => by rw [prs_cons]; simp [AV.one, prs_onef l]
section
variable {E : Env} {H : AHeap} {w : World}
theorem Emb.putP (h : Emb E H w) {b q : Nat} {zs ys : List (Int × Int)} (hg : H[b]? = some (.cells true 2 (prs zs))) (hl : ys.length = zs.length) (os : Array Obj) :
    Emb E (H.set b (.cells true 2 (prs ys))) (Go.Sort.grow ((w.drewN q).setCells (E.loc b).blk ((E.loc b).off) (enc2 ys)) os) := by
  have h0 : Emb E H (w.drewN q) := h.up (below_drewN (Below.refl _ _) q)
  have hw : awrite H b 0 (prs ys) = some (H.set b (.cells true 2 (prs ys))) := by
    unfold awrite
    rw [hg]
    simp only
    rw [if_pos ⟨by simp [prs_len, hl], prs_onef ys⟩, splice_all (by simp [prs_len, hl])]
  exact ((h0.write (rels_prs ys) hw).2.2.2).up (below_grow _ os)
end
/-- Elements as their two cells. -/
def encP {α : Type} (val : α → Int × Int) (x : α) : List Value := [.int .i64 (val x).1, .int .i64 (val x).2]
theorem flat_list {α : Type} [Inhabited α] (val : α → Int × Int) (zs : List α) : flatK (encP val) 2 zs.toArray = (enc2 (zs.map val)).toArray := by
  refine ext_get! (by simp [enc2_len]) fun t ht => ?_
  have ht' : t < zs.length * 2 := by simpa using ht
  rw [get_flatK _ _ _ _ (by simpa using ht')]
  have hj : t / 2 < zs.length := by omega
  obtain ⟨e1, e2⟩ := enc2_at (zs.map val) (t / 2) (by simpa using hj)
  have hx : zs.toArray[t / 2]! = zs[t / 2] := by simp [hj]
  rw [hx]
  have hr : (enc2 (zs.map val)).toArray[t]! = ((enc2 (zs.map val))[t]?).getD default := by simp [List.getElem!_eq_getElem?_getD]
  rw [hr]
  rcases Nat.mod_two_eq_zero_or_one t with h | h
  · have : t = t / 2 * 2 := by omega
    rw [← this] at e1
    rw [h, e1]
    simp [encP]
  · have : t = t / 2 * 2 + 1 := by omega
    rw [← this] at e2
    rw [h, e2]
    simp [encP]
set_option maxRecDepth 100000 in
theorem sortf_a {α : Type} [Inhabited α] (val : α → Int × Int) (cf : α → α → Int) (hO : SWO (ltOf cf)) (g : FuncId) (eg : ∀ args w, (callFunc g args).run Tryz.prog w = .ok (.enter g args) w)
    (hcmp : ∀ (x y : α) (W : World), Calls Tryz.prog g #[.agg #[.int .i64 (val x).1, .int .i64 (val x).2], .agg #[.int .i64 (val y).1, .int .i64 (val y).2]] W fun e w' => e = .returned (.int .i64 (cf x y)) ∧ ∃ q os', w' = grow (W.drewN q) os')
    {H : AHeap} {b n : Nat} {cap : Option Nat} {zs : List α} (hg : H[b]? = some (.cells true 2 (prs (zs.map val)))) (hn : n = zs.length) (h0 : 0 < n) (h1 : n ≤ 1000000) :
    ACalls Tryz.prog 157 [.sl (some (b, 0)) n cap, .fn g []] H
      (fun v H' => v = .tup [] ∧ ∃ ys : List α, ys.Perm zs ∧ ys.Pairwise (fun x y => ltOf cf y x = false) ∧ H' = H.set b (.cells true 2 (prs (ys.map val)))) := fun E w vs hE hv => by
  obtain ⟨v1, l1, rfl, k1, h1'⟩ := rels_cons hv
  obtain ⟨v2, l2, rfl, k2, h2'⟩ := rels_cons h1'
  obtain rfl := rels_nil h2'
  have hf : v2 = .func (.func g) #[] #[] := by
    cases k2 with
    | fn _ _ cs hl _ =>
      have : cs = #[] := by
        have : cs.size = 0 := hl.symm
        exact Array.eq_empty_of_size_eq_zero this
      rw [this]
  subst hf
  cases k1 with
  | nils _ _ _ _ => exact absurd h0 (Nat.lt_irrefl 0)
  | sl _ _ _ _ c a hb h2 h3 h4 h5 h6 =>
  have hc : c ≠ 0 := by omega
  obtain rfl := h5.resolve_left hc
  obtain ⟨m1, m2, -, -⟩ := hE.blk b _ hg
  obtain ⟨o1, o2, o3, o4, o5⟩ := m2 rfl
  have hpl : (prs (zs.map val)).length = zs.length * 2 := by rw [prs_len]; simp
  have hH : HoldsK (encP val) 2 w (E.loc b).blk (E.loc b).off zs.toArray := by
    show Holds id w _ _ (flatK (encP val) 2 zs.toArray)
    rw [flat_list]
    intro j hj
    have hj' : j < zs.length * 2 := by simpa [enc2_len] using hj
    refine ⟨?_, (o5 j (by omega)).2⟩
    have hx : (prs (zs.map val))[j]? = some (prs (zs.map val))[j] := List.getElem?_eq_getElem (by omega)
    obtain ⟨-, v, hv, hr⟩ := m1 j _ hx
    rw [hv]
    obtain ⟨u, hu, hru⟩ := (rels_prs (E := E) (zs.map val)).get hx
    have : ∀ (k : Nat) (l : List (Int × Int)) (y : AV) (v u : Value), (prs l)[k]? = some y → Rel E y v → (enc2 l)[k]? = some u → v = u := by
      intro k l
      induction l generalizing k with
      | nil => intro y v u h; simp [prs] at h
      | cons p l ih =>
        intro y v u h1 h2 h3
        match k with
        | 0 => simp [prs_cons, enc2] at h1 h3; subst h1 h3; exact rel_int h2
        | 1 => simp [prs_cons, enc2] at h1 h3; subst h1 h3; exact rel_int h2
        | k + 2 =>
          refine ih k y v u (by simpa [prs_cons] using h1) h2 ?_
          simpa [enc2] using h3
    have e := this j _ _ v u hx hr hu
    subst e
    simp [List.getElem!_eq_getElem?_getD, hu]
  have hcon := AnyQ.slices_SortFunc Tryz.sort157 2 Tryz.isAgg68 Tryz.sizeOf68 (encP val) (fun _ => rfl) (fun x v hv => by simp [encP] at hv; rcases hv with rfl | rfl <;> rfl) cf hO g #[] (E.loc b).blk (E.loc b).off c zs.toArray w eg
    (fun _ _ _ _ x y => by simpa [encP] using hcmp x y _) hH o2 (by simp; omega)
  change Calls Tryz.prog 157 _ _ _ at hcon
  have hsz : zs.toArray.size = n := by simp [hn]
  rw [hsz] at hcon
  refine hcon.mono fun e w' ⟨he, d', q, os, hp, hs, hw⟩ => ?_
  subst hw
  obtain ⟨p1, -, p3⟩ := hp
  have hperm : d'.toList.Perm zs := by
    have a1 : d'.extract 0 n = d' := by rw [← hsz, ← p1]; simp
    have a2 : zs.toArray.extract 0 n = zs.toArray := by rw [← hsz]; simp
    rw [a1, a2] at p3
    simpa using p3
  have hl : (d'.toList.map val).length = (zs.map val).length := by simp [hperm.length_eq]
  refine ⟨E, _, _, .tup [], he, ⟨rfl, d'.toList, hperm, ?_, rfl⟩, .refl E, .tup [] #[] rfl (fun i x v h => by simp at h), ?_⟩
  · rw [List.pairwise_iff_getElem]
    intro i j hi hj hij
    have := hs i j (Nat.zero_le _) hij (by have := hperm.length_eq; simp at hj this; omega)
    simp at hi hj
    simpa [hi, hj] using this
  · have hd : d' = d'.toList.toArray := by simp
    have e1 : sortWorldK (encP val) 2 w (E.loc b).blk (E.loc b).off q d' os = grow ((w.drewN q).setCells (E.loc b).blk (E.loc b).off (enc2 (d'.toList.map val))) os := by
      unfold sortWorldK
      congr 1
      show putRow id (Sort.ahead w q) _ _ (flatK (encP val) 2 d') = _
      rw [hd, flat_list]
      have := Lib.putRow_eq_setCells id w (E.loc b).blk (E.loc b).off (flatK (encP val) 2 zs.toArray) (enc2 (d'.toList.map val)) q hH (by rw [enc2_len, hl]; simp)
      simpa using this
    rw [e1]
    exact hE.putP hg hl os
set_option linter.unusedSimpArgs false
set_option linter.unusedVariables false
open Go.RowKit
/-- One element of the old form, with the generator g on its way (done: it has been put). -/
def pst (g : Pt) (s : List Pt × Bool) (e : Pt) : List Pt × Bool :=
  if crs g e = 0 then (s.1 ++ [padd e g], true) else if 0 < crs g e ∧ s.2 = false then (s.1 ++ [g, e], true) else (s.1 ++ [e], s.2)
def putC (C : List Pt) (g : Pt) : List Pt := let s := C.foldl (pst g) ([], false); if s.2 = true then s.1 else s.1 ++ [g]
/-- One more generator. -/
def putL (C : List Pt) (g : Pt) : List Pt := if nrm g = (0, 0) then C else putC C (nrm g)
def canonL (l : List Pt) : List Pt := l.foldl putL []
/-- The directions of generators. -/
def dirs (l : List Pt) : List Pt := (l.map nrm).filter fun g => decide (g ≠ (0, 0))
theorem dirs_up {l : List Pt} : ∀ e ∈ dirs l, up e := fun e he => by
  unfold dirs at he
  simp only [List.mem_filter, List.mem_map, decide_eq_true_eq] at he
  obtain ⟨⟨g, -, rfl⟩, h⟩ := he
  exact nrm_up h
theorem pst_before {g : Pt} : ∀ (A : List Pt) (o : List Pt) (d : Bool), (∀ a ∈ A, crs g a < 0) → A.foldl (pst g) (o, d) = (o ++ A, d)
  | [], o, d, _ => by simp
  | a :: A, o, d, h => by
    have ha := h a (by simp)
    rw [List.foldl_cons]
    have : pst g (o, d) a = (o ++ [a], d) := by
      unfold pst
      rw [if_neg (by omega), if_neg (by simp only; omega)]
    rw [this, pst_before A _ d fun b hb => h b (by simp [hb])]
    simp
theorem pst_behind {g : Pt} : ∀ (A : List Pt) (o : List Pt), (∀ a ∈ A, 0 < crs g a) → A.foldl (pst g) (o, true) = (o ++ A, true)
  | [], o, _ => by simp
  | a :: A, o, h => by
    have ha := h a (by simp)
    rw [List.foldl_cons]
    have : pst g (o, true) a = (o ++ [a], true) := by
      unfold pst
      rw [if_neg (by omega), if_neg (by simp)]
    rw [this, pst_behind A _ fun b hb => h b (by simp [hb])]
    simp
/-- Where g stands in a sorted row. -/
theorem split_at {g : Pt} (hg : up g) : ∀ (C : List Pt), C.Pairwise (fun a b => 0 < crs a b) → (∀ e ∈ C, up e) →
    (∃ A B, C = A ++ B ∧ (∀ a ∈ A, crs g a < 0) ∧ ∀ b ∈ B, 0 < crs g b) ∨ ∃ A e B, C = A ++ e :: B ∧ (∀ a ∈ A, crs g a < 0) ∧ crs g e = 0 ∧ ∀ b ∈ B, 0 < crs g b
  | [], _, _ => .inl ⟨[], [], rfl, by simp, by simp⟩
  | c :: C, hs, hu => by
    rw [List.pairwise_cons] at hs
    have hc := hu c (by simp)
    rcases Int.lt_trichotomy (crs g c) 0 with h | h | h
    · rcases split_at hg C hs.2 (fun e he => hu e (by simp [he])) with ⟨A, B, rfl, h1, h2⟩ | ⟨A, e, B, rfl, h1, h2, h3⟩
      · exact .inl ⟨c :: A, B, rfl, fun a ha => by
          rcases List.mem_cons.1 ha with rfl | ha
          · exact h
          · exact h1 a ha, h2⟩
      · exact .inr ⟨c :: A, e, B, rfl, fun a ha => by
          rcases List.mem_cons.1 ha with rfl | ha
          · exact h
          · exact h1 a ha, h2, h3⟩
    · exact .inr ⟨[], c, C, rfl, by simp, h, fun b hb => crs_par_l hg hc (hu b (by simp [hb])) h (hs.1 b hb)⟩
    · exact .inl ⟨[], c :: C, rfl, by simp, fun b hb => by
        rcases List.mem_cons.1 hb with rfl | hb
        · exact h
        · exact crs_trans hg hc (hu b (by simp [hb])) h (hs.1 b hb)⟩
theorem putC_none {A B : List Pt} {g : Pt} (h1 : ∀ a ∈ A, crs g a < 0) (h2 : ∀ b ∈ B, 0 < crs g b) : putC (A ++ B) g = A ++ g :: B := by
  unfold putC
  simp only [List.foldl_append, pst_before A [] false h1, List.nil_append]
  cases B with
  | nil => simp
  | cons b B =>
    have hb := h2 b (by simp)
    rw [List.foldl_cons]
    have : pst g (A, false) b = (A ++ [g, b], true) := by
      unfold pst
      rw [if_neg (by omega), if_pos ⟨hb, rfl⟩]
    rw [this, pst_behind B _ fun c hc => h2 c (by simp [hc])]
    simp
theorem putC_some {A B : List Pt} {g e : Pt} (h1 : ∀ a ∈ A, crs g a < 0) (h0 : crs g e = 0) (h2 : ∀ b ∈ B, 0 < crs g b) : putC (A ++ e :: B) g = A ++ padd e g :: B := by
  unfold putC
  simp only [List.foldl_append, pst_before A [] false h1, List.nil_append, List.foldl_cons]
  have : pst g (A, false) e = (A ++ [padd e g], true) := by
    unfold pst
    rw [if_pos h0]
  rw [this, pst_behind B _ h2]
  simp
theorem putC_can {C S : List Pt} (h : Can C S) {g : Pt} (hg : up g) : Can (putC C g) (S ++ [g]) := by
  have hsum : ∀ (k : Pt), dsum (S ++ [g]) k = if crs g k = 0 then padd (dsum S k) g else dsum S k := fun k => by
    rw [dsum_append]
    simp only [dsum]
    split
    · rw [padd_zero]
    · rw [padd_zero]
  rcases split_at hg C h.sorted h.ups with ⟨A, B, rfl, h1, h2⟩ | ⟨A, e, B, rfl, h1, h0, h2⟩
  · rw [putC_none h1 h2]
    have hs := h.sorted
    rw [List.pairwise_append] at hs
    refine ⟨?_, fun x hx => ?_, fun k hk => ?_⟩
    · rw [List.pairwise_append, List.pairwise_cons]
      exact ⟨hs.1, ⟨h2, hs.2.1⟩, fun a ha b hb => by
        rcases List.mem_cons.1 hb with rfl | hb
        · rw [crs_anti]; have := h1 a ha; omega
        · exact hs.2.2 a ha b hb⟩
    · rcases List.mem_append.1 hx with hx | hx
      · exact h.ups x (by simp [hx])
      · rcases List.mem_cons.1 hx with rfl | hx
        · exact hg
        · exact h.ups x (by simp [hx])
    · rw [hsum, ← h.sums k hk, dsum_append, dsum_append]
      simp only [dsum]
      split
      · rw [padd_assoc, padd_comm g]
      · rfl
  · rw [putC_some h1 h0 h2]
    have hs := h.sorted
    rw [List.pairwise_append, List.pairwise_cons] at hs
    have he := h.ups e (by simp)
    have heg : ∀ k, crs (padd e g) k = crs e k + crs g k := fun k => crs_add_l e g k
    refine ⟨?_, fun x hx => ?_, fun k hk => ?_⟩
    · rw [List.pairwise_append, List.pairwise_cons]
      refine ⟨hs.1, ⟨fun b hb => ?_, hs.2.1.2⟩, fun a ha b hb => ?_⟩
      · rw [heg]; have := hs.2.1.1 b hb; have := h2 b hb; omega
      · rcases List.mem_cons.1 hb with rfl | hb
        · rw [crs_add_r]; have := hs.2.2 a ha e (by simp); have := h1 a ha; have := crs_anti g a; omega
        · exact hs.2.2 a ha b (by simp [hb])
    · rcases List.mem_append.1 hx with hx | hx
      · exact h.ups x (by simp [hx])
      · rcases List.mem_cons.1 hx with rfl | hx
        · exact up_add he hg
        · exact h.ups x (by simp [hx])
    · rw [hsum, ← h.sums k hk, dsum_append, dsum_append]
      simp only [dsum]
      have e1 : crs e k = 0 ↔ crs g k = 0 := ⟨fun h3 => par_trans hg he hk h0 h3, fun h3 => par_trans he hg hk (by rw [crs_anti]; omega) h3⟩
      by_cases hc : crs g k = 0
      · rw [if_pos (by rw [heg]; have := e1.2 hc; omega), if_pos (e1.2 hc), if_pos hc]
        simp only [padd, Prod.mk.injEq]; omega
      · have hc' : crs e k ≠ 0 := fun h3 => hc (e1.1 h3)
        have hne : crs (padd e g) k ≠ 0 := by
          intro h3
          -- e + g is parallel to e
          have h4 : crs e (padd e g) = 0 := by rw [crs_add_r, crs_self, crs_anti]; omega
          exact hc' (par_trans he (up_add he hg) hk h4 h3)
        rw [if_neg hne, if_neg hc', if_neg hc]
theorem Can.nil : Can [] [] := ⟨.nil, by simp, fun _ _ => rfl⟩
theorem canonL_can (l : List Pt) : Can (canonL l) (dirs l) := by
  have gen : ∀ (l : List Pt) (C S : List Pt), Can C S → Can (l.foldl putL C) (S ++ dirs l) := by
    intro l
    induction l with
    | nil => intro C S h; simpa [dirs] using h
    | cons g l ih =>
      intro C S h
      rw [List.foldl_cons]
      by_cases h0 : nrm g = (0, 0)
      · have e1 : putL C g = C := by unfold putL; rw [if_pos h0]
        have e2 : dirs (g :: l) = dirs l := by simp [dirs, h0]
        rw [e1, e2]; exact ih C S h
      · have e1 : putL C g = putC C (nrm g) := by unfold putL; rw [if_neg h0]
        have e2 : dirs (g :: l) = nrm g :: dirs l := by simp [dirs, h0]
        rw [e1, e2]
        have := ih (putC C (nrm g)) (S ++ [nrm g]) (putC_can h (nrm_up h0))
        simpa using this
  have := gen l [] [] .nil
  simpa [canonL] using this
/-- Merging a sorted row. -/
def mst (out : List Pt) (g : Pt) : List Pt :=
  match out.getLast? with
  | some k => if crs k g = 0 then out.dropLast ++ [padd k g] else out ++ [g]
  | none => out ++ [g]
def mergeL (S : List Pt) : List Pt := S.foldl mst []
theorem mst_nil (g : Pt) : mst [] g = [g] := rfl
theorem mst_snoc (o : List Pt) (k g : Pt) : mst (o ++ [k]) g = if crs k g = 0 then o ++ [padd k g] else o ++ [k] ++ [g] := by
  unfold mst
  rw [List.getLast?_append]
  simp
theorem merge_can (S : List Pt) (hs : S.Pairwise fun a b => 0 ≤ crs a b) (hu : ∀ e ∈ S, up e) : Can (mergeL S) S := by
  have gen : ∀ (T P out : List Pt), Can out P → (P = [] ↔ out = []) → (∀ k, out.getLast? = some k → ∀ t ∈ T, 0 ≤ crs k t) → T.Pairwise (fun a b => 0 ≤ crs a b) → (∀ e ∈ T, up e) → Can (T.foldl mst out) (P ++ T) := by
    intro T
    induction T with
    | nil => intro P out h _ _ _ _; simpa using h
    | cons g T ih =>
      intro P out h hn hl ht hu
      rw [List.pairwise_cons] at ht
      have hg := hu g (by simp)
      rw [List.foldl_cons]
      have e : P ++ g :: T = (P ++ [g]) ++ T := by simp
      rw [e]
      have hsum : ∀ (k : Pt), dsum (P ++ [g]) k = if crs g k = 0 then padd (dsum P k) g else dsum P k := fun k => by
        rw [dsum_append]
        simp only [dsum]
        split
        · rw [padd_zero]
        · rw [padd_zero]
      rcases List.eq_nil_or_concat out with rfl | ⟨o, k, rfl⟩
      · rw [mst_nil]
        have hP : P = [] := hn.2 rfl
        subst hP
        refine ih [g] [g] ⟨by simp, by simpa using hg, fun _ _ => rfl⟩ (by simp) (fun k hk t htm => ?_) ht.2 (fun x hx => hu x (by simp [hx]))
        simp at hk; subst hk
        exact ht.1 t htm
      · rw [List.concat_eq_append] at *
        have hk := h.ups k (by simp)
        have hkg := hl k (by simp) g (by simp)
        have hso := h.sorted
        rw [List.pairwise_append] at hso
        have hok : ∀ a ∈ o, 0 < crs a k := fun a ha => hso.2.2 a ha k (by simp)
        rw [mst_snoc]
        by_cases hc : crs k g = 0
        · rw [if_pos hc]
          have hkgk : crs k (padd k g) = 0 := by rw [crs_add_r, crs_self]; omega
          have hupkg := up_add hk hg
          refine ih (P ++ [g]) (o ++ [padd k g]) ⟨?_, fun x hx => ?_, fun z hz => ?_⟩ (by simp) (fun q hq t htm => ?_) ht.2 (fun x hx => hu x (by simp [hx]))
          · rw [List.pairwise_append]
            exact ⟨hso.1, by simp, fun a ha b hb => by
              simp at hb; subst hb
              exact crs_par_r (h.ups a (by simp [ha])) hk hupkg (hok a ha) hkgk⟩
          · rcases List.mem_append.1 hx with hx | hx
            · exact h.ups x (by simp [hx])
            · simp at hx; subst hx; exact hupkg
          · rw [hsum, ← h.sums z hz, dsum_append, dsum_append]
            simp only [dsum]
            have e1 : crs k z = 0 ↔ crs g z = 0 := ⟨fun h3 => par_trans hg hk hz (by rw [crs_anti]; omega) h3, fun h3 => par_trans hk hg hz hc h3⟩
            by_cases hcz : crs g z = 0
            · rw [if_pos (by rw [crs_add_l]; have := e1.2 hcz; omega), if_pos (e1.2 hcz), if_pos hcz]
              simp only [padd, Prod.mk.injEq]; omega
            · have hcz' : crs k z ≠ 0 := fun h3 => hcz (e1.1 h3)
              have hne : crs (padd k g) z ≠ 0 := fun h3 => hcz' (par_trans hk hupkg hz hkgk h3)
              rw [if_neg hne, if_neg hcz', if_neg hcz]
          · simp at hq; subst hq
            rw [crs_add_l]
            have h5 := hl k (by simp) t (by simp [htm])
            have h6 := ht.1 t htm
            omega
        · rw [if_neg hc]
          refine ih (P ++ [g]) (o ++ [k] ++ [g]) ⟨?_, fun x hx => ?_, fun z hz => ?_⟩ (by simp) (fun q hq t htm => ?_) ht.2 (fun x hx => hu x (by simp [hx]))
          · rw [List.pairwise_append]
            exact ⟨h.sorted, by simp, fun a ha b hb => by
              simp at hb; subst hb
              rcases List.mem_append.1 ha with ha | ha
              · exact crs_trans (h.ups a (by simp [ha])) hk hg (hok a ha) (by omega)
              · simp at ha; subst ha; omega⟩
          · rcases List.mem_append.1 hx with hx | hx
            · exact h.ups x hx
            · simp at hx; subst hx; exact hg
          · rw [hsum, ← h.sums z hz, dsum_append]
            simp only [dsum]
            split
            · rw [padd_zero]
            · rw [padd_zero]
          · simp at hq; subst hq
            exact ht.1 t htm
  have := gen S [] [] .nil (by simp) (by simp) hs hu
  simpa [mergeL] using this
/-- Sorting and merging, in whatever order equals come, is putting one behind the other. -/
theorem merge_eq {l S : List Pt} (hp : S.Perm (dirs l)) (hs : S.Pairwise fun a b => 0 ≤ crs a b) : mergeL S = canonL l :=
  ((merge_can S hs fun e he => dirs_up e (hp.mem_iff.1 he)).perm hp).eq (canonL_can l)
open Go.RowKit Go.Sort
/-- cmp.Compare -/
def cmpI (x y : Int) : Int := if x < y then -1 else if y < x then 1 else 0
/-- Coordinates of at most M. -/
def Bd (M : Int) (p : Pt) : Prop := -M ≤ p.1 ∧ p.1 ≤ M ∧ -M ≤ p.2 ∧ p.2 ≤ M
theorem mul_bd {a b A B : Int} (h1 : -A ≤ a ∧ a ≤ A) (h2 : -B ≤ b ∧ b ≤ B) : -(A * B) ≤ a * b ∧ a * b ≤ A * B := by
  have e1 := Int.mul_nonneg (a := A - a) (b := B + b) (by omega) (by omega)
  have e2 := Int.mul_nonneg (a := A + a) (b := B - b) (by omega) (by omega)
  have e3 := Int.mul_nonneg (a := A - a) (b := B - b) (by omega) (by omega)
  have e4 := Int.mul_nonneg (a := A + a) (b := B + b) (by omega) (by omega)
  simp only [Int.sub_mul, Int.add_mul, Int.mul_sub, Int.mul_add] at e1 e2 e3 e4
  omega
theorem crs_bd {a b : Pt} {A B : Int} (h1 : Bd A a) (h2 : Bd B b) : (-(A * B) ≤ a.1 * b.2 ∧ a.1 * b.2 ≤ A * B) ∧ (-(A * B) ≤ a.2 * b.1 ∧ a.2 * b.1 ≤ A * B) :=
  ⟨mul_bd ⟨h1.1, h1.2.1⟩ ⟨h2.2.2.1, h2.2.2.2⟩, mul_bd ⟨h1.2.2.1, h1.2.2.2⟩ ⟨h2.1, h2.2.1⟩⟩
theorem isNaN_h (x : Int) (W : World) : Calls Tryz.prog 177 #[.int .i64 x] W fun e w' => e = .returned (.bool false) ∧ w' = W := by
  go_enter Tryz.func177, Tryz.ntmps177
  go_wp2
  go_ret
  exact ⟨by simp, rfl⟩
theorem compare_h (x y : Int) (W : World) : Calls Tryz.prog 159 #[.int .i64 x, .int .i64 y] W fun e w' => e = .returned (.int .i64 (cmpI x y)) ∧ w' = W := by
  have hcon := isNaN_h
  go_enter Tryz.func159, Tryz.ntmps159
  go_wp2_with (go_at_call 177; refine (hcon _ _).mono ?_; rintro e w' ⟨rfl, rfl⟩)
  · go_ret
    exact ⟨ret_int (by unfold cmpI; rw [if_pos (by assumption)]), rfl⟩
  · go_ret
    exact ⟨ret_int (by unfold cmpI; rw [if_neg (by omega), if_pos (by assumption)]), rfl⟩
  · go_ret
    exact ⟨ret_int (by unfold cmpI; rw [if_neg (by omega), if_neg (by omega)]), rfl⟩
set_option maxHeartbeats 1000000 in
theorem cross_h (x y : Pt) (hx : Bd 268435456 x) (hy : Bd 268435456 y) (W : World) : Calls Tryz.prog 160 #[.agg #[.int .i64 x.1, .int .i64 x.2], .agg #[.int .i64 y.1, .int .i64 y.2]] W fun e w' => e = .returned (.int .i64 (crs x y)) ∧ ∃ os', w' = grow W os' := by
  have hb := crs_bd hx hy
  go_enter Tryz.func160, Tryz.ntmps160
  go_wp2
  go_ret
  exact ⟨rfl, _, by rw [alloc_eq_grow, alloc_eq_grow, grow_grow]⟩
set_option maxHeartbeats 1000000 in
theorem canoncmp_h (x y : Pt) (hx : Bd 268435456 x) (hy : Bd 268435456 y) (W : World) : Calls Tryz.prog 158 #[.agg #[.int .i64 x.1, .int .i64 x.2], .agg #[.int .i64 y.1, .int .i64 y.2]] W fun e w' => e = .returned (.int .i64 (-(cmpI (crs x y) 0))) ∧ ∃ q os', w' = grow (W.drewN q) os' := by
  have hcon := fun W => cross_h x y hx hy W
  have hcon2 := fun W => compare_h (crs x y) 0 W
  have hbb : -1 ≤ cmpI (crs x y) 0 ∧ cmpI (crs x y) 0 ≤ 1 := by unfold cmpI; repeat' split <;> omega
  generalize cmpI (crs x y) 0 = r at *
  generalize crs x y = q at *
  go_enter Tryz.func158, Tryz.ntmps158
  go_wp2_with (first | (go_at_call 160; refine (hcon _).mono ?_; rintro e w' ⟨rfl, os', rfl⟩) | (go_at_call 159; refine (hcon2 _).mono ?_; rintro e w' ⟨rfl, rfl⟩))
  go_ret
  exact ⟨rfl, 0, _, by rw [alloc_eq_grow, alloc_eq_grow, grow_grow, grow_grow]; rfl⟩
/-- Generators in the upper half plane, of bounded coordinates. -/
structure Up where
  p : Pt
  up : up p
  bd : Bd 268435456 p
instance : Inhabited Up := ⟨⟨(1, 0), .inr ⟨rfl, by decide⟩, by unfold Bd; simp⟩⟩
theorem ups_of : ∀ l : List Pt, (∀ e ∈ l, up e ∧ Bd 268435456 e) → ∃ zs : List Up, zs.map Up.p = l
  | [], _ => ⟨[], rfl⟩
  | e :: l, h => by
    obtain ⟨zs, hz⟩ := ups_of l fun x hx => h x (by simp [hx])
    exact ⟨⟨e, (h e (by simp)).1, (h e (by simp)).2⟩ :: zs, by simp [hz]⟩
def cfU (x y : Up) : Int := -(cmpI (crs x.p y.p) 0)
theorem ltU (x y : Up) : ltOf cfU x y = decide (0 < crs x.p y.p) := by
  unfold ltOf cfU cmpI
  rw [Bool.eq_iff_iff, decide_eq_true_eq, decide_eq_true_eq]
  repeat' split <;> omega
theorem swoU : SWO (ltOf cfU) where
  irrefl x := by rw [ltU, crs_self]; rfl
  trans x y z h1 h2 := by
    rw [ltU, decide_eq_true_eq] at *
    exact crs_trans x.up y.up z.up h1 h2
  ntrans x y z h1 h2 := by
    rw [ltU, decide_eq_false_iff_not] at *
    have e1 := crs_anti x.p y.p
    have e2 := crs_anti y.p z.p
    have e3 := crs_anti x.p z.p
    have := crs_ntrans z.up y.up x.up (by omega) (by omega)
    omega
set_option maxRecDepth 100000 in
/-- The generators sorted by their directions. -/
theorem sortz_a {H : AHeap} {b n : Nat} {cap : Option Nat} {l : List Pt} (hg : H[b]? = some (.cells true 2 (prs l))) (hu : ∀ e ∈ l, up e ∧ Bd 268435456 e) (hn : n = l.length) (h0 : 0 < n) (h1 : n ≤ 1000000) :
    ACalls Tryz.prog 157 [.sl (some (b, 0)) n cap, .fn 158 []] H
      (fun v H' => v = .tup [] ∧ ∃ S : List Pt, S.Perm l ∧ S.Pairwise (fun x y => 0 ≤ crs x y) ∧ H' = H.set b (.cells true 2 (prs S))) := by
  have eg : ∀ args w, (callFunc 158 args).run Tryz.prog w = .ok (.enter 158 args) w := enters_of Tryz.func158 (by kernel_rfl) rfl
  obtain ⟨zs, rfl⟩ := ups_of l hu
  refine (sortf_a (α := Up) Up.p cfU swoU 158 eg (fun x y W => canoncmp_h x.p y.p x.bd y.bd W) (zs := zs) hg (by simpa using hn) h0 h1).mono ?_
  rintro v H' ⟨rfl, ys, hp, hs, rfl⟩
  refine ⟨rfl, ys.map Up.p, hp.map Up.p, ?_, rfl⟩
  rw [List.pairwise_map]
  refine hs.imp fun {x y} h => ?_
  rw [ltU] at h
  simp only [decide_eq_false_iff_not] at h
  rw [crs_anti] at h
  omega
open Go.RowKit

def vldB (W H : Int) (xs : List Int) : Bool := decide (1 ≤ W ∧ W ≤ 64 ∧ 1 ≤ H ∧ H ≤ 64 ∧ (xs.length : Int) = W * H ∧ ∀ v ∈ xs, v ≤ 2)
def inB (W H x y : Int) : Bool := decide (0 ≤ x ∧ x < W ∧ 0 ≤ y ∧ y < H)
def atI (W H : Int) (xs : List Int) (x y : Int) : Int := if inB W H x y then gi xs (y * W + x).toNat else 2
structure Vld (W H : Int) (xs : List Int) : Prop where
  w0 : 1 ≤ W
  w1 : W ≤ 64
  h0 : 1 ≤ H
  h1 : H ≤ 64
  len : (xs.length : Int) = W * H
  le : ∀ v ∈ xs, v ≤ 2
theorem vld_iff {W H : Int} {xs : List Int} : vldB W H xs = true ↔ Vld W H xs := by
  unfold vldB
  rw [decide_eq_true_iff]
  exact ⟨fun ⟨a, b, c, d, e, f⟩ => ⟨a, b, c, d, e, f⟩, fun ⟨a, b, c, d, e, f⟩ => ⟨a, b, c, d, e, f⟩⟩
theorem vld_false {W H : Int} {xs : List Int} : vldB W H xs = false ↔ ¬ Vld W H xs := by
  rw [← vld_iff]; simp
theorem inB_iff {W H x y : Int} : inB W H x y = true ↔ 0 ≤ x ∧ x < W ∧ 0 ≤ y ∧ y < H := by
  unfold inB; rw [decide_eq_true_iff]
theorem mul_le_64 {a b : Int} (h0 : 0 ≤ a) (h1 : a ≤ 64) (h2 : 0 ≤ b) (h3 : b ≤ 64) : 0 ≤ a * b ∧ a * b ≤ 4096 :=
  ⟨Int.mul_nonneg h0 h2, Int.le_trans (Int.mul_le_mul h1 h3 h2 (by omega)) (by omega)⟩
theorem Vld.pos {W H : Int} {xs : List Int} (h : Vld W H xs) : 1 ≤ W * H ∧ W * H ≤ 4096 ∧ 0 < xs.length ∧ xs.length ≤ 4096 := by
  have h1 : 1 * 1 ≤ W * H := Int.mul_le_mul h.w0 h.h0 (by omega) (by have := h.w0; omega)
  have h2 := mul_le_64 (a := W) (b := H) (by have := h.w0; omega) h.w1 (by have := h.h0; omega) h.h1
  have h3 := h.len
  omega
/-- The number of a cell. -/
theorem idx_bd {W H x y : Int} (h : inB W H x y = true) : 0 ≤ y * W ∧ 0 ≤ y * W + x ∧ y * W + x < W * H := by
  obtain ⟨a, b, c, d⟩ := inB_iff.1 h
  have h1 : 0 ≤ y * W := Int.mul_nonneg c (by omega)
  have h2 : (y + 1) * W ≤ H * W := Int.mul_le_mul_of_nonneg_right (by omega) (by omega)
  rw [Int.add_mul, Int.one_mul] at h2
  rw [Int.mul_comm W H]
  omega
theorem Vld.idx {W H x y : Int} {xs : List Int} (hv : Vld W H xs) (h : inB W H x y = true) : 0 ≤ y * W ∧ y * W ≤ 4096 ∧ 0 ≤ y * W + x ∧ y * W + x < W * H ∧ (y * W + x).toNat < xs.length ∧ 0 ≤ x ∧ x < 64 ∧ 0 ≤ y ∧ y < 64 := by
  have h1 := idx_bd h
  have h2 := hv.pos
  have h3 := hv.len
  obtain ⟨a, b, c, d⟩ := inB_iff.1 h
  have := hv.w1
  have := hv.h1
  omega
open Go.RowKit
theorem prs_snoc {l : List (Int × Int)} {x y : Int} : prs l ++ [.int .i64 x, .int .i64 y] = prs (l ++ [(x, y)]) := by rw [prs_append]; rfl
/-- A slice that is appended to: none yet, or the whole of a block of its own. -/
def OutP (b : Nat) (s : AV) (X : ABlk) (l : List (Int × Int)) : Prop := (l = [] ∧ s = .sl none 0 (some 0) ∧ X = .dead) ∨ (0 < l.length ∧ s = .sl (some (b, 0)) l.length none ∧ X = .cells true 2 (prs l))
/-- What a function hands back that has made a list of pairs. -/
def retP (H : AHeap) (l : List (Int × Int)) : AV × AHeap := if l = [] then (.sl none 0 (some 0), H) else (.sl (some (H.length, 0)) l.length none, H ++ [.cells true 2 (prs l)])
theorem retP_nil {H : AHeap} : retP H [] = (.sl none 0 (some 0), H) := rfl
theorem retP_pos {H : AHeap} {l : List (Int × Int)} (h : 0 < l.length) : retP H l = (.sl (some (H.length, 0)) l.length none, H ++ [.cells true 2 (prs l)]) := by
  unfold retP; rw [if_neg (fun e => by rw [e] at h; simp at h)]
open Go.RowKit

/-- The order of two operations matters. -/
def depI (q : Bool) (ops : Array Oper) (i j : Nat) : Bool :=
  match ops[i]?, ops[j]? with
  | some a, some b =>
    let free := fun (i : Nat) (a b : Oper) => (match a.dst with | some t => b.dst != some t && !(b.looksAt ops).contains t | none => true) && (!kChg q a.op || kPure b.op || (kExt ops i a.op && kRead b.op))
    !(free i a b && free j b a)
  | _, _ => false
/-- The operations in another order, with the edges that it needs. -/
def opsT (q : Bool) (ops : Array Oper) (τ : List Nat) : Array Oper :=
  (τ.zipIdx.map fun p => { (ops[p.1]?.getD default) with after := (((List.range p.2).filter fun k => depI q ops ((τ[k]?).getD 0) p.1).map fun k => (⟨k, .data⟩ : Edge)).toArray, guard := none }).toArray
/-- The operations that are run, in that order. -/
def pickL (l : List Oper) (τ : List Nat) : List LOp := τ.map fun i => ((l[i]?).map fun o => (⟨o.dst, o.op, none⟩ : LOp)).getD ⟨none, .move (.tmp 0), none⟩
def ordB (mk : List Nat) (i j : Nat) : Bool := (mk.getD j 0).testBit i
/-- The pairs whose order matters and that no edge orders. -/
def loose (q : Bool) (ops : Array Oper) (mk : List Nat) : List (Nat × Nat) :=
  (List.range ops.size).flatMap fun j => ((List.range j).filter fun i => depI q ops i j && !ordB mk i j && !ordB mk j i).map fun i => (i, j)
def orient : List (Nat × Nat) → List Bool → List (Nat × Nat)
  | p :: ps, b :: bs => (bif b then p else (p.2, p.1)) :: orient ps bs
  | _, _ => []
def allV : Nat → List (List Bool)
  | 0 => [[]]
  | n + 1 => (allV n).flatMap fun v => [true :: v, false :: v]
def linkB (mk : List Nat) (x y : Nat) : Bool := x == y || ordB mk x y
def refuted (mk : List Nat) (O : List (Nat × Nat)) : Bool :=
  (O.any fun a => O.any fun b => linkB mk a.2 b.1 && linkB mk b.2 a.1) || O.any fun a => O.any fun b => O.any fun c => linkB mk a.2 b.1 && linkB mk b.2 c.1 && linkB mk c.2 a.1
def okRep (q : Bool) (ops : Array Oper) (mk : List Nat) (O : List (Nat × Nat)) (τ : List Nat) : Bool :=
  (List.range τ.length).all fun k => (List.range k).all fun k' => let i := (τ[k']?).getD 0; let j := (τ[k]?).getD 0; !depI q ops i j || ordB mk i j || O.contains (i, j)
def coverB (q : Bool) (ops : Array Oper) (reps : List (List Nat)) : Bool :=
  let mk := masks ops
  let U := loose q ops mk
  (allV U.length).all fun v => let O := orient U v; refuted mk O || reps.any fun τ => okRep q ops mk O τ
def permB (n : Nat) (τ : List Nat) : Bool := τ.length == n && ((List.range n).all fun i => τ.contains i) && (τ.all fun i => Nat.blt i n) && (List.range n).all fun k => τ.idxOf ((τ[k]?).getD 0) == k
/-- All that is asked of a region and of the orders that stand for all. -/
def repsOk (q : Bool) (N : Nat) (ops : Array Oper) (reps : List (List Nat)) : Bool :=
  (ops.toList.all fun o => o.guard.isNone) && (ops.toList.zipIdx.all fun p => p.1.after.all fun e => !Region.binds .any e || decide (e.on < p.2)) &&
  (reps.all fun τ => permB ops.size τ && drawOk q N (opsT q ops τ)) && coverB q ops reps
section
variable {P : Program} {N n m : Nat} {Q : Exit → Fr → AHeap → Prop} {q : Bool} {ops : Array Oper}
theorem idx_ne {a b : Nat} {l : List Nat} (h : a ≠ b) : (a :: l).idxOf b = l.idxOf b + 1 := by
  rw [List.idxOf_cons]
  have : (a == b) = false := by simp [h]
  rw [this]; rfl
inductive ValidL (ops : Array Oper) : Array Bool → List Nat → Prop where
  | nil {listed : Array Bool} : Region.ready .any ops listed = [] → ValidL ops listed []
  | cons {listed : Array Bool} {i : Nat} {π : List Nat} : i ∈ Region.ready .any ops listed → ValidL ops (listed.setIfInBounds i true) π → ValidL ops listed (i :: π)
theorem go_valid : ∀ (fuel t : Nat) (listed : Array Bool), listed.size = ops.size → unl listed.toList ≤ fuel → ValidL ops listed (Region.linearise.go .any ops fuel t listed [])
  | 0, t, listed, hs, hu => by
    refine .nil ?_
    apply List.eq_nil_iff_forall_not_mem.2
    intro j hj
    obtain ⟨h0, o, ho, -⟩ := mem_ready.1 hj
    have hj' := (Array.getElem?_eq_some_iff.1 ho).1
    have hi' : j < listed.toList.length := by simp; omega
    have := List.countP_eq_zero.1 (Nat.le_zero.1 hu) listed.toList[j] (List.getElem_mem hi')
    simp at this
    simp [hs, hj', this] at h0
  | fuel + 1, t, listed, hs, hu => by
    simp only [Region.linearise.go]
    change ValidL ops listed (match (Region.ready .any ops listed)[t % (Region.ready .any ops listed).length]? with
      | some i => Region.linearise.go .any ops fuel (t / (Region.ready .any ops listed).length) (listed.setIfInBounds i true) [i]
      | none => [].reverse)
    cases hi : (Region.ready .any ops listed)[t % (Region.ready .any ops listed).length]? with
    | none =>
      refine .nil ?_
      cases hr : Region.ready .any ops listed with
      | nil => rfl
      | cons x xs =>
        rw [hr] at hi
        have hlt : t % (x :: xs).length < (x :: xs).length := Nat.mod_lt _ (by simp)
        simp at hi
        simp at hlt
        omega
    | some i =>
      simp only []
      rw [linearise_go_acc, List.reverse_singleton, List.singleton_append]
      have hmem := List.mem_of_getElem? hi
      refine .cons hmem (go_valid fuel _ _ (by simp [hs]) ?_)
      obtain ⟨h0, o, ho, -⟩ := mem_ready.1 hmem
      have hj' := (Array.getElem?_eq_some_iff.1 ho).1
      have := unl_set (l := listed.toList) (k := i) (by simp; omega) (by
        rw [Array.getElem?_toList]
        simp [hs, hj'] at h0
        rw [Array.getElem?_eq_getElem (by omega), h0])
      rw [Array.toList_setIfInBounds]
      omega
theorem any_valid {Q : Exit → Act → World → Prop} : ∀ (π : List Nat) (fuel : Nat) (listed : Array Bool) (a : Act) (w : World), π.length ≤ fuel → wpAny P .any ops Q fuel listed a w → ValidL ops listed π → wpOps P ops Q π a w
  | [], 0, _, _, _, _, h, _ => h.2
  | [], _ + 1, _, _, _, _, h, hv => by cases hv with | nil hr => exact h.1 hr
  | i :: π, 0, _, _, _, hl, _, _ => by simp at hl
  | i :: π, fuel + 1, listed, a, w, hl, h, hv => by
    cases hv with
    | cons hi hv =>
      rw [wpOps_cons]
      exact wpOp_mono (fun a w hh => any_valid π fuel _ a w (by simp at hl; omega) hh hv) (h.2 i hi)
/-- What is known of a full order. -/
theorem valid_all (hback : ∀ (i : Nat) (o : Oper) (e : Edge), ops[i]? = some o → e ∈ o.after → Region.binds .any e = true → e.on < i) : ∀ (π : List Nat) (listed : Array Bool), listed.size = ops.size → ValidL ops listed π →
    (∀ i, i < ops.size → listed.getD i false = false → i ∈ π) ∧ (∀ i ∈ π, i < ops.size ∧ listed.getD i false = false) ∧ π.Nodup ∧ ∀ (j : Nat) (o : Oper) (e : Edge), j ∈ π → ops[j]? = some o → e ∈ o.after → Region.binds .any e = true → listed.getD e.on false = true ∨ π.idxOf e.on < π.idxOf j
  | [], listed, hs, hv => by
    cases hv with
    | nil hr =>
      refine ⟨fun i hi hli => ?_, fun i h => by simp at h, List.nodup_nil, fun j o e h => by simp at h⟩
      exfalso
      have hall : ∀ i, i < ops.size → listed.getD i false = true := by
        intro i
        induction i using Nat.strongRecOn with
        | _ i ihi =>
          intro hi
          cases hli : listed.getD i false with
          | true => rfl
          | false =>
            exfalso
            have ho : ops[i]? = some ops[i] := Array.getElem?_eq_getElem hi
            have : i ∈ Region.ready .any ops listed := mem_ready.2 ⟨by simp [hs, hi] at hli ⊢; exact hli, _, ho, fun e he hb => by
              have hlt := hback i _ e ho he hb
              exact ihi e.on hlt (by omega)⟩
            rw [hr] at this; cases this
      rw [hall i hi] at hli; cases hli
  | i :: π, listed, hs, hv => by
    cases hv with
    | cons hi hv =>
      obtain ⟨h1, h2, h3, h4⟩ := valid_all hback π _ (by simp [hs]) hv
      obtain ⟨h0, o, ho, hed⟩ := mem_ready.1 hi
      have hin := (Array.getElem?_eq_some_iff.1 ho).1
      have hli : listed.getD i false = false := by simp [hs, hin] at h0 ⊢; exact h0
      have hget : ∀ j, (listed.setIfInBounds i true).getD j false = if j = i then true else listed.getD j false := fun j => by
        by_cases e : j = i
        · subst e; simp [hs, hin]
        · rw [if_neg e, getD_set_ne false (fun e' => e e'.symm)]
      have hni : i ∉ π := fun hm => by
        have := (h2 i hm).2
        rw [hget, if_pos rfl] at this; cases this
      refine ⟨fun j hj hjl => ?_, fun j hj => ?_, List.nodup_cons.2 ⟨hni, h3⟩, fun j o' e hj ho' he hb => ?_⟩
      · by_cases e : j = i
        · simp [e]
        · exact List.mem_cons_of_mem _ (h1 j hj (by rw [hget, if_neg e]; exact hjl))
      · rcases List.mem_cons.1 hj with rfl | hj
        · exact ⟨hin, hli⟩
        · have := h2 j hj
          rw [hget] at this
          by_cases e : j = i
          · rw [if_pos e] at this; cases this.2
          · rw [if_neg e] at this; exact this
      · by_cases eji : j = i
        · subst eji
          rw [ho] at ho'; simp at ho'; subst ho'
          exact .inl (hed e he hb)
        · have hj' : j ∈ π := (List.mem_cons.1 hj).resolve_left eji
          have hidx : (i :: π).idxOf j = π.idxOf j + 1 := by rw [idx_ne (fun e => eji e.symm)]
          rcases h4 j o' e hj' ho' he hb with h5 | h5
          · rw [hget] at h5
            by_cases e2 : e.on = i
            · right; rw [e2, List.idxOf_cons_self, hidx]; omega
            · rw [if_neg e2] at h5; exact .inl h5
          · by_cases e2 : e.on = i
            · right; rw [e2, List.idxOf_cons_self, hidx]; omega
            · right; rw [idx_ne (fun e' => e2 e'.symm), hidx]; omega
theorem mem_allV : ∀ (v : List Bool), v ∈ allV v.length
  | [] => by simp [allV]
  | b :: v => by
    simp only [List.length_cons, allV, List.mem_flatMap]
    refine ⟨v, mem_allV v, ?_⟩
    cases b <;> simp
theorem orient_lt {rk : Nat → Nat} : ∀ (U : List (Nat × Nat)), (∀ p ∈ U, rk p.1 ≠ rk p.2) → ∀ p ∈ orient U (U.map fun p => decide (rk p.1 < rk p.2)), rk p.1 < rk p.2
  | [], _, p, h => by simp [orient] at h
  | u :: U, hU, p, h => by
    simp only [List.map_cons, orient, List.mem_cons] at h
    rcases h with rfl | h
    · by_cases hd : rk u.1 < rk u.2
      · rw [decide_eq_true hd, cond_true]; exact hd
      · rw [decide_eq_false hd, cond_false]
        have := hU u (by simp)
        show rk u.2 < rk u.1
        omega
    · exact orient_lt U (fun p hp => hU p (by simp [hp])) p h
theorem cover_rep {reps : List (List Nat)} {rk : Nat → Nat} (hc : coverB q ops reps = true) (hord : ∀ i j, ordB (masks ops) i j = true → rk i < rk j) (hU : ∀ p ∈ loose q ops (masks ops), rk p.1 ≠ rk p.2) :
    ∃ τ ∈ reps, ∀ k k' : Nat, k < τ.length → k' < k → depI q ops ((τ[k']?).getD 0) ((τ[k]?).getD 0) = true → rk ((τ[k']?).getD 0) < rk ((τ[k]?).getD 0) := by
  have hlt := orient_lt (rk := rk) _ hU
  have hv := List.all_eq_true.1 hc ((loose q ops (masks ops)).map fun p => decide (rk p.1 < rk p.2)) (by
    have := mem_allV ((loose q ops (masks ops)).map fun p => decide (rk p.1 < rk p.2))
    simpa using this)
  simp only [Bool.or_eq_true] at hv
  have hlink : ∀ x y, linkB (masks ops) x y = true → rk x ≤ rk y := fun x y h => by
    unfold linkB at h
    simp only [Bool.or_eq_true, beq_iff_eq] at h
    rcases h with rfl | h
    · exact Nat.le_refl _
    · exact Nat.le_of_lt (hord _ _ h)
  rcases hv with hv | hv
  · exfalso
    unfold refuted at hv
    simp only [Bool.or_eq_true, List.any_eq_true, Bool.and_eq_true] at hv
    rcases hv with ⟨a, ha, b, hb, h1, h2⟩ | ⟨a, ha, b, hb, c, hc', ⟨h1, h2⟩, h3⟩
    · have := hlt a ha; have := hlt b hb; have := hlink _ _ h1; have := hlink _ _ h2; omega
    · have := hlt a ha; have := hlt b hb; have := hlt c hc'; have := hlink _ _ h1; have := hlink _ _ h2; have := hlink _ _ h3; omega
  · obtain ⟨τ, hτ, hk⟩ := List.any_eq_true.1 hv
    refine ⟨τ, hτ, fun k k' h1 h2 hd => ?_⟩
    have := List.all_eq_true.1 (List.all_eq_true.1 hk k (List.mem_range.2 h1)) k' (List.mem_range.2 h2)
    simp only [hd, Bool.not_true, Bool.false_or, Bool.or_eq_true] at this
    rcases this with h | h
    · exact hord _ _ h
    · exact hlt _ (by simpa using h)
theorem opsT_get {τ : List Nat} {k i : Nat} (hk : τ[k]? = some i) : (opsT q ops τ)[k]? = some { (ops[i]?.getD default) with after := (((List.range k).filter fun k' => depI q ops ((τ[k']?).getD 0) i).map fun k' => (⟨k', .data⟩ : Edge)).toArray, guard := none } := by
  unfold opsT
  simp [List.getElem?_zipIdx, hk]
theorem opsT_size {τ : List Nat} : (opsT q ops τ).size = τ.length := by simp [opsT]
theorem idx_lt_mem {A B : List Nat} {i : Nat} (h : (A ++ B).idxOf i < A.length) : i ∈ A := by
  by_cases hi : i ∈ A
  · exact hi
  · rw [List.idxOf_append, if_neg hi] at h; omega
theorem validT {τ π0 : List Nat} (hlen : τ.length = ops.size) (hmem : ∀ i, i < ops.size → i ∈ τ) (hpos : ∀ k, k < ops.size → τ.idxOf ((τ[k]?).getD 0) = k) (hin : ∀ i ∈ τ, i < ops.size)
    (hnd : π0.Nodup) (hall : ∀ i, i < ops.size → i ∈ π0) (hπ : ∀ i ∈ π0, i < ops.size)
    (hag : ∀ k k' : Nat, k < τ.length → k' < k → depI q ops ((τ[k']?).getD 0) ((τ[k]?).getD 0) = true → π0.idxOf ((τ[k']?).getD 0) < π0.idxOf ((τ[k]?).getD 0)) :
    ∀ (π A : List Nat) (L : Array Bool), π0 = A ++ π → L.size = ops.size → (∀ k, k < ops.size → L.getD k false = decide ((τ[k]?).getD 0 ∈ A)) → ValidL (opsT q ops τ) L (π.map fun i => τ.idxOf i)
  | [], A, L, e, hs, hL => by
    refine .nil ?_
    apply List.eq_nil_iff_forall_not_mem.2
    intro k hk
    obtain ⟨h0, o, ho, -⟩ := mem_ready.1 hk
    have hk' := (Array.getElem?_eq_some_iff.1 ho).1
    rw [opsT_size, hlen] at hk'
    have h1 := hL k hk'
    have hτ : τ[k]? = some τ[k] := List.getElem?_eq_getElem (by omega)
    rw [hτ] at h1
    have : τ[k] ∈ A := by
      rw [List.append_nil] at e
      rw [← e]; exact hall _ (hin _ (List.getElem_mem _))
    simp [this] at h1
    simp [hs, hk'] at h0 h1
    rw [h1] at h0; cases h0
  | j :: π, A, L, e, hs, hL => by
    have hj : j < ops.size := hπ j (by rw [e]; simp)
    have hjm := hmem j hj
    have hkl : τ.idxOf j < τ.length := List.idxOf_lt_length_of_mem hjm
    have hτk : τ[τ.idxOf j]? = some j := by rw [List.getElem?_eq_getElem hkl, List.getElem_idxOf]
    have hjA : j ∉ A := fun h => by
      rw [e] at hnd
      exact (List.nodup_append.1 hnd).2.2 j h j (by simp) rfl
    have hget := opsT_get (q := q) (ops := ops) hτk
    refine .cons (mem_ready.2 ⟨?_, _, hget, fun ed he _ => ?_⟩) (validT hlen hmem hpos hin hnd hall hπ hag π (A ++ [j]) _ (by rw [e]; simp) (by simp [hs]) fun k hk => ?_)
    · have := hL (τ.idxOf j) (by omega)
      rw [hτk] at this
      simp [hjA] at this
      show L.getD (τ.idxOf j) true = false
      rw [Array.getD_eq_getD_getElem?]
      rw [Array.getElem?_eq_getElem (by omega)] at this ⊢
      simpa using this
    · simp only [List.mem_toArray, List.mem_map, List.mem_filter, List.mem_range] at he
      obtain ⟨k', ⟨hk1, hk2⟩, rfl⟩ := he
      have h1 := hag (τ.idxOf j) k' hkl hk1 (by rw [hτk]; exact hk2)
      rw [hτk] at h1
      simp only [Option.getD_some] at h1
      have hjx : π0.idxOf j = A.length := by
        rw [e, List.idxOf_append, if_neg hjA, List.idxOf_cons_self, Nat.zero_add]
      rw [hjx, e] at h1
      have := idx_lt_mem h1
      rw [hL k' (by omega)]
      simp [this]
    · by_cases ek : k = τ.idxOf j
      · subst ek
        rw [hτk]
        simp [hs, hj, hlen ▸ hkl]
      · rw [getD_set_ne false (fun e' => ek e'.symm), hL k hk]
        have hne : (τ[k]?).getD 0 ≠ j := fun h => ek (by have := hpos k hk; rw [h] at this; exact this.symm)
        simp [hne]
theorem wpOps_T {Q : Exit → Act → World → Prop} {τ : List Nat} (hmem : ∀ i, i < ops.size → i ∈ τ) (hg : ∀ (i : Nat) (o : Oper), ops[i]? = some o → o.guard = none) : ∀ (π : List Nat) (a : Act) (w : World), (∀ i ∈ π, i < ops.size) → wpOps P (opsT q ops τ) Q (π.map fun i => τ.idxOf i) a w → wpOps P ops Q π a w
  | [], _, _, _, h => h
  | i :: π, a, w, hπ, h => by
    rw [List.map_cons, wpOps_cons] at h
    rw [wpOps_cons]
    have h1 := wpOp_mono (fun a w hh => wpOps_T hmem hg π a w (fun j hj => hπ j (by simp [hj])) hh) h
    have hi := hπ i (by simp)
    have him := hmem i hi
    have hτk : τ[τ.idxOf i]? = some i := by rw [List.getElem?_eq_getElem (List.idxOf_lt_length_of_mem him), List.getElem_idxOf]
    have ho : ops[i]? = some ops[i] := Array.getElem?_eq_getElem hi
    unfold wpOp at h1 ⊢
    rw [opsT_get hτk] at h1
    rw [ho] at h1 ⊢
    have hgi := hg i _ ho
    simp only [Region.wanted, hgi, if_true, Option.getD_some] at h1 ⊢
    exact h1
theorem pick_opsT {τ : List Nat} (hin : ∀ i ∈ τ, i < ops.size) : (opsT q ops τ).toList.map (lightOf (dsts (opsT q ops τ))) = pickL ops.toList τ := by
  refine List.ext_getElem? fun k => ?_
  unfold pickL
  rw [List.getElem?_map, List.getElem?_map, Array.getElem?_toList]
  cases hk : τ[k]? with
  | none =>
    have : (opsT q ops τ)[k]? = none := Array.getElem?_eq_none (by rw [opsT_size]; exact List.getElem?_eq_none_iff.1 hk)
    rw [this]; rfl
  | some i =>
    rw [opsT_get hk]
    have hi := hin i (List.mem_of_getElem? hk)
    simp only [Option.map_some, lightOf, Option.map_none]
    rw [Array.getElem?_toList, Array.getElem?_eq_getElem hi]
    rfl
theorem nodup_len : ∀ (n : Nat) (l : List Nat), l.Nodup → (∀ i ∈ l, i < n) → l.length ≤ n
  | 0, l, _, h => by
    cases l with
    | nil => simp
    | cons x l => exact absurd (h x (by simp)) (Nat.not_lt_zero x)
  | n + 1, l, hd, h => by
    have h1 := nodup_len n (l.filter fun i => i != n) (hd.filter _) (fun i hi => by
      simp only [List.mem_filter, bne_iff_ne] at hi
      have := h i hi.1
      omega)
    have h2 := List.length_eq_countP_add_countP (fun i => i != n) (l := l)
    rw [← List.countP_eq_length_filter] at h1
    have h3 : List.countP (fun a => decide ¬(a != n) = true) l = l.count n := by
      unfold List.count
      congr 1
      funext a
      by_cases e : a = n <;> simp [e]
    have h4 := List.nodup_iff_count.1 hd n
    omega
/-- A region that draws by the orders that stand for all. -/
theorem AW_reps {id : Nat} {F : Fr} {H : AHeap} (hm : P.follows .mixedOrders = true) (reps : List (List Nat)) (hok : repsOk q N ops reps = true)
    (hh : ∀ τ ∈ reps, AOpsDL P q H.length (pickL ops.toList τ) F H (fun F' H' => Q .normal F' H')) : AW P N n (.region id ops true) Q F H := by
  intro E w a h1 h2 h3 h4 h5
  unfold repsOk at hok
  simp only [Bool.and_eq_true] at hok
  obtain ⟨⟨⟨k1, k2⟩, k3⟩, k4⟩ := hok
  have zi : ∀ i o, ops[i]? = some o → (o, i) ∈ ops.toList.zipIdx := fun i o ho => List.mem_iff_getElem?.2 ⟨i, by simp [List.getElem?_zipIdx, ho]⟩
  have hg : ∀ (i : Nat) (o : Oper), ops[i]? = some o → o.guard = none := fun i o ho => by
    have := List.all_eq_true.1 k1 o (by simpa using Array.mem_of_getElem? ho)
    simpa using this
  have hback : ∀ (i : Nat) (o : Oper) (e : Edge), ops[i]? = some o → e ∈ o.after → Region.binds .any e = true → e.on < i := fun i o e ho he hb => by
    have := List.all_eq_true.1 k2 _ (zi i o ho)
    have := Array.all_eq_true_iff_forall_mem.1 this e he
    simpa [hb] using this
  refine wp_region_draw fun t => ?_
  simp only [Region.schedule, hm, Bool.true_or, if_true]
  have hv : ValidL ops (Array.replicate ops.size false) (Region.linearise .any ops t) := go_valid _ t _ (by simp) (by simp [unl, List.countP_replicate])
  generalize Region.linearise .any ops t = π at hv
  have hL : ∀ i, (Array.replicate ops.size false).getD i false = false := fun i => by
    rw [Array.getD_eq_getD_getElem?]
    cases hq : (Array.replicate ops.size false)[i]? with
    | none => rfl
    | some b => rw [Array.getElem?_replicate] at hq; split at hq <;> simp at hq; subst hq; rfl
  obtain ⟨v1, v2, v3, v4⟩ := valid_all hback π _ (by simp) hv
  have hall : ∀ i, i < ops.size → i ∈ π := fun i hi => v1 i hi (hL i)
  have hπ : ∀ i ∈ π, i < ops.size := fun i hi => (v2 i hi).1
  have hpred : ∀ i j, Pred ops i j → j < ops.size → π.idxOf i < π.idxOf j := fun i j hp => by
    induction hp with
    | edge ho he hb =>
      intro hj
      rcases v4 _ _ _ (hall _ hj) ho he hb with h | h
      · rw [hL] at h; cases h
      · exact h
    | step ho he hb _ ih =>
      intro hj
      rcases v4 _ _ _ (hall _ hj) ho he hb with h | h
      · rw [hL] at h; cases h
      · exact Nat.lt_trans (ih (by have := hback _ _ _ ho he hb; omega)) h
  have predlt : ∀ i j, Pred ops i j → j < ops.size := fun i j hp => by
    cases hp with
    | edge ho _ _ => exact (Array.getElem?_eq_some_iff.1 ho).1
    | step ho _ _ _ => exact (Array.getElem?_eq_some_iff.1 ho).1
  obtain ⟨τ, hτ, hag⟩ := cover_rep (rk := fun i => π.idxOf i) k4 (fun i j h => hpred i j (masks_spec h) (predlt i j (masks_spec h))) (fun p hp => by
    unfold loose at hp
    simp only [List.mem_flatMap, List.mem_range, List.mem_map, List.mem_filter] at hp
    obtain ⟨j, hj, i, ⟨hi, -⟩, rfl⟩ := hp
    intro e
    have h1 : π[π.idxOf i]? = some i := by rw [List.getElem?_eq_getElem (List.idxOf_lt_length_of_mem (hall i (by omega))), List.getElem_idxOf]
    have h2 : π[π.idxOf j]? = some j := by rw [List.getElem?_eq_getElem (List.idxOf_lt_length_of_mem (hall j hj)), List.getElem_idxOf]
    simp only at e
    rw [e, h2] at h1
    simp at h1; omega)
  have hr := List.all_eq_true.1 k3 τ hτ
  simp only [Bool.and_eq_true] at hr
  obtain ⟨hp, hd⟩ := hr
  unfold permB at hp
  simp only [Bool.and_eq_true, beq_iff_eq] at hp
  obtain ⟨⟨⟨p1, p2⟩, p3⟩, p4⟩ := hp
  have hmem : ∀ i, i < ops.size → i ∈ τ := fun i hi => by
    have := List.all_eq_true.1 p2 i (List.mem_range.2 hi)
    simpa using this
  have hin : ∀ i ∈ τ, i < ops.size := fun i hi => Nat.le_of_ble_eq_true (List.all_eq_true.1 p3 i hi)
  have hpos : ∀ k, k < ops.size → τ.idxOf ((τ[k]?).getD 0) = k := fun k hk => by
    have := List.all_eq_true.1 p4 k (List.mem_range.2 hk)
    simpa using this
  refine wpOps_T (q := q) hmem hg π a _ hπ ?_
  have hvT := validT (q := q) p1 hmem hpos hin v3 hall hπ hag π [] (Array.replicate (opsT q ops τ).size false) (by simp) (by simp [opsT_size, p1]) (fun k hk => by
    rw [Array.getD_eq_getD_getElem?]
    cases hq : (Array.replicate (opsT q ops τ).size false)[k]? with
    | none => simp
    | some b => rw [Array.getElem?_replicate] at hq; split at hq <;> simp at hq; subst hq; simp)
  have hany := draw_any (P := P) (N := N) (n := n) (Q := Q) q hd (AOpsD_of (opsT q ops τ).toList F H (by rw [pick_opsT hin]; exact hh τ hτ)) h1 h2 h3 h4 h5
  refine any_valid _ _ _ _ _ ?_ hany hvT
  rw [List.length_map, opsT_size, p1]
  have := nodup_len ops.size π v3 hπ
  omega
theorem AW_abs {c : Code} {Q : Exit → Fr → AHeap → Prop} {σ : Nat → Nat} {F F2 : Fr} {H H2 : AHeap} (ab : Abs n σ F H F2 H2) (h : AW P N n c Q F2 H2) : AW P N n c Q F H := by
  intro E w a h1 h2 h3 h4 h5
  obtain ⟨E', hle, f, e⟩ := ab.emb h1 h4 h5
  exact wp_mono (h E' w a hle.n h2 h3 f e) fun e a w hh => LiftQ.shift hle hh
/-- A piece of code, what it leaves, and then the rest. -/
theorem AW_step {a b : Code} {F : Fr} {H : AHeap} (q : Bool) (hm : P.follows .mixedOrders = true) (hc : codeOk N q a = true) (J : Fr → AHeap → Prop) (h1 : AGo P N n q Q [.code a, .inv J] F H) (h2 : ∀ F H, J F H → AW P N n b Q F H) : AW P N n (.seq a b) Q F H := by
  refine AW_seq (AW.mono (AW_of hm a hc _ F H h1) fun e F H hq => ?_)
  cases e <;> first | exact h2 F H hq | exact hq
theorem AW_fin {a : Code} {F : Fr} {H : AHeap} (q : Bool) (hm : P.follows .mixedOrders = true) (hc : codeOk N q a = true) (h : AGo P N n q Q [.code a] F H) : AW P N n a Q F H := AW_of hm a hc _ F H h
/-- A region that draws, by its orders, what it leaves (seen in another way), and then the rest. -/
theorem AW_special {id : Nat} {b : Code} {F : Fr} {H : AHeap} (q : Bool) (hm : P.follows .mixedOrders = true) (reps : List (List Nat)) (hok : repsOk q N ops reps = true) (I : Fr → AHeap → Prop)
    (h1 : ∀ τ ∈ reps, ∀ J : Fr → AHeap → Prop, (∀ F' H', (∃ σ F2 H2, I F2 H2 ∧ Abs n σ F' H' F2 H2) → J F' H') → AGo P N n q Q [.opsD H.length (pickL ops.toList τ), .inv J] F H) (h2 : ∀ F2 H2, I F2 H2 → AW P N n b Q F2 H2) : AW P N n (.seq (.region id ops true) b) Q F H := by
  refine AW_seq (AW.mono (AW_reps (Q := AThen (fun F' H' => ∃ σ F2 H2, I F2 H2 ∧ Abs n σ F' H' F2 H2) Q) hm reps hok fun τ hτ => ?_) fun e F H hq => ?_)
  · exact h1 τ hτ (fun F' H' => ∃ σ F2 H2, I F2 H2 ∧ Abs n σ F' H' F2 H2) (fun _ _ h => h)
  · cases e with
    | normal =>
      obtain ⟨σ, F2, H2, hi, ab⟩ := hq
      exact AW_abs ab (h2 F2 H2 hi)
    | _ => exact hq
theorem reps_cons {p : List Nat → Prop} {τ : List Nat} {l : List (List Nat)} (h : p τ) (h2 : ∀ τ ∈ l, p τ) : ∀ τ' ∈ τ :: l, p τ' := fun τ' h' => by
  rcases List.mem_cons.1 h' with rfl | h'
  · exact h
  · exact h2 _ h'
theorem reps_nil {p : List Nat → Prop} : ∀ τ' ∈ ([] : List (List Nat)), p τ' := fun τ' h => by simp at h
theorem inv_of {J : Fr → AHeap → Prop} {r : List It} {F : Fr} {H : AHeap} (h : J F H) : AGo P N n q Q (.inv J :: r) F H := h
/-- A function's call, piece by piece. -/
theorem ACalls_pieces {f : FuncId} {fn : Func} {args : List AV} {R : AV → AHeap → Prop} {H : AHeap} (hf : P.funcs[f]? = some fn) (N : Nat) (hN : fn.ntmps = N) (ha : args.length ≤ N) (hsome : fn.body.isSome = true)
    (h : HBel H.length H → ∀ Q, (∀ F H', AEnd P fn H.length R .ret F H' → ARet Q F H') → (∀ F H', AEnd P fn H.length R .normal F H' → Q .normal F H') → ∀ c, fn.body = some c → AW P N H.length c Q (argF 0 args) H) : ACalls P f args H R := by
  cases hb : fn.body with
  | none => rw [hb] at hsome; cases hsome
  | some c => exact ACalls_of hf hb hN ha fun hbel => h hbel (AEnd P fn H.length R) (fun _ _ k => k) (fun _ _ k => k) c hb
/-- A piece of code and the rest, for any aim that the rest serves. -/
theorem AW_seqQ {a b : Code} {F : Fr} {H : AHeap} (h : ∀ Q2 : Exit → Fr → AHeap → Prop, (∀ F H, AW P N n b Q F H → Q2 .normal F H) → (∀ F H, ARet Q F H → ARet Q2 F H) → (∀ id F H, Q (.exit id) F H → Q2 (.exit id) F H) → AW P N n a Q2 F H) : AW P N n (.seq a b) Q F H :=
  AW_seq (h (AThen (fun F H => AW P N n b Q F H) Q) (fun _ _ k => k) (fun _ _ k => k) (fun _ _ _ k => k))
/-- A function's call by its text (in short). -/
theorem AcT (q : Bool) {f : FuncId} {fn : Func} {args : List AV} {R : AV → AHeap → Prop} {H : AHeap} (hf : P.funcs[f]? = some fn) {c : Code} (h : HBel H.length H → ∀ Q : Exit → Fr → AHeap → Prop, (∀ F H', AEnd P fn H.length R .ret F H' → ARet Q F H') → AGo P fn.ntmps H.length q Q [.code c] (argF 0 args) H)
    (hb : fn.body = some c := by rfl) (hm : P.follows .mixedOrders = true := by exact try_mixed) (ha : args.length ≤ fn.ntmps := by exact Nat.le_of_ble_eq_true (by kernel_rfl)) (hc : codeOk fn.ntmps q c = true := by kernel_rfl) : ACalls P f args H R :=
  ACalls_run hm hf q _ rfl ha (by rw [hb]; exact congrArg some hc) fun hbel Q hQ _ c' hc' => by
    rw [hb] at hc'
    injection hc' with hc'
    subst hc'
    exact h hbel Q hQ
end
set_option linter.unusedSimpArgs false
set_option linter.unusedVariables false
open Go.RowKit

mutual
def AV.eqb : AV → AV → Bool
  | .any, y => (match y with | .any => true | _ => false)
  | .int k n, y => (match y with | .int k' n' => decide (k = k') && decide (n = n') | _ => false)
  | .bool b, y => (match y with | .bool b' => b == b' | _ => false)
  | .str s, y => (match y with | .str s' => decide (s = s') | _ => false)
  | .ptr a, y => (match y with | .ptr a' => decide (a = a') | _ => false)
  | .sl a l c, y => (match y with | .sl a' l' c' => decide (a = a') && (decide (l = l') && decide (c = c')) | _ => false)
  | .mp r, y => (match y with | .mp r' => decide (r = r') | _ => false)
  | .fn f cs, y => (match y with | .fn f' cs' => decide (f = f') && AV.eqbs cs cs' | _ => false)
  | .nilfn, y => (match y with | .nilfn => true | _ => false)
  | .agg cs, y => (match y with | .agg cs' => AV.eqbs cs cs' | _ => false)
  | .tup cs, y => (match y with | .tup cs' => AV.eqbs cs cs' | _ => false)
def AV.eqbs : List AV → List AV → Bool
  | [], ys => (match ys with | [] => true | _ => false)
  | x :: xs, ys => (match ys with | y :: ys => AV.eqb x y && AV.eqbs xs ys | [] => false)
end
mutual
theorem AV.eqb_eq : ∀ (x y : AV), AV.eqb x y = true → x = y
  | .any, y, h => by cases y <;> first | rfl | (simp [AV.eqb] at h)
  | .int k n, y, h => by cases y <;> first | (simp [AV.eqb] at h; done) | (simp [AV.eqb] at h; rw [h.1, h.2])
  | .bool b, y, h => by cases y <;> first | (simp [AV.eqb] at h; done) | (simp [AV.eqb] at h; rw [h])
  | .str s, y, h => by cases y <;> first | (simp [AV.eqb] at h; done) | (simp [AV.eqb] at h; rw [h])
  | .ptr a, y, h => by cases y <;> first | (simp [AV.eqb] at h; done) | (simp [AV.eqb] at h; rw [h])
  | .sl a l c, y, h => by cases y <;> first | (simp [AV.eqb] at h; done) | (simp [AV.eqb] at h; rw [h.1, h.2.1, h.2.2])
  | .mp r, y, h => by cases y <;> first | (simp [AV.eqb] at h; done) | (simp [AV.eqb] at h; rw [h])
  | .fn f cs, y, h => by
    cases y <;> first | (simp [AV.eqb] at h; done) | skip
    simp [AV.eqb] at h
    rw [h.1, AV.eqbs_eq _ _ h.2]
  | .nilfn, y, h => by cases y <;> first | rfl | (simp [AV.eqb] at h)
  | .agg cs, y, h => by
    cases y <;> first | (simp [AV.eqb] at h; done) | skip
    simp [AV.eqb] at h
    rw [AV.eqbs_eq _ _ h]
  | .tup cs, y, h => by
    cases y <;> first | (simp [AV.eqb] at h; done) | skip
    simp [AV.eqb] at h
    rw [AV.eqbs_eq _ _ h]
theorem AV.eqbs_eq : ∀ (xs ys : List AV), AV.eqbs xs ys = true → xs = ys
  | [], ys, h => by cases ys <;> first | rfl | (simp [AV.eqbs] at h)
  | x :: xs, ys, h => by
    cases ys with
    | nil => simp [AV.eqbs] at h
    | cons y ys =>
      simp [AV.eqbs] at h
      rw [AV.eqb_eq _ _ h.1, AV.eqbs_eq _ _ h.2]
end
def ABlk.eqb : ABlk → ABlk → Bool
  | .dead, y => (match y with | .dead => true | _ => false)
  | .cells o e xs, y => (match y with | .cells o' e' xs' => (o == o') && (decide (e = e') && AV.eqbs xs xs') | _ => false)
  | .map es, y => (match y with | .map es' => AV.eqbs (es.map (·.1)) (es'.map (·.1)) && AV.eqbs (es.map (·.2)) (es'.map (·.2)) | _ => false)
theorem pairs_eq {α β : Type} : ∀ {l m : List (α × β)}, l.map (·.1) = m.map (·.1) → l.map (·.2) = m.map (·.2) → l = m
  | [], [], _, _ => rfl
  | [], _ :: _, h, _ => by simp at h
  | _ :: _, [], h, _ => by simp at h
  | (a, b) :: l, (c, d) :: m, h1, h2 => by
    simp only [List.map_cons, List.cons.injEq] at h1 h2
    rw [h1.1, h2.1, pairs_eq h1.2 h2.2]
theorem ABlk.eqb_eq {x y : ABlk} (h : ABlk.eqb x y = true) : x = y := by
  cases x <;> cases y <;> first | rfl | (simp [ABlk.eqb] at h; done) | skip
  · simp [ABlk.eqb] at h
    rw [h.1, h.2.1, AV.eqbs_eq _ _ h.2.2]
  · simp only [ABlk.eqb, Bool.and_eq_true] at h
    rw [pairs_eq (AV.eqbs_eq _ _ h.1) (AV.eqbs_eq _ _ h.2)]
/-- The memory begins as it was. -/
def prefixB : AHeap → AHeap → Bool
  | [], _ => true
  | x :: r, y :: s => ABlk.eqb x y && prefixB r s
  | _ :: _, [] => false
theorem prefixB_eq : ∀ {H H' : AHeap}, prefixB H H' = true → ∃ l, H' = H ++ l
  | [], H', _ => ⟨H', rfl⟩
  | x :: r, [], h => by simp [prefixB] at h
  | x :: r, y :: s, h => by
    simp only [prefixB, Bool.and_eq_true] at h
    obtain ⟨l, hl⟩ := prefixB_eq h.2
    exact ⟨l, by rw [← ABlk.eqb_eq h.1, hl]; rfl⟩
/-- A frame as a tree by the bits of a slot's number. -/
inductive FT where
  | nil
  | leaf (x : AV)
  | node (l r : FT)
def FT.get : Nat → FT → Nat → AV
  | 0, f, _ => (match f with | .leaf x => x | _ => .any)
  | d + 1, f, t => (match f with | .node l r => bif Nat.beq (t % 2) 0 then FT.get d l (t / 2) else FT.get d r (t / 2) | _ => .any)
def FT.set : Nat → Nat → AV → FT → FT
  | 0, _, x, _ => .leaf x
  | d + 1, t, x, f => (match f with
    | .node l r => bif Nat.beq (t % 2) 0 then .node (FT.set d (t / 2) x l) r else .node l (FT.set d (t / 2) x r)
    | _ => bif Nat.beq (t % 2) 0 then .node (FT.set d (t / 2) x .nil) .nil else .node .nil (FT.set d (t / 2) x .nil))
theorem FT.get_nil : ∀ (d s : Nat), FT.get d .nil s = .any
  | 0, _ => rfl
  | _ + 1, _ => rfl
theorem FT.get_set : ∀ (d t s : Nat) (x : AV) (f : FT), t < 2 ^ d → s < 2 ^ d → FT.get d (FT.set d t x f) s = if t = s then x else FT.get d f s
  | 0, t, s, x, f, ht, hs => by
    have : t = s := by simp at ht hs; omega
    rw [if_pos this]; rfl
  | d + 1, t, s, x, f, ht, hs => by
    have ht' : t / 2 < 2 ^ d := by rw [Nat.pow_succ] at ht; omega
    have hs' : s / 2 < 2 ^ d := by rw [Nat.pow_succ] at hs; omega
    have ih := FT.get_set d (t / 2) (s / 2) x
    have hb : ∀ u : Nat, Nat.beq (u % 2) 0 = decide (u % 2 = 0) := fun u => by
      by_cases h : u % 2 = 0
      · rw [h]; rfl
      · have : u % 2 = 1 := by omega
        rw [this]; rfl
    have key : ∀ l r : FT, FT.get (d + 1) (bif Nat.beq (t % 2) 0 then .node (FT.set d (t / 2) x l) r else .node l (FT.set d (t / 2) x r)) s = if t = s then x else FT.get (d + 1) (.node l r) s := fun l r => by
      rw [hb]
      by_cases h1 : t % 2 = 0
      · simp only [h1, decide_true, cond_true, FT.get]
        rw [hb]
        by_cases h2 : s % 2 = 0
        · simp only [h2, decide_true, cond_true]
          rw [ih l ht' hs']
          by_cases e : t = s
          · rw [if_pos (by rw [e]), if_pos e]
          · rw [if_neg (by omega), if_neg e]
        · simp only [h2, decide_false, cond_false]
          rw [if_neg (by omega)]
      · simp only [h1, decide_false, cond_false, FT.get]
        rw [hb]
        by_cases h2 : s % 2 = 0
        · simp only [h2, decide_true, cond_true]
          rw [if_neg (by omega)]
        · simp only [h2, decide_false, cond_false]
          rw [ih r ht' hs']
          by_cases e : t = s
          · rw [if_pos (by rw [e]), if_pos e]
          · rw [if_neg (by omega), if_neg e]
    cases f with
    | node l r => exact key l r
    | nil =>
      have := key .nil .nil
      rw [show FT.get (d + 1) (.node .nil .nil) s = FT.get (d + 1) .nil s by simp [FT.get, FT.get_nil]] at this
      exact this
    | leaf y =>
      have := key .nil .nil
      rw [show FT.get (d + 1) (.node .nil .nil) s = FT.get (d + 1) (.leaf y) s by simp [FT.get, FT.get_nil]] at this
      exact this
/-- What a slot holds. -/
def getT (f : FT) (t : Nat) : AV := bif Nat.blt t 1024 then FT.get 10 f t else .any
def putR (d : Option Tmp) (x : AV) (f : FT) : FT :=
  match d with
  | some t => FT.set 10 t x f
  | none => f
def okD (d : Option Tmp) : Bool :=
  match d with
  | some t => Nat.blt t 1024
  | none => true
theorem look_putR {f : FT} {G : Fr} (h : getT f = look G) {d : Option Tmp} (hd : okD d = true) (x : AV) : getT (putR d x f) = look (putF d x G) := by
  funext s
  cases d with
  | none => exact congrFun h s
  | some t =>
    have hs := congrFun h s
    have ht : t < 1024 := Nat.le_of_ble_eq_true hd
    show getT (FT.set 10 t x f) s = look ((t, x) :: G) s
    unfold getT at hs ⊢
    simp only [look]
    cases hb : Nat.blt s 1024 with
    | false =>
      rw [hb] at hs
      have hlt : ¬ s < 1024 := fun hh => by rw [show Nat.blt s 1024 = true from Nat.ble_eq_true_of_le hh] at hb; cases hb
      have : (t == s) = false := by rw [beq_eq_false_iff_ne]; exact fun e => hlt (e ▸ ht)
      rw [this]; exact hs
    | true =>
      rw [hb] at hs
      simp only [cond_true] at hs ⊢
      have hlt : s < 1024 := Nat.le_of_ble_eq_true hb
      rw [FT.get_set 10 t s x f (by simpa using ht) (by simpa using hlt), hs]
      by_cases e : t = s
      · simp [e]
      · have : (t == s) = false := by simp [e]
        rw [if_neg e, this]; rfl
theorem getT_nil : getT .nil = look [] := by
  funext s
  unfold getT
  cases Nat.blt s 1024 <;> simp [FT.get_nil, look]
/-- The arguments' frame. -/
def argT : Nat → List AV → FT
  | _, [] => .nil
  | i, x :: r => FT.set 10 i x (argT (i + 1) r)
theorem argT_eq : ∀ (xs : List AV) (i : Nat), i + xs.length ≤ 1024 → getT (argT i xs) = look (argF i xs)
  | [], i, _ => getT_nil
  | x :: r, i, h => by
    simp only [List.length_cons] at h
    exact look_putR (d := some i) (argT_eq r (i + 1) (by omega)) (Nat.ble_eq_true_of_le (by omega)) x
def ev (f : FT) : Operand → AV
  | .tmp t => getT f t
  | .const v => AV.ofValue v
  | .global _ => .any
  | .func g => .fn g []
theorem ev_eq {f : FT} {G : Fr} (h : getT f = look G) : ev f = aev G := by
  funext o; cases o <;> simp [ev, aev, h]
def aopE (P : Program) (o : Op) (e : Operand → AV) (H : AHeap) : Option (AV × AHeap) :=
  match o with
  | .move x => some (e x, H)
  | .assign x => some (e x, H)
  | .pick c a b => (match e c with | .bool t => some (bif t then e a else e b, H) | _ => none)
  | .alloc t => aAlloc P t H
  | .box _ x => aBox (e x) H
  | .build t ps => (aBuild P t (ps.toList.map fun p => (p.1, e p.2))).map fun r => (r, H)
  | .buildSlice t n ps => aBuildSlice P t n (ps.toList.map fun p => (p.1, e p.2)) H
  | .load t a => aLoad P t (e a) H
  | .store t a x => (aStore P t (e a) (e x) H).map fun H' => (.any, H')
  | .nilCheck x => (match e x with | .ptr (some a) => some (.ptr (some a), H) | .fn f c => some (.fn f c, H) | _ => none)
  | .binOp op t x y _ => (aBin P op t (e x) (e y)).map fun r => (r, H)
  | .unOp op _ x => (aUn op (e x)).map fun r => (r, H)
  | .convert s d x => (aConv P s d (e x) H).map fun r => (r, H)
  | .makeFunc fn first caps => (match fn with | .func f => (need (first.toList.length = 0)).map fun _ => (.fn f (caps.toList.map e), H) | _ => none)
  | .makeMap t r => (match r with | none => some (.mp (some H.length), H ++ [.map []]) | some x => (match e x with | .int _ _ => (tMap P t).map fun _ => (.mp (some H.length), H ++ [.map []]) | _ => none))
  | .makeSlice t l c => aMakeSlice P t (e l) (e c) H
  | .slice t x lo hi mx => (aSlice P t (e x) (lo.map e) (hi.map e) (mx.map e) H).map fun r => (r, H)
  | .fieldAddr t x f => (aFieldAddr P t (e x) f).map fun r => (r, H)
  | .field t x f => (aField P t (e x) f).map fun r => (r, H)
  | .indexAddr t x i => (aIndexAddr P t (e x) (e i)).map fun r => (r, H)
  | .index t x i => (aIndex P t (e x) (e i)).map fun r => (r, H)
  | .lookup t m k ok => (aLookup P t (e m) (e k) ok H).map fun r => (r, H)
  | .mapUpdate t m k x => (aMapUpdate P t (e m) (e k) (e x) H).map fun H' => (.any, H')
  | .extract x i => (aExtract (e x) i).map fun r => (r, H)
  | .call c => (match c.callee with | .builtin b => aBuiltin P b c.argTypes.toList (c.args.toList.map e) H | _ => none)
  | _ => none
theorem aopE_eq (P : Program) (o : Op) (G : Fr) (H : AHeap) : aopE P o (aev G) H = aop P o G H := by
  cases o <;> rfl
def calleeE (o : Op) (e : Operand → AV) : Option (FuncId × List AV) :=
  match o with
  | .call c => (match c.callee with | .value f => (match e f with | .fn k caps => some (k, c.args.toList.map e ++ caps) | _ => none) | _ => none)
  | _ => none
theorem calleeE_eq (o : Op) (G : Fr) : calleeE o (aev G) = calleeOf o G := by
  cases o <;> rfl
def gdE (f : FT) : Option (Option Tmp × Bool) → Option Bool
  | none => some true
  | some (none, _) => none
  | some (some t, want) => (match getT f t with | .bool b => some (b == want) | .tup [] => some false | _ => none)
theorem gdE_eq {f : FT} {G : Fr} (h : getT f = look G) (g : Option (Option Tmp × Bool)) : gdE f g = gdL G g := by
  cases g with
  | none => rfl
  | some p =>
    obtain ⟨a, b⟩ := p
    cases a with
    | none => rfl
    | some t =>
      simp only [gdE, gdL, h]
      cases look G t with
      | tup l => cases l <;> rfl
      | _ => rfl
def aResE (P : Program) : List ResultVar → FT → AHeap → Option (List AV)
  | [], _, _ => some []
  | .tmp t :: rs, f, H => (aResE P rs f H).map fun l => getT f t :: l
  | .cell a t :: rs, f, H => (aLoad P t (getT f a) H).bind fun x => (aResE P rs f H).map fun l => x.1 :: l
theorem aResE_eq {f : FT} {G : Fr} (h : getT f = look G) (P : Program) (H : AHeap) : ∀ rs : List ResultVar, aResE P rs f H = aRes P rs G H
  | [] => rfl
  | .tmp t :: rs => by simp [aResE, aRes, h, aResE_eq h P H rs]
  | .cell a t :: rs => by simp [aResE, aRes, h, aResE_eq h P H rs]
abbrev Caller := FuncId → List AV → AHeap → Option (AV × Option AHeap)
def CallOk (P : Program) (call : Caller) : Prop := ∀ f args H x o, call f args H = some (x, o) → okFn P f = true ∧ H.length ≤ (o.getD H).length ∧ ACalls P f args H (fun y H1 => y = x ∧ H1 = o.getD H)
def belowB (m : Nat) : AV → Bool
  | .ptr (some (b, _)) => Nat.blt b m
  | .sl (some (b, _)) _ _ => Nat.blt b m
  | _ => true
def lenB (m : Nat) : AV → Bool
  | .mp (some b) => Nat.blt b m
  | _ => true
theorem belowB_ok {m : Nat} : ∀ {x : AV}, belowB m x = true → belowV m x
  | .ptr (some (_, _)), h => Nat.le_of_ble_eq_true h
  | .sl (some (_, _)) _ _, h => Nat.le_of_ble_eq_true h
  | .ptr none, _ => trivial | .sl none _ _, _ => trivial | .mp _, _ => trivial
  | .any, _ => trivial | .int _ _, _ => trivial | .bool _, _ => trivial | .str _, _ => trivial | .fn _ _, _ => trivial | .nilfn, _ => trivial | .agg _, _ => trivial | .tup _, _ => trivial
theorem lenB_ok {m : Nat} : ∀ {x : AV}, lenB m x = true → lenV m x
  | .mp (some _), h => Nat.le_of_ble_eq_true h
  | .mp none, _ => trivial | .sl _ _ _, _ => trivial | .ptr _, _ => trivial
  | .any, _ => trivial | .int _ _, _ => trivial | .bool _, _ => trivial | .str _, _ => trivial | .fn _ _, _ => trivial | .nilfn, _ => trivial | .agg _, _ => trivial | .tup _, _ => trivial
def lateB (d : Option Nat) (o : Op) (e : Operand → AV) : Bool :=
  match d with
  | some m => (match o with
    | .load _ a => belowB m (e a)
    | .slice _ x _ _ _ => belowB m (e x)
    | .call c => (match c.callee, c.args.toList with | .builtin .len, x :: _ => lenB m (e x) | _, _ => true)
    | _ => true)
  | none => true
theorem lateB_ok {m : Nat} {o : Op} {G : Fr} (h : lateB (some m) o (aev G) = true) : lateOk m o G := by
  unfold lateB at h
  unfold lateOk
  simp only at h
  split
  · exact belowB_ok h
  · exact belowB_ok h
  · simp only at h
    split
    · rename_i h1 h2
      simp only [h1, h2] at h
      exact lenB_ok h
    · trivial
  · trivial
/-- A call leaves what is below m. -/
def keepsB (m : Nat) (H H' : AHeap) : Bool := (List.range m).all fun b => match H[b]?, H'[b]? with | some x, some y => ABlk.eqb y x | none, none => true | _, _ => false
theorem keepsB_ok {m : Nat} {H H' : AHeap} (h : keepsB m H H' = true) : ∀ b, b < m → H'[b]? = H[b]? := fun b hb => by
  have := List.all_eq_true.1 h b (List.mem_range.2 hb)
  revert this
  cases H[b]? <;> cases H'[b]? <;> simp
  exact fun h => (ABlk.eqb_eq h)
def keepD (d : Option Nat) (H H' : AHeap) : Bool := match d with | some m => keepsB m H H' | none => true
/-- Operations in a row (keep: a call must leave the memory as it was; d: in a region that draws, how many blocks were there before it). -/
def rOps (P : Program) (keep : Bool) (d : Option Nat) (call : Caller) : List LOp → FT → AHeap → Option (FT × AHeap)
  | [], F, H => some (F, H)
  | o :: os, F, H =>
    bif okD o.dst then
      match gdE F o.g with
      | none => none
      | some false => rOps P keep d call os (putR o.dst (.tup []) F) H
      | some true =>
        match calleeE o.op (ev F) with
        | some p =>
          match call p.1 p.2 H with
          | none => none
          | some (x, none) => rOps P keep d call os (putR o.dst x F) H
          | some (x, some H') => bif keep || !keepD d H H' then none else rOps P keep d call os (putR o.dst x F) H'
        | none =>
          bif lateB d o.op (ev F) then
            match aopE P o.op (ev F) H with
            | none => none
            | some (x, H') => rOps P keep d call os (putR o.dst x F) H'
          else none
    else none
section
variable {P : Program} {N n m : Nat} {d : Option Nat} {q keep : Bool} {call : Caller}
theorem rOps_ok (hcall : CallOk P call) : ∀ (os : List LOp) (F : FT) (H : AHeap) (F' : FT) (H' : AHeap), rOps P keep d call os F H = some (F', H') → ∀ G, getT F = look G → AOpsL P os G H (fun G' H1 => getT F' = look G' ∧ H1 = H')
  | [], F, H, F', H', h, G, hG => by
    simp only [rOps, Option.some.injEq, Prod.mk.injEq] at h
    obtain ⟨rfl, rfl⟩ := h
    exact ⟨hG, rfl⟩
  | o :: os, F, H, F', H', h, G, hG => by
    unfold rOps at h
    unfold AOpsL
    cases hd : okD o.dst with
    | false => rw [hd] at h; cases h
    | true =>
    rw [hd, cond_true] at h
    rw [gdE_eq hG, ev_eq hG, calleeE_eq, aopE_eq] at h
    cases hg : gdL G o.g with
    | none => rw [hg] at h; cases h
    | some b =>
      rw [hg] at h
      cases b
      · exact rOps_ok hcall os _ _ _ _ h _ (look_putR hG hd _)
      · simp only at h ⊢
        unfold AOp
        cases hc : calleeOf o.op G with
        | some p =>
          rw [hc] at h
          simp only at h ⊢
          cases hk : call p.1 p.2 H with
          | none => rw [hk] at h; cases h
          | some r =>
            obtain ⟨x, mm⟩ := r
            rw [hk] at h
            obtain ⟨h1, h1', h2⟩ := hcall _ _ _ _ _ hk
            cases mm with
            | none =>
              have key := rOps_ok hcall os _ _ _ _ h _ (look_putR hG hd x)
              exact ⟨h1, h2.mono fun y H1 hy => by rw [hy.1, hy.2]; exact key⟩
            | some H2 =>
              have h' : rOps P keep d call os (putR o.dst x F) H2 = some (F', H') := by
                simp only at h
                cases hqq : (keep || !keepD d H H2)
                · rw [hqq] at h; exact h
                · rw [hqq] at h; cases h
              have key := rOps_ok hcall os _ _ _ _ h' _ (look_putR hG hd x)
              exact ⟨h1, h2.mono fun y H1 hy => by rw [hy.1, hy.2]; exact key⟩
        | none =>
          rw [hc] at h
          simp only at h ⊢
          cases hlt : lateB d o.op (aev G) with
          | false => rw [hlt] at h; cases h
          | true =>
          rw [hlt, cond_true] at h
          cases hx : aop P o.op G H with
          | none => rw [hx] at h; cases h
          | some r =>
            obtain ⟨x, H1⟩ := r
            rw [hx] at h
            exact ⟨_, rfl, rOps_ok hcall os _ _ _ _ h _ (look_putR hG hd _)⟩
theorem rOpsD_ok (hcall : CallOk P call) : ∀ (os : List LOp) (F : FT) (H : AHeap) (F' : FT) (H' : AHeap), rOps P q (some m) call os F H = some (F', H') → ∀ G, getT F = look G → AOpsDL P q m os G H (fun G' H1 => getT F' = look G' ∧ H1 = H')
  | [], F, H, F', H', h, G, hG => by
    simp only [rOps, Option.some.injEq, Prod.mk.injEq] at h
    obtain ⟨rfl, rfl⟩ := h
    exact ⟨hG, rfl⟩
  | o :: os, F, H, F', H', h, G, hG => by
    unfold rOps at h
    unfold AOpsDL
    cases hd : okD o.dst with
    | false => rw [hd] at h; cases h
    | true =>
    rw [hd, cond_true] at h
    rw [gdE_eq hG, ev_eq hG, calleeE_eq, aopE_eq] at h
    cases hg : gdL G o.g with
    | none => rw [hg] at h; cases h
    | some b =>
      rw [hg] at h
      cases b
      · exact rOpsD_ok hcall os _ _ _ _ h _ (look_putR hG hd _)
      · simp only at h ⊢
        unfold AOpD
        cases hc : calleeOf o.op G with
        | some p =>
          rw [hc] at h
          simp only at h ⊢
          cases hk : call p.1 p.2 H with
          | none => rw [hk] at h; cases h
          | some r =>
            obtain ⟨x, mm⟩ := r
            rw [hk] at h
            obtain ⟨h1, h1', h2⟩ := hcall _ _ _ _ _ hk
            cases mm with
            | none =>
              have key := rOpsD_ok hcall os _ _ _ _ h _ (look_putR hG hd x)
              exact ⟨h1, x, H, fun _ => rfl, ⟨Nat.le_refl _, fun _ _ => rfl⟩, h2, key⟩
            | some H2 =>
              have hqq : q = false ∧ keepD (some m) H H2 = true := by
                cases hqq : (q || !keepD (some m) H H2)
                · simpa using hqq
                · simp only [hqq] at h; cases h
              obtain ⟨hqf, hkb⟩ := hqq
              have h' : rOps P q (some m) call os (putR o.dst x F) H2 = some (F', H') := by
                simp only at h
                rw [hqf, hkb] at h
                rw [hqf]; exact h
              have key := rOpsD_ok hcall os _ _ _ _ h' _ (look_putR hG hd x)
              exact ⟨h1, x, H2, (fun hq => by rw [hqf] at hq; cases hq), ⟨h1', keepsB_ok (H := H) (H' := H2) hkb⟩, h2, key⟩
        | none =>
          rw [hc] at h
          simp only at h ⊢
          cases hlt : lateB (some m) o.op (aev G) with
          | false => rw [hlt] at h; cases h
          | true =>
          rw [hlt, cond_true] at h
          cases hx : aop P o.op G H with
          | none => rw [hx] at h; cases h
          | some r =>
            obtain ⟨x, H1⟩ := r
            rw [hx] at h
            exact ⟨lateB_ok hlt, _, rfl, rOpsD_ok hcall os _ _ _ _ h _ (look_putR hG hd _)⟩
/-- Code, run (n: how many blocks were there). -/
def rCode (P : Program) (q : Bool) (n : Nat) (call : Caller) : Nat → Code → FT → AHeap → Option (Exit × FT × AHeap)
  | 0, _, _, _ => none
  | k + 1, .seq a b, F, H =>
    match rCode P q n call k a F H with
    | some (.normal, F1, H1) => rCode P q n call k b F1 H1
    | r => r
  | k + 1, .cond c a b, F, H =>
    match ev F c with
    | .bool true => rCode P q n call k a F H
    | .bool false => rCode P q n call k b F H
    | _ => none
  | k + 1, .block id c, F, H =>
    match rCode P q n call k c F H with
    | some (.exit id', F1, H1) => some (bif id' == id then .normal else .exit id', F1, H1)
    | r => r
  | k + 1, .loop c, F, H =>
    bif Nat.ble n H.length then
      match rCode P q n call k c F H with
      | some (.normal, F1, H1) => rCode P q n call k (.loop c) F1 H1
      | r => r
    else none
  | _ + 1, .region _ ops draw, F, H => (rOps P (draw && q) (bif draw then some H.length else none) call (ops.toList.map (lightOf (dsts ops))) F H).map fun r => (.normal, r.1, r.2)
  | _ + 1, .skip, F, H => some (.normal, F, H)
  | _ + 1, .label _, F, H => some (.normal, F, H)
  | _ + 1, .exit id, F, H => some (.exit id, F, H)
  | _ + 1, .ret, F, H => some (.ret, F, H)
  | _ + 1, _, _, _ => none
theorem Rel.env {E E' : Env} {x : AV} {v : Value} (h : Rel E x v) (hn : E'.n = E.n) (hl : ∀ b, E'.loc b = E.loc b) : Rel E' x v := by
  induction h with
  | any v => exact .any v
  | int k n => exact .int k n
  | bool b => exact .bool b
  | str s => exact .str s
  | nilptr => exact .nilptr
  | ptr b o hb => rw [← hl b]; exact .ptr b o (by rw [hn]; exact hb)
  | nilsl => exact .nilsl
  | nils b cap hb hc => exact .nils b cap (by rw [hn]; exact hb) hc
  | sl b o len cap c a hb h1 h2 h3 h4 h5 => exact .sl b o len cap c a (by rw [hn]; exact hb) h1 h2 h3 (by rw [hl]; exact h4) (by rw [hl]; exact h5)
  | nilmp => exact .nilmp
  | mp b hb => rw [← hl b]; exact .mp b (by rw [hn]; exact hb)
  | nilfn => exact .nilfn
  | fn f caps cs hl' _ ih => exact .fn f caps cs hl' ih
  | agg xs cs hl' _ ih => exact .agg xs cs hl' ih
  | tup xs cs hl' _ ih => exact .tup xs cs hl' ih
theorem RelL.env {E E' : Env} {xs : List AV} {vs : List Value} (h : RelL E xs vs) (hn : E'.n = E.n) (hl : ∀ b, E'.loc b = E.loc b) : RelL E' xs vs := ⟨h.1, fun i x v hx hv => (h.2 i x v hx hv).env hn hl⟩
theorem BlkOk.env {E E' : Env} {w : World} {L : Loc} {x : ABlk} (h : BlkOk E w L x) (hB : E'.B = E.B) (hn : E'.n = E.n) (hl : ∀ b, E'.loc b = E.loc b) : BlkOk E' w L x := by
  cases x with
  | dead => trivial
  | cells own es xs =>
    obtain ⟨h1, h2, h3, h4⟩ := h
    refine ⟨fun j x hj => ?_, fun ho => by rw [hB]; exact h2 ho, fun ho hl => by rw [hB]; exact h3 ho hl, h4⟩
    obtain ⟨a, v, hv, hr⟩ := h1 j x hj
    exact ⟨a, v, hv, hr.env hn hl⟩
  | map es =>
    obtain ⟨h1, h2, ents, clock, h3, h4, h5⟩ := h
    exact ⟨by rw [hB]; exact h1, h2, ents, clock, h3, h4.env hn hl, h5.env hn hl⟩
theorem Abs0.same (n : Nat) {F G : Fr} (h : look F = look G) {H : AHeap} (hn : n ≤ H.length) : Abs0 n id F H G H where
  small _ _ := rfl
  len := hn
  frame E E' h1 h2 h3 t v hv := by
    rw [← h]
    exact hv.env (h2.trans h1.symm) h3
  heap E E' h1 h2 h3 h4 w hw b x hx := by
    rw [h4 b]
    exact (hw b x hx).env h3 (h2.trans h1.symm) h4
  inj b c x y hx hy ox oy hbc := ⟨hbc, ⟨x, hx, ox⟩, y, hy, oy⟩
theorem Abs.same (n : Nat) {F G : Fr} (h : look F = look G) {H : AHeap} (hn : n ≤ H.length) : Abs n id F H G H := (Abs0.same n h hn).abs
/-- What a run says. -/
def Ran (q : Bool) (N n : Nat) (P : Program) (r : Exit × FT × AHeap) (c : Code) (F : FT) (H : AHeap) : Prop :=
  ∀ G, getT F = look G → AW P N n c (fun e G1 H1 => e = r.1 ∧ getT r.2.1 = look G1 ∧ H1 = r.2.2) G H
theorem rCode_ok (hm : P.follows .mixedOrders = true) (hcall : CallOk P call) : ∀ (K k : Nat), k ≤ K → ∀ c, codeOk N q c = true → ∀ (F : FT) (H : AHeap) (r : Exit × FT × AHeap), rCode P q n call k c F H = some r → Ran q N n P r c F H
  | K, 0, _, c, _, F, H, r, h => by unfold rCode at h; cases h
  | 0, k + 1, hk, _, _, _, _, _, _ => by omega
  | K + 1, k + 1, hk, c, hc, F, H, r, h => by
    have IH := rCode_ok hm hcall K
    intro G hG
    cases c with
    | skip =>
      simp only [rCode, Option.some.injEq] at h
      subst h
      exact AW_skip ⟨rfl, hG, rfl⟩
    | label l =>
      simp only [rCode, Option.some.injEq] at h
      subst h
      exact AW_label ⟨rfl, hG, rfl⟩
    | exit id =>
      simp only [rCode, Option.some.injEq] at h
      subst h
      exact AW_exit ⟨rfl, hG, rfl⟩
    | ret =>
      simp only [rCode, Option.some.injEq] at h
      subst h
      exact AW_ret ⟨rfl, hG, rfl⟩
    | seq a b =>
      simp only [codeOk, Bool.and_eq_true] at hc
      unfold rCode at h
      cases ha : rCode P q n call k a F H with
      | none => rw [ha] at h; cases h
      | some r1 =>
        obtain ⟨e1, F1, H1⟩ := r1
        rw [ha] at h
        refine AW_seq (AW.mono (IH k (by omega) a hc.1 F H _ ha G hG) ?_)
        rintro e G1 H2 ⟨h1, h2, h3⟩
        simp only at h1 h2 h3
        rw [h1, h3]
        cases e1 with
        | normal => exact IH k (by omega) b hc.2 F1 H1 _ h G1 h2
        | exit id => simp only [Option.some.injEq] at h; subst h; exact ⟨rfl, h2, rfl⟩
        | goto id => simp only [Option.some.injEq] at h; subst h; exact ⟨rfl, h2, rfl⟩
        | ret => simp only [Option.some.injEq] at h; subst h; exact ⟨rfl, h2, rfl⟩
        | panic ch => simp only [Option.some.injEq] at h; subst h; exact ⟨rfl, h2, rfl⟩
        | outgrown => simp only [Option.some.injEq] at h; subst h; exact ⟨rfl, h2, rfl⟩
    | cond c a b =>
      simp only [codeOk, Bool.and_eq_true] at hc
      unfold rCode at h
      rw [ev_eq hG] at h
      cases ht : aev G c with
      | bool t =>
        rw [ht] at h
        cases t with
        | true => exact AW_cond true ht (fun _ => IH k (by omega) a hc.1 F H _ h G hG) (fun e => by cases e)
        | false => exact AW_cond false ht (fun e => by cases e) (fun _ => IH k (by omega) b hc.2 F H _ h G hG)
      | _ => rw [ht] at h; cases h
    | block id c =>
      simp only [codeOk] at hc
      unfold rCode at h
      cases ha : rCode P q n call k c F H with
      | none => rw [ha] at h; cases h
      | some r1 =>
        obtain ⟨e1, F1, H1⟩ := r1
        rw [ha] at h
        refine AW_block (AW.mono (IH k (by omega) c hc F H _ ha G hG) ?_)
        rintro e G1 H2 ⟨h1, h2, h3⟩
        simp only at h1 h2 h3
        rw [h1, h3]
        cases e1 with
        | exit id' =>
          simp only [Option.some.injEq] at h
          subst h
          show (if id' = id then _ else _)
          by_cases e : id' = id
          · rw [if_pos e]; simp [e, h2]
          · have hb : (id' == id) = false := by simp [e]
            rw [if_neg e, hb]; exact ⟨rfl, h2, rfl⟩
        | normal => simp only [Option.some.injEq] at h; subst h; exact ⟨rfl, h2, rfl⟩
        | goto id => simp only [Option.some.injEq] at h; subst h; exact ⟨rfl, h2, rfl⟩
        | ret => simp only [Option.some.injEq] at h; subst h; exact ⟨rfl, h2, rfl⟩
        | panic ch => simp only [Option.some.injEq] at h; subst h; exact ⟨rfl, h2, rfl⟩
        | outgrown => simp only [Option.some.injEq] at h; subst h; exact ⟨rfl, h2, rfl⟩
    | loop c =>
      simp only [codeOk] at hc
      have nle : ∀ j F H, rCode P q n call j (.loop c) F H = some r → n ≤ H.length := fun j F H hh => by
        cases j with
        | zero => unfold rCode at hh; cases hh
        | succ j =>
          unfold rCode at hh
          cases hb : Nat.ble n H.length
          · rw [hb] at hh; cases hh
          · exact Nat.le_of_ble_eq_true hb
      refine AW_loop (fun j F' H' => j ≤ k + 1 ∧ ∃ F0, getT F0 = look F' ∧ rCode P q n call j (.loop c) F0 H' = some r) (k + 1) ⟨id, G, H, ⟨Nat.le_refl _, F, hG, h⟩, Abs.same n rfl (nle _ _ _ h)⟩ ?_
      rintro j F1 H1 ⟨hj, F0, hF0, hr⟩
      cases j with
      | zero => unfold rCode at hr; cases hr
      | succ j =>
        have hn := nle _ _ _ hr
        unfold rCode at hr
        rw [Nat.ble_eq_true_of_le hn, cond_true] at hr
        cases ha : rCode P q n call j c F0 H1 with
        | none => rw [ha] at hr; cases hr
        | some r1 =>
          obtain ⟨e1, F2, H2⟩ := r1
          rw [ha] at hr
          refine AW.mono (IH j (by omega) c hc F0 H1 _ ha F1 hF0) ?_
          rintro e G1 H3 ⟨h1, h2, h3⟩
          simp only at h1 h2 h3
          rw [h1, h3]
          cases e1 with
          | normal => exact ⟨j, by omega, id, G1, H2, ⟨by omega, F2, h2, hr⟩, Abs.same n rfl (nle _ _ _ hr)⟩
          | exit id => simp only [Option.some.injEq] at hr; subst hr; exact ⟨rfl, h2, rfl⟩
          | goto id => simp only [Option.some.injEq] at hr; subst hr; exact ⟨rfl, h2, rfl⟩
          | ret => simp only [Option.some.injEq] at hr; subst hr; exact ⟨rfl, h2, rfl⟩
          | panic ch => simp only [Option.some.injEq] at hr; subst hr; exact ⟨rfl, h2, rfl⟩
          | outgrown => simp only [Option.some.injEq] at hr; subst hr; exact ⟨rfl, h2, rfl⟩
    | region id ops draw =>
      unfold rCode at h
      simp only [Option.map_eq_some_iff] at h
      obtain ⟨⟨F1, H1⟩, h1, h2⟩ := h
      subst h2
      refine AW_of hm _ hc _ _ _ ?_
      cases draw with
      | false => exact AOpsL.mono (fun F H hh => ⟨rfl, hh⟩) _ _ _ (rOps_ok hcall _ _ _ _ _ h1 G hG)
      | true => exact AOpsDL.mono (fun F H hh => ⟨rfl, hh⟩) _ _ _ (rOpsD_ok hcall _ _ _ _ _ h1 G hG)
    | _ => unfold rCode at h; cases h
def lookT : List (Nat × Bool × Func) → Nat → Option (Bool × Func)
  | [], _ => none
  | p :: r, f => bif Nat.beq p.1 f then some p.2 else lookT r f
/-- A function, run: what it hands back, and the memory if it has changed. -/
def rFun (P : Program) (ext : Caller) (tb : List (Nat × Bool × Func)) (fuel : Nat) : Nat → Caller
  | 0, _, _, _ => none
  | k + 1, f, args, H =>
    match lookT tb f with
    | none => ext f args H
    | some (q, fn) =>
      match fn.body with
      | none => none
      | some c =>
        bif Nat.ble args.length fn.ntmps && Nat.ble args.length 1024 then
          match rCode P q H.length (rFun P ext tb fuel k) fuel c (argT 0 args) H with
          | none => none
          | some (e, F', H') =>
            bif (match e with | .ret => true | .normal => true | _ => false) then
              match (aResE P fn.results.toList F' H').map one1 with
              | none => none
              | some x => bif x.bel 0 && prefixB H H' then some (x, none) else bif Nat.ble H.length H'.length then some (x, some H') else none
            else none
        else none
/-- The functions of a table can be entered, and their regions are as the machine wants them. -/
inductive TbOk (P : Program) : List (Nat × Bool × Func) → Prop where
  | nil : TbOk P []
  | cons {f : Nat} {q : Bool} {fn : Func} {r : List (Nat × Bool × Func)} : okFn P f = true → P.funcs[f]? = some fn → (fn.body.map (codeOk fn.ntmps q)) = some true → TbOk P r → TbOk P ((f, q, fn) :: r)
theorem lookT_ok {P : Program} : ∀ {tb : List (Nat × Bool × Func)}, TbOk P tb → ∀ {f : Nat} {q : Bool} {fn : Func}, lookT tb f = some (q, fn) → okFn P f = true ∧ P.funcs[f]? = some fn ∧ (fn.body.map (codeOk fn.ntmps q)) = some true
  | _, .nil, f, q, fn, h => by cases h
  | _, .cons (f := g) h1 h2 h3 hr, f, q, fn, h => by
    unfold lookT at h
    cases hp : Nat.beq g f
    · simp only [hp, cond_false] at h
      exact lookT_ok hr h
    · simp only [hp, cond_true, Option.some.injEq, Prod.mk.injEq] at h
      have e : g = f := Nat.eq_of_beq_eq_true hp
      obtain ⟨rfl, rfl⟩ := h
      subst e
      exact ⟨h1, h2, h3⟩
theorem rFun_ok (hm : P.follows .mixedOrders = true) {ext : Caller} (hext : CallOk P ext) (tb : List (Nat × Bool × Func)) (htb : TbOk P tb) (fuel : Nat) : ∀ k, CallOk P (rFun P ext tb fuel k)
  | 0 => fun f args H x o h => by unfold rFun at h; cases h
  | k + 1 => fun f args H x o h => by
    have IH := rFun_ok hm hext tb htb fuel k
    unfold rFun at h
    cases hq : lookT tb f with
    | none => rw [hq] at h; exact hext f args H x o h
    | some p =>
      obtain ⟨q, fn⟩ := p
      rw [hq] at h
      obtain ⟨ht1, hf, ht2⟩ := lookT_ok htb hq
      refine ⟨ht1, ?_⟩
      suffices hall : H.length ≤ (o.getD H).length ∧ ACalls P f args H (fun y H1 => y = x ∧ H1 = o.getD H) from hall
      simp only at h
      cases hb : fn.body with
      | none => rw [hb] at h; cases h
      | some c =>
        rw [hb] at h ht2
        simp only [Option.map_some, Option.some.injEq] at h ht2
        cases hN : Nat.ble args.length fn.ntmps && Nat.ble args.length 1024
        · rw [hN] at h; cases h
        · rw [hN, cond_true] at h
          simp only [Bool.and_eq_true] at hN
          cases hr : rCode P q H.length (rFun P ext tb fuel k) fuel c (argT 0 args) H with
          | none => rw [hr] at h; cases h
          | some r =>
            obtain ⟨e, F', H'⟩ := r
            rw [hr] at h
            simp only at h
            have he : e = .ret ∨ e = .normal := by
              cases e <;> first | exact .inl rfl | exact .inr rfl | (simp at h)
            have h' : (match (aResE P fn.results.toList F' H').map one1 with
              | none => none
              | some x => bif x.bel 0 && prefixB H H' then some (x, none) else bif Nat.ble H.length H'.length then some (x, some H') else none) = some (x, o) := by
              rcases he with rfl | rfl <;> exact h
            clear h
            cases hx : (aResE P fn.results.toList F' H').map one1 with
            | none => rw [hx] at h'; cases h'
            | some y =>
              rw [hx] at h'
              simp only at h'
              have key : ∀ (R : AV → AHeap → Prop), (∀ G1, aResult P fn G1 H' = some y → HBel H.length H → AEnd P fn H.length R e G1 H') → ACalls P f args H R := fun R hR => by
                refine ACalls_of hf hb rfl (Nat.le_of_ble_eq_true hN.1) fun hbel => AW.mono (rCode_ok hm IH fuel fuel (Nat.le_refl _) c ht2 _ _ _ hr _ (argT_eq args 0 (by have := Nat.le_of_ble_eq_true hN.2; omega))) ?_
                rintro e1 G1 H1 ⟨h1, h2, h3⟩
                simp only at h1 h2 h3
                rw [h1, h3]
                exact hR G1 (by unfold aResult; rw [← aResE_eq h2]; exact hx) hbel
              cases hp : y.bel 0 && prefixB H H'
              · rw [hp, cond_false] at h'
                cases hle : Nat.ble H.length H'.length
                · rw [hle] at h'; cases h'
                · rw [hle, cond_true] at h'
                  simp only [Option.some.injEq, Prod.mk.injEq] at h'
                  obtain ⟨rfl, rfl⟩ := h'
                  refine ⟨Nat.le_of_ble_eq_true hle, key _ fun G1 hG1 _ => ?_⟩
                  have : ∃ x1, aResult P fn G1 H' = some x1 ∧ ∃ σ x2 H2, (x2 = y ∧ H2 = (some H').getD H) ∧ Abs H.length σ [(0, x1)] H' [(0, x2)] H2 :=
                    ⟨y, hG1, id, y, H', ⟨rfl, rfl⟩, Abs.same _ rfl (Nat.le_of_ble_eq_true hle)⟩
                  rcases he with rfl | rfl <;> exact this
              · rw [hp, cond_true] at h'
                simp only [Option.some.injEq, Prod.mk.injEq] at h'
                obtain ⟨rfl, rfl⟩ := h'
                simp only [Bool.and_eq_true] at hp
                obtain ⟨l, rfl⟩ := prefixB_eq hp.2
                exact ⟨Nat.le_refl _, key _ fun G1 hG1 hbel => end_plain he hbel hG1 hp.1 ⟨rfl, rfl⟩⟩
/-- A call at known arguments, by the kernel's own run. -/
theorem ran (hm : P.follows .mixedOrders = true) {ext : Caller} (hext : CallOk P ext) (tb : List (Nat × Bool × Func)) (htb : TbOk P tb) (fuel k : Nat) {f : FuncId} {args : List AV} {H : AHeap} {x : AV} {o : Option AHeap} (h : rFun P ext tb fuel k f args H = some (x, o)) : ACalls P f args H (fun y H1 => y = x ∧ H1 = o.getD H) :=
  (rFun_ok hm hext tb htb fuel k f args H x o h).2.2
theorem rel_closed {E E' : Env} {x : AV} {v : Value} (h : Rel E x v) : x.bel 0 = true → Rel E' x v := by
  induction h with
  | any v => exact fun _ => .any v
  | int k n => exact fun _ => .int k n
  | bool b => exact fun _ => .bool b
  | str s => exact fun _ => .str s
  | nilptr => exact fun _ => .nilptr
  | ptr b o hb => exact fun hx => by simp [AV.bel] at hx
  | nilsl => exact fun _ => .nilsl
  | nils b cap hb hc => exact fun hx => by simp [AV.bel] at hx
  | sl b o len cap c a hb h1 h2 h3 h4 h5 => exact fun hx => by simp [AV.bel] at hx
  | nilmp => exact fun _ => .nilmp
  | mp b hb => exact fun hx => by simp [AV.bel] at hx
  | nilfn => exact fun _ => .nilfn
  | fn f caps cs hl _ ih => exact fun hx => .fn f caps cs hl fun i x v h1 h2 => ih i x v h1 h2 (by simp only [AV.bel, AV.bels_eq] at hx; exact List.all_eq_true.1 hx _ (List.mem_of_getElem? h1))
  | agg xs cs hl _ ih => exact fun hx => .agg xs cs hl fun i x v h1 h2 => ih i x v h1 h2 (by simp only [AV.bel, AV.bels_eq] at hx; exact List.all_eq_true.1 hx _ (List.mem_of_getElem? h1))
  | tup xs cs hl _ ih => exact fun hx => .tup xs cs hl fun i x v h1 h2 => ih i x v h1 h2 (by simp only [AV.bel, AV.bels_eq] at hx; exact List.all_eq_true.1 hx _ (List.mem_of_getElem? h1))
/-- A call that takes and hands back plain values and leaves an empty memory empty leaves any memory as it was. -/
theorem ACalls.closed {f : FuncId} {args : List AV} {x : AV} (h : ACalls P f args [] (fun y H1 => y = x ∧ H1 = [])) (ha : args.all (AV.bel 0) = true) (hx : x.bel 0 = true) (H : AHeap) : ACalls P f args H (fun y H1 => y = x ∧ H1 = H) := by
  intro E w vs hE hv
  let E0 : Env := ⟨w.heap.size, w, 0, fun _ => ⟨0, 0, 0, 0⟩⟩
  have hE0 : Emb E0 [] w := ⟨rfl, Below.refl _ _, Nat.le_refl _, fun b x h => by simp at h, fun b c x y h => by simp at h⟩
  refine (h E0 w vs hE0 ⟨hv.1, fun i y v h1 h2 => rel_closed (hv.2 i y v h1 h2) (List.all_eq_true.1 ha _ (List.mem_of_getElem? h1))⟩).mono ?_
  rintro e w' ⟨E', v, H', y, he, ⟨rfl, rfl⟩, hle, hr, hemb⟩
  have hb := hemb.below
  rw [hle.B, hle.w0] at hb
  exact ⟨E, v, H, y, he, ⟨rfl, rfl⟩, .refl E, rel_closed hr hx, hE.up hb⟩
end
/-- The functions that the machine can enter. -/
noncomputable def tb : List (Nat × Bool × Func) := [(2, false, Tryz.f2), (3, false, Tryz.f3), (4, false, Tryz.f4), (5, false, Tryz.f5), (8, false, Tryz.f8), (9, false, Tryz.f9), (10, false, Tryz.f10), (11, false, Tryz.f11), (12, false, Tryz.f12), (14, false, Tryz.f14), (15, false, Tryz.f15), (16, false, Tryz.f16), (17, false, Tryz.f17), (18, false, Tryz.f18), (19, false, Tryz.f19), (20, false, Tryz.f20), (21, false, Tryz.f21), (22, false, Tryz.f22), (24, false, Tryz.f24), (25, false, Tryz.f25), (26, false, Tryz.f26), (28, false, Tryz.f28), (29, false, Tryz.f29), (30, false, Tryz.f30), (31, false, Tryz.f31), (32, false, Tryz.f32), (33, false, Tryz.f33), (34, false, Tryz.f34), (35, false, Tryz.f35), (36, false, Tryz.f36), (37, false, Tryz.f37), (38, false, Tryz.f38), (39, false, Tryz.f39), (40, false, Tryz.f40), (41, false, Tryz.f41), (42, false, Tryz.f42), (43, false, Tryz.f43), (44, false, Tryz.f44), (45, false, Tryz.f45), (46, false, Tryz.f46), (47, false, Tryz.f47), (48, false, Tryz.f48), (49, false, Tryz.f49), (50, false, Tryz.f50), (51, false, Tryz.f51), (52, false, Tryz.f52), (53, false, Tryz.f53), (54, false, Tryz.f54), (55, false, Tryz.f55), (56, false, Tryz.f56), (57, false, Tryz.f57), (58, false, Tryz.f58), (59, false, Tryz.f59), (60, false, Tryz.f60), (61, false, Tryz.f61), (62, false, Tryz.f62), (63, false, Tryz.f63), (64, false, Tryz.f64), (65, false, Tryz.f65), (66, false, Tryz.f66), (67, false, Tryz.f67), (69, false, Tryz.f69), (70, false, Tryz.f70), (71, false, Tryz.f71), (72, false, Tryz.f72), (73, false, Tryz.f73), (74, false, Tryz.f74), (75, false, Tryz.f75), (76, false, Tryz.f76), (77, false, Tryz.f77), (78, false, Tryz.f78), (79, false, Tryz.f79), (80, false, Tryz.f80), (81, false, Tryz.f81), (82, false, Tryz.f82), (83, false, Tryz.f83), (84, false, Tryz.f84), (85, false, Tryz.f85), (86, false, Tryz.f86), (87, false, Tryz.f87), (88, false, Tryz.f88), (89, false, Tryz.f89), (90, false, Tryz.f90), (91, false, Tryz.f91), (92, false, Tryz.f92), (93, false, Tryz.f93), (94, false, Tryz.f94), (95, false, Tryz.f95), (96, false, Tryz.f96), (97, false, Tryz.f97), (98, false, Tryz.f98), (99, false, Tryz.f99), (100, false, Tryz.f100), (101, false, Tryz.f101), (104, false, Tryz.f104), (105, false, Tryz.f105), (106, false, Tryz.f106), (107, false, Tryz.f107), (108, false, Tryz.f108), (109, false, Tryz.f109), (110, false, Tryz.f110), (111, false, Tryz.f111), (112, false, Tryz.f112), (113, false, Tryz.f113), (114, false, Tryz.f114), (115, false, Tryz.f115), (116, false, Tryz.f116), (117, false, Tryz.f117), (118, false, Tryz.f118), (119, false, Tryz.f119), (120, false, Tryz.f120), (121, false, Tryz.f121), (122, false, Tryz.f122), (123, false, Tryz.f123), (124, false, Tryz.f124), (125, false, Tryz.f125), (126, false, Tryz.f126), (127, false, Tryz.f127), (128, false, Tryz.f128), (129, false, Tryz.f129), (130, false, Tryz.f130), (131, false, Tryz.f131), (132, false, Tryz.f132), (133, false, Tryz.f133), (134, false, Tryz.f134), (135, false, Tryz.f135), (136, false, Tryz.f136), (137, false, Tryz.f137), (138, false, Tryz.f138), (139, false, Tryz.f139), (140, false, Tryz.f140), (141, false, Tryz.f141), (142, false, Tryz.f142), (143, false, Tryz.f143), (144, false, Tryz.f144), (145, false, Tryz.f145), (146, false, Tryz.f146), (147, false, Tryz.f147), (148, false, Tryz.f148), (149, false, Tryz.f149), (150, false, Tryz.f150), (151, false, Tryz.f151), (152, false, Tryz.f152), (153, false, Tryz.f153), (154, false, Tryz.f154), (155, false, Tryz.f155), (156, false, Tryz.f156), (157, false, Tryz.f157), (158, false, Tryz.f158), (159, false, Tryz.f159), (160, false, Tryz.f160), (161, false, Tryz.f161), (162, false, Tryz.f162), (163, false, Tryz.f163), (164, false, Tryz.f164), (165, false, Tryz.f165), (166, false, Tryz.f166), (167, false, Tryz.f167), (168, false, Tryz.f168), (169, false, Tryz.f169), (170, false, Tryz.f170), (171, false, Tryz.f171), (172, false, Tryz.f172), (173, false, Tryz.f173), (174, false, Tryz.f174), (175, false, Tryz.f175), (177, false, Tryz.f177), (178, false, Tryz.f178), (179, false, Tryz.f179), (180, false, Tryz.f180), (181, false, Tryz.f181), (182, false, Tryz.f182), (183, false, Tryz.f183), (184, false, Tryz.f184), (185, false, Tryz.f185), (186, false, Tryz.f186), (187, false, Tryz.f187), (188, false, Tryz.f188), (191, false, Tryz.f191), (192, false, Tryz.f192), (193, false, Tryz.f193), (194, false, Tryz.f194), (195, false, Tryz.f195), (196, false, Tryz.f196)]
theorem tb_ok : TbOk Tryz.prog tb :=
  .cons (by kernel_rfl) Tryz.func2 (by kernel_rfl) (
  .cons (by kernel_rfl) Tryz.func3 (by kernel_rfl) (
  .cons (by kernel_rfl) Tryz.func4 (by kernel_rfl) (
  .cons (by kernel_rfl) Tryz.func5 (by kernel_rfl) (
  .cons (by kernel_rfl) Tryz.func8 (by kernel_rfl) (
  .cons (by kernel_rfl) Tryz.func9 (by kernel_rfl) (
  .cons (by kernel_rfl) Tryz.func10 (by kernel_rfl) (
  .cons (by kernel_rfl) Tryz.func11 (by kernel_rfl) (
  .cons (by kernel_rfl) Tryz.func12 (by kernel_rfl) (
  .cons (by kernel_rfl) Tryz.func14 (by kernel_rfl) (
  .cons (by kernel_rfl) Tryz.func15 (by kernel_rfl) (
  .cons (by kernel_rfl) Tryz.func16 (by kernel_rfl) (
  .cons (by kernel_rfl) Tryz.func17 (by kernel_rfl) (
  .cons (by kernel_rfl) Tryz.func18 (by kernel_rfl) (
  .cons (by kernel_rfl) Tryz.func19 (by kernel_rfl) (
  .cons (by kernel_rfl) Tryz.func20 (by kernel_rfl) (
  .cons (by kernel_rfl) Tryz.func21 (by kernel_rfl) (
  .cons (by kernel_rfl) Tryz.func22 (by kernel_rfl) (
  .cons (by kernel_rfl) Tryz.func24 (by kernel_rfl) (
  .cons (by kernel_rfl) Tryz.func25 (by kernel_rfl) (
  .cons (by kernel_rfl) Tryz.func26 (by kernel_rfl) (
  .cons (by kernel_rfl) Tryz.func28 (by kernel_rfl) (
  .cons (by kernel_rfl) Tryz.func29 (by kernel_rfl) (
  .cons (by kernel_rfl) Tryz.func30 (by kernel_rfl) (
  .cons (by kernel_rfl) Tryz.func31 (by kernel_rfl) (
  .cons (by kernel_rfl) Tryz.func32 (by kernel_rfl) (
  .cons (by kernel_rfl) Tryz.func33 (by kernel_rfl) (
  .cons (by kernel_rfl) Tryz.func34 (by kernel_rfl) (
  .cons (by kernel_rfl) Tryz.func35 (by kernel_rfl) (
  .cons (by kernel_rfl) Tryz.func36 (by kernel_rfl) (
  .cons (by kernel_rfl) Tryz.func37 (by kernel_rfl) (
  .cons (by kernel_rfl) Tryz.func38 (by kernel_rfl) (
  .cons (by kernel_rfl) Tryz.func39 (by kernel_rfl) (
  .cons (by kernel_rfl) Tryz.func40 (by kernel_rfl) (
  .cons (by kernel_rfl) Tryz.func41 (by kernel_rfl) (
  .cons (by kernel_rfl) Tryz.func42 (by kernel_rfl) (
  .cons (by kernel_rfl) Tryz.func43 (by kernel_rfl) (
  .cons (by kernel_rfl) Tryz.func44 (by kernel_rfl) (
  .cons (by kernel_rfl) Tryz.func45 (by kernel_rfl) (
  .cons (by kernel_rfl) Tryz.func46 (by kernel_rfl) (
  .cons (by kernel_rfl) Tryz.func47 (by kernel_rfl) (
  .cons (by kernel_rfl) Tryz.func48 (by kernel_rfl) (
  .cons (by kernel_rfl) Tryz.func49 (by kernel_rfl) (
  .cons (by kernel_rfl) Tryz.func50 (by kernel_rfl) (
  .cons (by kernel_rfl) Tryz.func51 (by kernel_rfl) (
  .cons (by kernel_rfl) Tryz.func52 (by kernel_rfl) (
  .cons (by kernel_rfl) Tryz.func53 (by kernel_rfl) (
  .cons (by kernel_rfl) Tryz.func54 (by kernel_rfl) (
  .cons (by kernel_rfl) Tryz.func55 (by kernel_rfl) (
  .cons (by kernel_rfl) Tryz.func56 (by kernel_rfl) (
  .cons (by kernel_rfl) Tryz.func57 (by kernel_rfl) (
  .cons (by kernel_rfl) Tryz.func58 (by kernel_rfl) (
  .cons (by kernel_rfl) Tryz.func59 (by kernel_rfl) (
  .cons (by kernel_rfl) Tryz.func60 (by kernel_rfl) (
  .cons (by kernel_rfl) Tryz.func61 (by kernel_rfl) (
  .cons (by kernel_rfl) Tryz.func62 (by kernel_rfl) (
  .cons (by kernel_rfl) Tryz.func63 (by kernel_rfl) (
  .cons (by kernel_rfl) Tryz.func64 (by kernel_rfl) (
  .cons (by kernel_rfl) Tryz.func65 (by kernel_rfl) (
  .cons (by kernel_rfl) Tryz.func66 (by kernel_rfl) (
  .cons (by kernel_rfl) Tryz.func67 (by kernel_rfl) (
  .cons (by kernel_rfl) Tryz.func69 (by kernel_rfl) (
  .cons (by kernel_rfl) Tryz.func70 (by kernel_rfl) (
  .cons (by kernel_rfl) Tryz.func71 (by kernel_rfl) (
  .cons (by kernel_rfl) Tryz.func72 (by kernel_rfl) (
  .cons (by kernel_rfl) Tryz.func73 (by kernel_rfl) (
  .cons (by kernel_rfl) Tryz.func74 (by kernel_rfl) (
  .cons (by kernel_rfl) Tryz.func75 (by kernel_rfl) (
  .cons (by kernel_rfl) Tryz.func76 (by kernel_rfl) (
  .cons (by kernel_rfl) Tryz.func77 (by kernel_rfl) (
  .cons (by kernel_rfl) Tryz.func78 (by kernel_rfl) (
  .cons (by kernel_rfl) Tryz.func79 (by kernel_rfl) (
  .cons (by kernel_rfl) Tryz.func80 (by kernel_rfl) (
  .cons (by kernel_rfl) Tryz.func81 (by kernel_rfl) (
  .cons (by kernel_rfl) Tryz.func82 (by kernel_rfl) (
  .cons (by kernel_rfl) Tryz.func83 (by kernel_rfl) (
  .cons (by kernel_rfl) Tryz.func84 (by kernel_rfl) (
  .cons (by kernel_rfl) Tryz.func85 (by kernel_rfl) (
  .cons (by kernel_rfl) Tryz.func86 (by kernel_rfl) (
  .cons (by kernel_rfl) Tryz.func87 (by kernel_rfl) (
  .cons (by kernel_rfl) Tryz.func88 (by kernel_rfl) (
  .cons (by kernel_rfl) Tryz.func89 (by kernel_rfl) (
  .cons (by kernel_rfl) Tryz.func90 (by kernel_rfl) (
  .cons (by kernel_rfl) Tryz.func91 (by kernel_rfl) (
  .cons (by kernel_rfl) Tryz.func92 (by kernel_rfl) (
  .cons (by kernel_rfl) Tryz.func93 (by kernel_rfl) (
  .cons (by kernel_rfl) Tryz.func94 (by kernel_rfl) (
  .cons (by kernel_rfl) Tryz.func95 (by kernel_rfl) (
  .cons (by kernel_rfl) Tryz.func96 (by kernel_rfl) (
  .cons (by kernel_rfl) Tryz.func97 (by kernel_rfl) (
  .cons (by kernel_rfl) Tryz.func98 (by kernel_rfl) (
  .cons (by kernel_rfl) Tryz.func99 (by kernel_rfl) (
  .cons (by kernel_rfl) Tryz.func100 (by kernel_rfl) (
  .cons (by kernel_rfl) Tryz.func101 (by kernel_rfl) (
  .cons (by kernel_rfl) Tryz.func104 (by kernel_rfl) (
  .cons (by kernel_rfl) Tryz.func105 (by kernel_rfl) (
  .cons (by kernel_rfl) Tryz.func106 (by kernel_rfl) (
  .cons (by kernel_rfl) Tryz.func107 (by kernel_rfl) (
  .cons (by kernel_rfl) Tryz.func108 (by kernel_rfl) (
  .cons (by kernel_rfl) Tryz.func109 (by kernel_rfl) (
  .cons (by kernel_rfl) Tryz.func110 (by kernel_rfl) (
  .cons (by kernel_rfl) Tryz.func111 (by kernel_rfl) (
  .cons (by kernel_rfl) Tryz.func112 (by kernel_rfl) (
  .cons (by kernel_rfl) Tryz.func113 (by kernel_rfl) (
  .cons (by kernel_rfl) Tryz.func114 (by kernel_rfl) (
  .cons (by kernel_rfl) Tryz.func115 (by kernel_rfl) (
  .cons (by kernel_rfl) Tryz.func116 (by kernel_rfl) (
  .cons (by kernel_rfl) Tryz.func117 (by kernel_rfl) (
  .cons (by kernel_rfl) Tryz.func118 (by kernel_rfl) (
  .cons (by kernel_rfl) Tryz.func119 (by kernel_rfl) (
  .cons (by kernel_rfl) Tryz.func120 (by kernel_rfl) (
  .cons (by kernel_rfl) Tryz.func121 (by kernel_rfl) (
  .cons (by kernel_rfl) Tryz.func122 (by kernel_rfl) (
  .cons (by kernel_rfl) Tryz.func123 (by kernel_rfl) (
  .cons (by kernel_rfl) Tryz.func124 (by kernel_rfl) (
  .cons (by kernel_rfl) Tryz.func125 (by kernel_rfl) (
  .cons (by kernel_rfl) Tryz.func126 (by kernel_rfl) (
  .cons (by kernel_rfl) Tryz.func127 (by kernel_rfl) (
  .cons (by kernel_rfl) Tryz.func128 (by kernel_rfl) (
  .cons (by kernel_rfl) Tryz.func129 (by kernel_rfl) (
  .cons (by kernel_rfl) Tryz.func130 (by kernel_rfl) (
  .cons (by kernel_rfl) Tryz.func131 (by kernel_rfl) (
  .cons (by kernel_rfl) Tryz.func132 (by kernel_rfl) (
  .cons (by kernel_rfl) Tryz.func133 (by kernel_rfl) (
  .cons (by kernel_rfl) Tryz.func134 (by kernel_rfl) (
  .cons (by kernel_rfl) Tryz.func135 (by kernel_rfl) (
  .cons (by kernel_rfl) Tryz.func136 (by kernel_rfl) (
  .cons (by kernel_rfl) Tryz.func137 (by kernel_rfl) (
  .cons (by kernel_rfl) Tryz.func138 (by kernel_rfl) (
  .cons (by kernel_rfl) Tryz.func139 (by kernel_rfl) (
  .cons (by kernel_rfl) Tryz.func140 (by kernel_rfl) (
  .cons (by kernel_rfl) Tryz.func141 (by kernel_rfl) (
  .cons (by kernel_rfl) Tryz.func142 (by kernel_rfl) (
  .cons (by kernel_rfl) Tryz.func143 (by kernel_rfl) (
  .cons (by kernel_rfl) Tryz.func144 (by kernel_rfl) (
  .cons (by kernel_rfl) Tryz.func145 (by kernel_rfl) (
  .cons (by kernel_rfl) Tryz.func146 (by kernel_rfl) (
  .cons (by kernel_rfl) Tryz.func147 (by kernel_rfl) (
  .cons (by kernel_rfl) Tryz.func148 (by kernel_rfl) (
  .cons (by kernel_rfl) Tryz.func149 (by kernel_rfl) (
  .cons (by kernel_rfl) Tryz.func150 (by kernel_rfl) (
  .cons (by kernel_rfl) Tryz.func151 (by kernel_rfl) (
  .cons (by kernel_rfl) Tryz.func152 (by kernel_rfl) (
  .cons (by kernel_rfl) Tryz.func153 (by kernel_rfl) (
  .cons (by kernel_rfl) Tryz.func154 (by kernel_rfl) (
  .cons (by kernel_rfl) Tryz.func155 (by kernel_rfl) (
  .cons (by kernel_rfl) Tryz.func156 (by kernel_rfl) (
  .cons (by kernel_rfl) Tryz.func157 (by kernel_rfl) (
  .cons (by kernel_rfl) Tryz.func158 (by kernel_rfl) (
  .cons (by kernel_rfl) Tryz.func159 (by kernel_rfl) (
  .cons (by kernel_rfl) Tryz.func160 (by kernel_rfl) (
  .cons (by kernel_rfl) Tryz.func161 (by kernel_rfl) (
  .cons (by kernel_rfl) Tryz.func162 (by kernel_rfl) (
  .cons (by kernel_rfl) Tryz.func163 (by kernel_rfl) (
  .cons (by kernel_rfl) Tryz.func164 (by kernel_rfl) (
  .cons (by kernel_rfl) Tryz.func165 (by kernel_rfl) (
  .cons (by kernel_rfl) Tryz.func166 (by kernel_rfl) (
  .cons (by kernel_rfl) Tryz.func167 (by kernel_rfl) (
  .cons (by kernel_rfl) Tryz.func168 (by kernel_rfl) (
  .cons (by kernel_rfl) Tryz.func169 (by kernel_rfl) (
  .cons (by kernel_rfl) Tryz.func170 (by kernel_rfl) (
  .cons (by kernel_rfl) Tryz.func171 (by kernel_rfl) (
  .cons (by kernel_rfl) Tryz.func172 (by kernel_rfl) (
  .cons (by kernel_rfl) Tryz.func173 (by kernel_rfl) (
  .cons (by kernel_rfl) Tryz.func174 (by kernel_rfl) (
  .cons (by kernel_rfl) Tryz.func175 (by kernel_rfl) (
  .cons (by kernel_rfl) Tryz.func177 (by kernel_rfl) (
  .cons (by kernel_rfl) Tryz.func178 (by kernel_rfl) (
  .cons (by kernel_rfl) Tryz.func179 (by kernel_rfl) (
  .cons (by kernel_rfl) Tryz.func180 (by kernel_rfl) (
  .cons (by kernel_rfl) Tryz.func181 (by kernel_rfl) (
  .cons (by kernel_rfl) Tryz.func182 (by kernel_rfl) (
  .cons (by kernel_rfl) Tryz.func183 (by kernel_rfl) (
  .cons (by kernel_rfl) Tryz.func184 (by kernel_rfl) (
  .cons (by kernel_rfl) Tryz.func185 (by kernel_rfl) (
  .cons (by kernel_rfl) Tryz.func186 (by kernel_rfl) (
  .cons (by kernel_rfl) Tryz.func187 (by kernel_rfl) (
  .cons (by kernel_rfl) Tryz.func188 (by kernel_rfl) (
  .cons (by kernel_rfl) Tryz.func191 (by kernel_rfl) (
  .cons (by kernel_rfl) Tryz.func192 (by kernel_rfl) (
  .cons (by kernel_rfl) Tryz.func193 (by kernel_rfl) (
  .cons (by kernel_rfl) Tryz.func194 (by kernel_rfl) (
  .cons (by kernel_rfl) Tryz.func195 (by kernel_rfl) (
  .cons (by kernel_rfl) Tryz.func196 (by kernel_rfl) (
  .nil))))))))))))))))))))))))))))))))))))))))))))))))))))))))))))))))))))))))))))))))))))))))))))))))))))))))))))))))))))))))))))))))))))))))))))))))))))))))))))))))))))))))))))))))))))))))
set_option linter.unusedSimpArgs false
set_option linter.unusedVariables false
open Go.RowKit
def ext : Caller := fun f args _ =>
  match args with
  | [.int .u64 x] => bif Nat.beq f 176 && (decide (0 ≤ x) && decide (x ≤ 18446744073709551615)) then some (.int .i64 (Lib.bitLen x.toNat), none) else none
  | _ => none
theorem ext_ok : CallOk Tryz.prog ext := fun f args H x o h => by
  unfold ext at h
  split at h
  · rename_i x'
    cases hb : Nat.beq f 176 && (decide (0 ≤ x') && decide (x' ≤ 18446744073709551615))
    · rw [hb] at h; cases h
    · rw [hb, cond_true] at h
      simp only [Option.some.injEq, Prod.mk.injEq] at h
      obtain ⟨rfl, rfl⟩ := h
      simp only [Bool.and_eq_true, decide_eq_true_eq] at hb
      obtain ⟨h1, h2, h3⟩ := hb
      have e := Nat.eq_of_beq_eq_true h1
      subst e
      refine ⟨by kernel_rfl, Nat.le_refl _, fun E w vs hE hv => ?_⟩
      obtain ⟨v1, l1, rfl, k1, hr⟩ := rels_cons hv
      obtain rfl := rels_nil hr
      obtain rfl := rel_int k1
      refine (Tryz.bits_Len x' w h2 h3).mono fun e w' ⟨he, hw⟩ => ?_
      subst hw
      exact ⟨E, _, H, _, he, ⟨rfl, rfl⟩, .refl E, .int _ _, hE⟩
  · cases h
open Go.RowKit
abbrev pv (p : Pt) : AV := .agg [.int .i64 p.1, .int .i64 p.2]
def gp (l : List Pt) (i : Nat) : Pt := (g1 l i, g2 l i)
theorem gp_eq {l : List Pt} {i : Nat} (h : i < l.length) : gp l i = l[i] := by
  simp [gp, g1, g2, List.getD_eq_getElem?_getD, h]
theorem prs_set0 {l : List Pt} {j : Nat} {v : Int} (h : j < l.length) : (prs l).set (j * 2) (.int .i64 v) = prs (l.set j (v, g2 l j)) := by
  induction l generalizing j with
  | nil => simp at h
  | cons p l ih =>
    cases j with
    | zero => simp [prs_cons, g2]
    | succ j =>
      rw [prs_cons, show (j + 1) * 2 = j * 2 + 1 + 1 by omega, List.set_cons_succ, List.set_cons_succ, ih (by simpa using h), List.set_cons_succ, prs_cons]
      simp [g2]
theorem prs_set1 {l : List Pt} {j : Nat} {v : Int} (h : j < l.length) : (prs l).set (j * 2 + 1) (.int .i64 v) = prs (l.set j (g1 l j, v)) := by
  induction l generalizing j with
  | nil => simp at h
  | cons p l ih =>
    cases j with
    | zero => simp [prs_cons, g1]
    | succ j =>
      rw [prs_cons, show (j + 1) * 2 + 1 = (j * 2 + 1) + 1 + 1 by omega, List.set_cons_succ, List.set_cons_succ, ih (by simpa using h), List.set_cons_succ, prs_cons]
      simp [g1]
section
variable (H : AHeap)
def within (x m : Int) : Bool := decide (0 - m ≤ x) && decide (x ≤ m)
theorem bsize_c (x m : Int) (h : 0 ≤ m ∧ m ≤ 4611686018427387904) : ACalls Tryz.prog 25 [.int .i64 x, .int .i64 m] H (fun v H' => v = .bool (within x m) ∧ H' = H) := by
  (refine ACalls_run try_mixed Tryz.func25 true _ rfl (Nat.le_of_ble_eq_true (by kernel_rfl)) (by kernel_rfl) ?_; intro hbel Q hQ hQ' c hc; unfold Tryz.f25 at hc; simp only [Option.some.injEq] at hc; subst hc; clear hQ')
  by_cases h1 : 0 - m ≤ x
  · simp -implicitDefEqProofs (disch := omega) only [h1, ge_iff_le, simprocAttr, amset, tyset, Function.comp_apply, one1, lenV, calleeOf, lateOk, belowV, aop, AV.ofValue, AV.ofCell, AV.cells, AV.flat, AV.one, arep, aBin, aAppend, aConv]
    repeat refine And.intro (by omega) ?_
    exact hQ _ _ (end_plain0 (.inl rfl) hbel (x := .bool (decide (x ≤ m))) (resT Tryz.results25) rfl ⟨by simp only [within, h1, decide_true, Bool.true_and], rfl⟩)
  · simp -implicitDefEqProofs (disch := omega) only [h1, ge_iff_le, simprocAttr, amset, tyset, Function.comp_apply, one1, lenV, calleeOf, lateOk, belowV, aop, AV.ofValue, AV.ofCell, AV.cells, AV.flat, AV.one, arep, aBin, aAppend, aConv]
    repeat refine And.intro (by omega) ?_
    exact hQ _ _ (end_plain0 (.inl rfl) hbel (x := .bool false) (resT Tryz.results25) rfl ⟨by simp only [within, h1, decide_false, Bool.false_and], rfl⟩)
theorem size_c (x m : Int) (h : 0 ≤ m ∧ m ≤ 4611686018427387904) : ACalls Tryz.prog 113 [.int .i64 x, .int .i64 m] H (fun v H' => v = .bool (within x m) ∧ H' = H) := by
  (refine ACalls_run try_mixed Tryz.func113 true _ rfl (Nat.le_of_ble_eq_true (by kernel_rfl)) (by kernel_rfl) ?_; intro hbel Q hQ hQ' c hc; unfold Tryz.f113 at hc; simp only [Option.some.injEq] at hc; subst hc; clear hQ')
  by_cases h1 : 0 - m ≤ x
  · simp -implicitDefEqProofs (disch := omega) only [h1, ge_iff_le, simprocAttr, amset, tyset, Function.comp_apply, one1, lenV, calleeOf, lateOk, belowV, aop, AV.ofValue, AV.ofCell, AV.cells, AV.flat, AV.one, arep, aBin, aAppend, aConv]
    repeat refine And.intro (by omega) ?_
    exact hQ _ _ (end_plain0 (.inl rfl) hbel (x := .bool (decide (x ≤ m))) (resT Tryz.results113) rfl ⟨by simp only [within, h1, decide_true, Bool.true_and], rfl⟩)
  · simp -implicitDefEqProofs (disch := omega) only [h1, ge_iff_le, simprocAttr, amset, tyset, Function.comp_apply, one1, lenV, calleeOf, lateOk, belowV, aop, AV.ofValue, AV.ofCell, AV.cells, AV.flat, AV.one, arep, aBin, aAppend, aConv]
    repeat refine And.intro (by omega) ?_
    exact hQ _ _ (end_plain0 (.inl rfl) hbel (x := .bool false) (resT Tryz.results113) rfl ⟨by simp only [within, h1, decide_false, Bool.false_and], rfl⟩)
theorem cross_c (x y : Pt) (hx : Bd 268435456 x) (hy : Bd 268435456 y) : ACalls Tryz.prog 160 [pv x, pv y] H (fun v H' => v = .int .i64 (crs x y) ∧ H' = H) := by
  have hb := crs_bd hx hy
  (refine ACalls_run try_mixed Tryz.func160 true _ rfl (Nat.le_of_ble_eq_true (by kernel_rfl)) (by kernel_rfl) ?_; intro hbel Q hQ hQ' c hc; unfold Tryz.f160 at hc; simp only [Option.some.injEq] at hc; subst hc; clear hQ')
  simp -implicitDefEqProofs (disch := omega) only [simprocAttr, amset, tyset, Function.comp_apply, one1, lenV, calleeOf, lateOk, belowV, aop, AV.ofValue, AV.ofCell, AV.cells, AV.flat, AV.one, arep, aBin, aAppend, aConv]
  repeat refine And.intro (by omega) ?_
  exact hQ _ _ (end_plain (.inl rfl) hbel (x := .int .i64 (x.1 * y.2 - x.2 * y.1)) (resT Tryz.results160) rfl ⟨rfl, rfl⟩)
def absI (n : Int) : Int := if n < 0 then -n else n
theorem abs_c (x : Int) (h : -4611686018427387904 ≤ x ∧ x ≤ 4611686018427387904) : ACalls Tryz.prog 125 [.int .i64 x] H (fun v H' => v = .int .i64 (absI x) ∧ H' = H) := by
  (refine ACalls_run try_mixed Tryz.func125 true _ rfl (Nat.le_of_ble_eq_true (by kernel_rfl)) (by kernel_rfl) ?_; intro hbel Q hQ hQ' c hc; unfold Tryz.f125 at hc; simp only [Option.some.injEq] at hc; subst hc; clear hQ')
  simp -implicitDefEqProofs (disch := omega) only [simprocAttr, amset, tyset, Function.comp_apply, one1, lenV, calleeOf, lateOk, belowV, aop, AV.ofValue, AV.ofCell, AV.cells, AV.flat, AV.one, arep, aBin, aAppend, aConv]
  repeat refine And.intro (by omega) ?_
  exact hQ _ _ (end_plain0 (.inl rfl) hbel (x := .int .i64 (if x < 0 - x then 0 - x else x)) (resT Tryz.results125) rfl ⟨by unfold absI; congr 1; split <;> split <;> omega, rfl⟩)
end
set_option linter.unusedSimpArgs false
set_option linter.unusedVariables false
open Go.RowKit
/-- A generator that is not allowed. -/
def wrongB (g : Pt) : Bool := !(within g.1 65536 && within g.2 65536)
def nearB (x : Int) : Bool := within x 2097152
def validB (x y : Int) (l : List Pt) : Bool := within x 8388608 && within y 8388608 && decide (l.length ≤ 16) && !l.any wrongB
theorem IsP.parts {H : AHeap} {s : AV} {l : List Pt} (h : IsP H s l) : ∃ a c, s = .sl a l.length c := by
  rcases h with ⟨rfl, rfl⟩ | ⟨b, own, cap, rfl, hb⟩
  · exact ⟨_, _, rfl⟩
  · exact ⟨_, _, rfl⟩
theorem IsP.pos {H : AHeap} {s : AV} {l : List Pt} (h : IsP H s l) (h0 : 0 < l.length) : ∃ b own cap, s = .sl (some (b, 0)) l.length cap ∧ H[b]? = some (.cells own 2 (prs l)) := by
  rcases h with ⟨rfl, rfl⟩ | ⟨b, own, cap, rfl, hb⟩
  · simp at h0
  · exact ⟨b, own, cap, rfl, hb⟩
section
variable (H : AHeap)
theorem wrong_c (g : Pt) : ACalls Tryz.prog 161 [pv g] H (fun v H' => v = .bool (wrongB g) ∧ H' = H) := by
  (refine ACalls_run try_mixed Tryz.func161 true _ rfl (Nat.le_of_ble_eq_true (by kernel_rfl)) (by kernel_rfl) ?_; intro hbel Q hQ hQ' c hc; unfold Tryz.f161 at hc; simp only [Option.some.injEq] at hc; subst hc; clear hQ')
  simp -implicitDefEqProofs (disch := omega) only [simprocAttr, amset, tyset, Function.comp_apply, one1, lenV, calleeOf, lateOk, belowV, aop, AV.ofValue, AV.ofCell, AV.cells, AV.flat, AV.one, arep, aBin, aAppend, aConv]
  refine call_v (by kernel_rfl) (size_c _ _ _ (by decide)) ?_
  cases h1 : within g.1 65536
  · simp -implicitDefEqProofs (disch := omega) only [simprocAttr, amset, tyset, Function.comp_apply, one1, lenV, calleeOf, lateOk, belowV, aop, AV.ofValue, AV.ofCell, AV.cells, AV.flat, AV.one, arep, aBin, aAppend, aConv]
    exact hQ _ _ (end_plain (.inl rfl) hbel (x := .bool true) (resT Tryz.results161) rfl ⟨by simp [wrongB, h1], rfl⟩)
  · simp -implicitDefEqProofs (disch := omega) only [simprocAttr, amset, tyset, Function.comp_apply, one1, lenV, calleeOf, lateOk, belowV, aop, AV.ofValue, AV.ofCell, AV.cells, AV.flat, AV.one, arep, aBin, aAppend, aConv]
    refine call_v (by kernel_rfl) (size_c _ _ _ (by decide)) ?_
    simp -implicitDefEqProofs (disch := omega) only [simprocAttr, amset, tyset, Function.comp_apply, one1, lenV, calleeOf, lateOk, belowV, aop, AV.ofValue, AV.ofCell, AV.cells, AV.flat, AV.one, arep, aBin, aAppend, aConv]
    exact hQ _ _ (end_plain (.inl rfl) hbel (x := .bool (!within g.2 65536)) (resT Tryz.results161) rfl ⟨by simp [wrongB, h1], rfl⟩)
theorem any_take {α : Type} {l : List α} {p : α → Bool} {i : Nat} (h : i < l.length) : (l.take (i + 1)).any p = ((l.take i).any p || p l[i]) := by
  rw [List.take_succ_eq_append_getElem h, List.any_append]; simp
set_option maxRecDepth 100000 in
theorem index_c (s : AV) (l : List Pt) (hs : IsP H s l) (hl : l.length ≤ 1000000) : ACalls Tryz.prog 178 [s, .fn 161 []] H (fun v H' => ∃ r, v = .int .i64 r ∧ decide (0 ≤ r) = l.any wrongB ∧ H' = H) := by
  rcases Nat.eq_zero_or_pos l.length with h0 | h0
  · obtain rfl : l = [] := List.eq_nil_of_length_eq_zero h0
    obtain ⟨a, c, rfl⟩ := hs.parts
    (refine ACalls_run try_mixed Tryz.func178 true _ rfl (Nat.le_of_ble_eq_true (by kernel_rfl)) (by kernel_rfl) ?_; intro hbel Q hQ hQ' c hc; unfold Tryz.f178 at hc; simp only [Option.some.injEq] at hc; subst hc; clear hQ')
    simp -implicitDefEqProofs (disch := omega) only [List.length_nil, simprocAttr, amset, tyset, Function.comp_apply, one1, lenV, calleeOf, lateOk, belowV, aop, AV.ofValue, AV.ofCell, AV.cells, AV.flat, AV.one, arep, aBin, aAppend, aConv]
    refine go_loop try_mixed (by kernel_rfl) (fun k F Hx => F = [(7, .int .i64 0), (8, .int .i64 0)] ∧ Hx = H) 1 ?_ ?_
    · refine ⟨_, _, _, ⟨rfl, rfl⟩, Abs.by0 hbel ?_⟩
      exact absT
    · rintro k F Hx ⟨rfl, rfl⟩ J hJ
      simp -implicitDefEqProofs (disch := omega) only [Int.lt_irrefl, simprocAttr, amset, tyset, Function.comp_apply, one1, lenV, calleeOf, lateOk, belowV, aop, AV.ofValue, AV.ofCell, AV.cells, AV.flat, AV.one, arep, aBin, aAppend, aConv]
      exact hQ _ _ (end_plain0 (.inl rfl) hbel (x := .int .i64 (-1)) (resT Tryz.results178) rfl ⟨_, rfl, rfl, rfl⟩)
  obtain ⟨b, own, cap, rfl, hb⟩ := hs.pos h0
  have hbl := getElem?_lt hb
  (refine ACalls_run try_mixed Tryz.func178 true _ rfl (Nat.le_of_ble_eq_true (by kernel_rfl)) (by kernel_rfl) ?_; intro hbel Q hQ hQ' c hc; unfold Tryz.f178 at hc; simp only [Option.some.injEq] at hc; subst hc; clear hQ')
  simp -implicitDefEqProofs (disch := omega) only [simprocAttr, amset, tyset, Function.comp_apply, one1, lenV, calleeOf, lateOk, belowV, aop, AV.ofValue, AV.ofCell, AV.cells, AV.flat, AV.one, arep, aBin, aAppend, aConv]
  refine go_loop try_mixed (by kernel_rfl) (fun k F Hx => ∃ i : Nat, i + k = l.length ∧ (l.take i).any wrongB = false ∧ F = [(0, .sl (some (b, 0)) l.length none), (1, .fn 161 []), (7, .int .i64 l.length), (8, .int .i64 (i : Nat))] ∧ Hx = H) l.length ?_ ?_
  · refine ⟨_, _, _, ⟨0, by omega, rfl, rfl, rfl⟩, Abs.by0 hbel ?_⟩
    exact absT
  · rintro k F Hx ⟨i, hik, ht, rfl, rfl⟩ J hJ
    by_cases hi : i < l.length
    · have hii : (i : Int) < (l.length : Int) := by omega
      have q1 := prs_load hi
      have hg : gp l i = l[i] := gp_eq hi
      simp -implicitDefEqProofs (disch := omega) only [hii, hb, q1, simprocAttr, amset, tyset, Function.comp_apply, one1, lenV, calleeOf, lateOk, belowV, aop, AV.ofValue, AV.ofCell, AV.cells, AV.flat, AV.one, arep, aBin, aAppend, aConv]
      repeat refine And.intro (by omega) ?_
      refine call_v (by kernel_rfl) (wrong_c _ (gp l i)) ?_
      have hst := any_take (p := wrongB) hi
      rw [← hg, ht, Bool.false_or] at hst
      cases h1 : wrongB (gp l i)
      · rw [h1] at hst
        simp -implicitDefEqProofs (disch := omega) only [simprocAttr, amset, tyset, Function.comp_apply, one1, lenV, calleeOf, lateOk, belowV, aop, AV.ofValue, AV.ofCell, AV.cells, AV.flat, AV.one, arep, aBin, aAppend, aConv]
        refine hJ _ _ ⟨k - 1, by omega, _, _, _, ⟨i + 1, by omega, hst, rfl, rfl⟩, Abs.by0 hbel ?_⟩
        exact absT
      · simp -implicitDefEqProofs (disch := omega) only [simprocAttr, amset, tyset, Function.comp_apply, one1, lenV, calleeOf, lateOk, belowV, aop, AV.ofValue, AV.ofCell, AV.cells, AV.flat, AV.one, arep, aBin, aAppend, aConv]
        exact hQ _ _ (end_plain0 (.inl rfl) hbel (x := .int .i64 (i : Nat)) (resT Tryz.results178) rfl ⟨_, rfl, by rw [decide_eq_true (by omega)]; symm; rw [List.any_eq_true]; exact ⟨l[i], List.getElem_mem hi, by rw [← hg]; exact h1⟩, rfl⟩)
    · have hnn : ¬ ((i : Int) < (l.length : Int)) := by omega
      simp -implicitDefEqProofs (disch := omega) only [hnn, simprocAttr, amset, tyset, Function.comp_apply, one1, lenV, calleeOf, lateOk, belowV, aop, AV.ofValue, AV.ofCell, AV.cells, AV.flat, AV.one, arep, aBin, aAppend, aConv]
      rw [List.take_of_length_le (by omega)] at ht
      exact hQ _ _ (end_plain0 (.inl rfl) hbel (x := .int .i64 (-1)) (resT Tryz.results178) rfl ⟨_, rfl, by rw [ht]; rfl, rfl⟩)
theorem contains_c (s : AV) (l : List Pt) (hs : IsP H s l) (hl : l.length ≤ 1000000) : ACalls Tryz.prog 162 [s, .fn 161 []] H (fun v H' => v = .bool (l.any wrongB) ∧ H' = H) := by
  have key := index_c H s l hs hl
  obtain ⟨a, c, rfl⟩ := hs.parts
  (refine ACalls_run try_mixed Tryz.func162 true _ rfl (Nat.le_of_ble_eq_true (by kernel_rfl)) (by kernel_rfl) ?_; intro hbel Q hQ hQ' c hc; unfold Tryz.f162 at hc; simp only [Option.some.injEq] at hc; subst hc; clear hQ')
  simp -implicitDefEqProofs (disch := omega) only [simprocAttr, amset, tyset, Function.comp_apply, one1, lenV, calleeOf, lateOk, belowV, aop, AV.ofValue, AV.ofCell, AV.cells, AV.flat, AV.one, arep, aBin, aAppend, aConv]
  refine call_of (by kernel_rfl) key ?_
  rintro x H' ⟨r, rfl, hr, rfl⟩
  simp -implicitDefEqProofs (disch := omega) only [simprocAttr, amset, tyset, Function.comp_apply, one1, lenV, calleeOf, lateOk, belowV, aop, AV.ofValue, AV.ofCell, AV.cells, AV.flat, AV.one, arep, aBin, aAppend, aConv]
  exact hQ _ _ (end_plain0 (.inl rfl) hbel (x := .bool (decide (0 ≤ r))) (resT Tryz.results162) rfl ⟨by rw [hr], rfl⟩)
set_option maxRecDepth 100000 in
theorem valid_c (x y : Int) (s : AV) (l : List Pt) (hs : IsP H s l) : ACalls Tryz.prog 108 [.agg [.int .i64 x, .int .i64 y, s]] H (fun v H' => v = .bool (validB x y l) ∧ H' = H) := by
  have key := fun l' => contains_c (H ++ l') s l (hs.app l')
  obtain ⟨a, c, rfl⟩ := hs.parts
  (refine ACalls_run try_mixed Tryz.func108 true _ rfl (Nat.le_of_ble_eq_true (by kernel_rfl)) (by kernel_rfl) ?_; intro hbel Q hQ hQ' c hc; unfold Tryz.f108 at hc; simp only [Option.some.injEq] at hc; subst hc; clear hQ')
  simp -implicitDefEqProofs (disch := omega) only [simprocAttr, amset, tyset, Function.comp_apply, one1, lenV, calleeOf, lateOk, belowV, aop, AV.ofValue, AV.ofCell, AV.cells, AV.flat, AV.one, arep, aBin, aAppend, aConv]
  refine call_v (by kernel_rfl) (size_c _ _ _ (by decide)) ?_
  cases h1 : within x 8388608
  · simp -implicitDefEqProofs (disch := omega) only [simprocAttr, amset, tyset, Function.comp_apply, one1, lenV, calleeOf, lateOk, belowV, aop, AV.ofValue, AV.ofCell, AV.cells, AV.flat, AV.one, arep, aBin, aAppend, aConv]
    exact hQ _ _ (end_plain (.inl rfl) hbel (x := .bool false) (resT Tryz.results108) rfl ⟨by simp [validB, h1], rfl⟩)
  simp -implicitDefEqProofs (disch := omega) only [simprocAttr, amset, tyset, Function.comp_apply, one1, lenV, calleeOf, lateOk, belowV, aop, AV.ofValue, AV.ofCell, AV.cells, AV.flat, AV.one, arep, aBin, aAppend, aConv]
  refine call_v (by kernel_rfl) (size_c _ _ _ (by decide)) ?_
  cases h2 : within y 8388608
  · simp -implicitDefEqProofs (disch := omega) only [simprocAttr, amset, tyset, Function.comp_apply, one1, lenV, calleeOf, lateOk, belowV, aop, AV.ofValue, AV.ofCell, AV.cells, AV.flat, AV.one, arep, aBin, aAppend, aConv]
    exact hQ _ _ (end_plain (.inl rfl) hbel (x := .bool false) (resT Tryz.results108) rfl ⟨by simp [validB, h1, h2], rfl⟩)
  by_cases h3 : (l.length : Int) ≤ 16
  · simp -implicitDefEqProofs (disch := omega) only [h3, simprocAttr, amset, tyset, Function.comp_apply, one1, lenV, calleeOf, lateOk, belowV, aop, AV.ofValue, AV.ofCell, AV.cells, AV.flat, AV.one, arep, aBin, aAppend, aConv]
    refine call_v (by kernel_rfl) (key _ (by omega)) ?_
    simp -implicitDefEqProofs (disch := omega) only [simprocAttr, amset, tyset, Function.comp_apply, one1, lenV, calleeOf, lateOk, belowV, aop, AV.ofValue, AV.ofCell, AV.cells, AV.flat, AV.one, arep, aBin, aAppend, aConv]
    exact hQ _ _ (end_plain (.inl rfl) hbel (x := .bool (!l.any wrongB)) (resT Tryz.results108) rfl ⟨by rw [validB, h1, h2, decide_eq_true (by omega)]; rfl, rfl⟩)
  · simp -implicitDefEqProofs (disch := omega) only [h3, simprocAttr, amset, tyset, Function.comp_apply, one1, lenV, calleeOf, lateOk, belowV, aop, AV.ofValue, AV.ofCell, AV.cells, AV.flat, AV.one, arep, aBin, aAppend, aConv]
    exact hQ _ _ (end_plain (.inl rfl) hbel (x := .bool false) (resT Tryz.results108) rfl ⟨by rw [validB, h1, h2, decide_eq_false (by omega)]; rfl, rfl⟩)
end
set_option linter.unusedSimpArgs false
set_option linter.unusedVariables false
open Go.RowKit
theorem IsI.partsI {k : IntKind} {H : AHeap} {s : AV} {l : List Int} (h : IsI H k s l) : ∃ a c, s = .sl a l.length c := by
  rcases h with ⟨rfl, rfl⟩ | ⟨b, own, cap, rfl, hb⟩
  · exact ⟨_, _, rfl⟩
  · exact ⟨_, _, rfl⟩
theorem IsI.posI {k : IntKind} {H : AHeap} {s : AV} {l : List Int} (h : IsI H k s l) (h0 : 0 < l.length) : ∃ b own cap, s = .sl (some (b, 0)) l.length cap ∧ H[b]? = some (.cells own 1 (ints k l)) := by
  rcases h with ⟨rfl, rfl⟩ | ⟨b, own, cap, rfl, hb⟩
  · simp at h0
  · exact ⟨b, own, cap, rfl, hb⟩
def farB (x : Int) : Bool := !nearB x
section
variable (H : AHeap)
theorem far_c (x : Int) : ACalls Tryz.prog 156 [.int .i64 x] H (fun v H' => v = .bool (farB x) ∧ H' = H) := by
  (refine ACalls_run try_mixed Tryz.func156 true _ rfl (Nat.le_of_ble_eq_true (by kernel_rfl)) (by kernel_rfl) ?_; intro hbel Q hQ hQ' c hc; unfold Tryz.f156 at hc; simp only [Option.some.injEq] at hc; subst hc; clear hQ')
  simp -implicitDefEqProofs (disch := omega) only [simprocAttr, amset, tyset, Function.comp_apply, one1, lenV, calleeOf, lateOk, belowV, aop, AV.ofValue, AV.ofCell, AV.cells, AV.flat, AV.one, arep, aBin, aAppend, aConv]
  refine call_v (by kernel_rfl) (size_c _ _ _ (by decide)) ?_
  simp -implicitDefEqProofs (disch := omega) only [simprocAttr, amset, tyset, Function.comp_apply, one1, lenV, calleeOf, lateOk, belowV, aop, AV.ofValue, AV.ofCell, AV.cells, AV.flat, AV.one, arep, aBin, aAppend, aConv]
  exact hQ _ _ (end_plain0 (.inl rfl) hbel (x := .bool (!within x 2097152)) (resT Tryz.results156) rfl ⟨rfl, rfl⟩)
set_option maxRecDepth 100000 in
theorem indexI_c (s : AV) (l : List Int) (hs : IsI H .i64 s l) (hl : l.length ≤ 1000000) : ACalls Tryz.prog 174 [s, .fn 156 []] H (fun v H' => ∃ r, v = .int .i64 r ∧ decide (0 ≤ r) = l.any farB ∧ H' = H) := by
  rcases Nat.eq_zero_or_pos l.length with h0 | h0
  · obtain rfl : l = [] := List.eq_nil_of_length_eq_zero h0
    obtain ⟨a, c, rfl⟩ := hs.partsI
    (refine ACalls_run try_mixed Tryz.func174 true _ rfl (Nat.le_of_ble_eq_true (by kernel_rfl)) (by kernel_rfl) ?_; intro hbel Q hQ hQ' c hc; unfold Tryz.f174 at hc; simp only [Option.some.injEq] at hc; subst hc; clear hQ')
    simp -implicitDefEqProofs (disch := omega) only [List.length_nil, simprocAttr, amset, tyset, Function.comp_apply, one1, lenV, calleeOf, lateOk, belowV, aop, AV.ofValue, AV.ofCell, AV.cells, AV.flat, AV.one, arep, aBin, aAppend, aConv]
    refine go_loop try_mixed (by kernel_rfl) (fun k F Hx => F = [(7, .int .i64 0), (8, .int .i64 0)] ∧ Hx = H) 1 ?_ ?_
    · refine ⟨_, _, _, ⟨rfl, rfl⟩, Abs.by0 hbel ?_⟩
      exact absT
    · rintro k F Hx ⟨rfl, rfl⟩ J hJ
      simp -implicitDefEqProofs (disch := omega) only [Int.lt_irrefl, simprocAttr, amset, tyset, Function.comp_apply, one1, lenV, calleeOf, lateOk, belowV, aop, AV.ofValue, AV.ofCell, AV.cells, AV.flat, AV.one, arep, aBin, aAppend, aConv]
      exact hQ _ _ (end_plain0 (.inl rfl) hbel (x := .int .i64 (-1)) (resT Tryz.results174) rfl ⟨_, rfl, rfl, rfl⟩)
  obtain ⟨b, own, cap, rfl, hb⟩ := hs.posI h0
  have hbl := getElem?_lt hb
  (refine ACalls_run try_mixed Tryz.func174 true _ rfl (Nat.le_of_ble_eq_true (by kernel_rfl)) (by kernel_rfl) ?_; intro hbel Q hQ hQ' c hc; unfold Tryz.f174 at hc; simp only [Option.some.injEq] at hc; subst hc; clear hQ')
  simp -implicitDefEqProofs (disch := omega) only [simprocAttr, amset, tyset, Function.comp_apply, one1, lenV, calleeOf, lateOk, belowV, aop, AV.ofValue, AV.ofCell, AV.cells, AV.flat, AV.one, arep, aBin, aAppend, aConv]
  refine go_loop try_mixed (by kernel_rfl) (fun k F Hx => ∃ i : Nat, i + k = l.length ∧ (l.take i).any farB = false ∧ F = [(0, .sl (some (b, 0)) l.length none), (1, .fn 156 []), (7, .int .i64 l.length), (8, .int .i64 (i : Nat))] ∧ Hx = H) l.length ?_ ?_
  · refine ⟨_, _, _, ⟨0, by omega, rfl, rfl, rfl⟩, Abs.by0 hbel ?_⟩
    exact absT
  · rintro k F Hx ⟨i, hik, ht, rfl, rfl⟩ J hJ
    by_cases hi : i < l.length
    · have hii : (i : Int) < (l.length : Int) := by omega
      have q1 := ints_get (k := .i64) (xs := l) (j := i) hi
      have hg : gi l i = l[i] := gi_lt hi
      simp -implicitDefEqProofs (disch := omega) only [hii, hb, q1, simprocAttr, amset, tyset, Function.comp_apply, one1, lenV, calleeOf, lateOk, belowV, aop, AV.ofValue, AV.ofCell, AV.cells, AV.flat, AV.one, arep, aBin, aAppend, aConv]
      repeat refine And.intro (by omega) ?_
      refine call_v (by kernel_rfl) (far_c _ (gi l i)) ?_
      have hst := any_take (p := farB) hi
      rw [← hg, ht, Bool.false_or] at hst
      cases h1 : farB (gi l i)
      · rw [h1] at hst
        simp -implicitDefEqProofs (disch := omega) only [simprocAttr, amset, tyset, Function.comp_apply, one1, lenV, calleeOf, lateOk, belowV, aop, AV.ofValue, AV.ofCell, AV.cells, AV.flat, AV.one, arep, aBin, aAppend, aConv]
        refine hJ _ _ ⟨k - 1, by omega, _, _, _, ⟨i + 1, by omega, hst, rfl, rfl⟩, Abs.by0 hbel ?_⟩
        exact absT
      · simp -implicitDefEqProofs (disch := omega) only [simprocAttr, amset, tyset, Function.comp_apply, one1, lenV, calleeOf, lateOk, belowV, aop, AV.ofValue, AV.ofCell, AV.cells, AV.flat, AV.one, arep, aBin, aAppend, aConv]
        exact hQ _ _ (end_plain0 (.inl rfl) hbel (x := .int .i64 (i : Nat)) (resT Tryz.results174) rfl ⟨_, rfl, by rw [decide_eq_true (by omega)]; symm; rw [List.any_eq_true]; exact ⟨l[i], List.getElem_mem hi, by rw [← hg]; exact h1⟩, rfl⟩)
    · have hnn : ¬ ((i : Int) < (l.length : Int)) := by omega
      simp -implicitDefEqProofs (disch := omega) only [hnn, simprocAttr, amset, tyset, Function.comp_apply, one1, lenV, calleeOf, lateOk, belowV, aop, AV.ofValue, AV.ofCell, AV.cells, AV.flat, AV.one, arep, aBin, aAppend, aConv]
      rw [List.take_of_length_le (by omega)] at ht
      exact hQ _ _ (end_plain0 (.inl rfl) hbel (x := .int .i64 (-1)) (resT Tryz.results174) rfl ⟨_, rfl, by rw [ht]; rfl, rfl⟩)
theorem containsI_c (s : AV) (l : List Int) (hs : IsI H .i64 s l) (hl : l.length ≤ 1000000) : ACalls Tryz.prog 155 [s, .fn 156 []] H (fun v H' => v = .bool (l.any farB) ∧ H' = H) := by
  have key := indexI_c H s l hs hl
  obtain ⟨a, c, rfl⟩ := hs.partsI
  (refine ACalls_run try_mixed Tryz.func155 true _ rfl (Nat.le_of_ble_eq_true (by kernel_rfl)) (by kernel_rfl) ?_; intro hbel Q hQ hQ' c hc; unfold Tryz.f155 at hc; simp only [Option.some.injEq] at hc; subst hc; clear hQ')
  simp -implicitDefEqProofs (disch := omega) only [simprocAttr, amset, tyset, Function.comp_apply, one1, lenV, calleeOf, lateOk, belowV, aop, AV.ofValue, AV.ofCell, AV.cells, AV.flat, AV.one, arep, aBin, aAppend, aConv]
  refine call_of (by kernel_rfl) key ?_
  rintro x H' ⟨r, rfl, hr, rfl⟩
  simp -implicitDefEqProofs (disch := omega) only [simprocAttr, amset, tyset, Function.comp_apply, one1, lenV, calleeOf, lateOk, belowV, aop, AV.ofValue, AV.ofCell, AV.cells, AV.flat, AV.one, arep, aBin, aAppend, aConv]
  exact hQ _ _ (end_plain0 (.inl rfl) hbel (x := .bool (decide (0 ≤ r))) (resT Tryz.results155) rfl ⟨by rw [hr], rfl⟩)
theorem near_c (s : AV) (l : List Int) (hs : IsI H .i64 s l) (hl : l.length ≤ 1000000) : ACalls Tryz.prog 106 [s] H (fun v H' => v = .bool (!l.any farB) ∧ H' = H) := by
  have key := containsI_c H s l hs hl
  obtain ⟨a, c, rfl⟩ := hs.partsI
  (refine ACalls_run try_mixed Tryz.func106 true _ rfl (Nat.le_of_ble_eq_true (by kernel_rfl)) (by kernel_rfl) ?_; intro hbel Q hQ hQ' c hc; unfold Tryz.f106 at hc; simp only [Option.some.injEq] at hc; subst hc; clear hQ')
  simp -implicitDefEqProofs (disch := omega) only [simprocAttr, amset, tyset, Function.comp_apply, one1, lenV, calleeOf, lateOk, belowV, aop, AV.ofValue, AV.ofCell, AV.cells, AV.flat, AV.one, arep, aBin, aAppend, aConv]
  refine call_v (by kernel_rfl) key ?_
  simp -implicitDefEqProofs (disch := omega) only [simprocAttr, amset, tyset, Function.comp_apply, one1, lenV, calleeOf, lateOk, belowV, aop, AV.ofValue, AV.ofCell, AV.cells, AV.flat, AV.one, arep, aBin, aAppend, aConv]
  exact hQ _ _ (end_plain0 (.inl rfl) hbel (x := .bool (!l.any farB)) (resT Tryz.results106) rfl ⟨rfl, rfl⟩)
end
set_option linter.unusedSimpArgs false
set_option linter.unusedVariables false
open Go.RowKit
set_option maxHeartbeats 4000000
set_option maxRecDepth 100000
theorem sortnil_c (H : AHeap) : ACalls Tryz.prog 157 [.sl none 0 (some 0), .fn 158 []] H (fun v H' => v = .tup [] ∧ H' = H) :=
  ACalls.closed (ran try_mixed ext_ok tb tb_ok 300 30 (x := .tup []) (o := none) (by kernel_rfl)) rfl rfl H
theorem dirs_step {l : List Pt} {i : Nat} (h : i < l.length) : dirs (l.take (i + 1)) = dirs (l.take i) ++ if nrm (gp l i) = (0, 0) then [] else [nrm (gp l i)] := by
  rw [List.take_succ_eq_append_getElem h, ← gp_eq h]
  unfold dirs
  rw [List.map_append, List.filter_append]
  congr 1
  by_cases h0 : nrm (gp l i) = (0, 0)
  · simp [h0]
  · simp [h0]
theorem nrm_bd {M : Int} {g : Pt} (h : Bd M g) : Bd M (nrm g) := by
  unfold Bd at *
  unfold nrm
  split
  · simp only; omega
  · exact h
theorem dirs_bd {M : Int} {l : List Pt} (h : ∀ e ∈ l, Bd M e) : ∀ e ∈ dirs l, Bd M e := fun e he => by
  unfold dirs at he
  simp only [List.mem_filter, List.mem_map, decide_eq_true_eq] at he
  obtain ⟨⟨g, hg, rfl⟩, -⟩ := he
  exact nrm_bd (h g hg)
theorem dirs_len (l : List Pt) : (dirs l).length ≤ l.length := by
  unfold dirs
  exact Nat.le_trans (List.length_filter_le _ _) (by simp)
theorem mst_len (L : List Pt) (g : Pt) : (mst L g).length ≤ L.length + 1 := by
  rcases List.eq_nil_or_concat L with rfl | ⟨o, k, rfl⟩
  · simp [mst_nil]
  · rw [List.concat_eq_append, mst_snoc]; split <;> simp
theorem mergeL_snoc (S : List Pt) (g : Pt) : mergeL (S ++ [g]) = mst (mergeL S) g := by unfold mergeL; rw [List.foldl_append]; rfl
theorem snoc_ind {P : List Pt → Prop} (h0 : P []) (h1 : ∀ S g, P S → P (S ++ [g])) (S : List Pt) : P S := by
  have : ∀ n (S : List Pt), S.length = n → P S := fun n => by
    induction n with
    | zero => intro S h; rw [List.eq_nil_of_length_eq_zero h]; exact h0
    | succ n ih =>
      intro S h
      rcases List.eq_nil_or_concat S with rfl | ⟨o, k, rfl⟩
      · simp at h
      · rw [List.concat_eq_append] at *
        exact h1 o k (ih o (by simpa using h))
  exact this _ S rfl
theorem mergeL_len (S : List Pt) : (mergeL S).length ≤ S.length := by
  refine snoc_ind (P := fun S => (mergeL S).length ≤ S.length) (by simp [mergeL]) (fun S g h => ?_) S
  rw [mergeL_snoc]
  have := mst_len (mergeL S) g
  simp; omega
theorem mergeL_bd {M : Int} (hM : 0 ≤ M) {S : List Pt} (h : ∀ e ∈ S, Bd M e) : ∀ e ∈ mergeL S, Bd (S.length * M) e := by
  revert h
  refine snoc_ind (P := fun S => (∀ e ∈ S, Bd M e) → ∀ e ∈ mergeL S, Bd (S.length * M) e) (fun _ => by simp [mergeL]) (fun S g ih h => ?_) S
  have ih := ih fun e he => h e (by simp [he])
  have hg := h g (by simp)
  have e1 : ((S ++ [g]).length : Int) * M = S.length * M + M := by
    rw [List.length_append, Int.natCast_add, Int.add_mul]; simp
  have e2 : 0 ≤ (S.length : Int) * M := Int.mul_nonneg (by omega) hM
  rw [mergeL_snoc, e1]
  generalize (S.length : Int) * M = z at *
  have up : ∀ e, Bd z e → Bd (z + M) e := fun e he => by unfold Bd at *; omega
  have up2 : Bd (z + M) g := by unfold Bd at *; omega
  rcases List.eq_nil_or_concat (mergeL S) with h0 | ⟨o, k, h0⟩
  · rw [h0, mst_nil]
    intro e he
    simp at he; subst he; exact up2
  · rw [List.concat_eq_append] at h0
    rw [h0] at ih ⊢
    rw [mst_snoc]
    have hk := ih k (by simp)
    split
    · intro e he
      rcases List.mem_append.1 he with he | he
      · exact up e (ih e (by simp [he]))
      · simp at he; subst he
        unfold Bd padd at *; simp only; omega
    · intro e he
      rcases List.mem_append.1 he with he | he
      · exact up e (ih e he)
      · simp at he; subst he; exact up2
theorem mst_pos {L : List Pt} {g : Pt} {p : Nat} (h : L.length = p + 1) : mst L g = if crs (gp L p) g = 0 then L.set p (padd (gp L p) g) else L ++ [g] := by
  rcases List.eq_nil_or_concat L with rfl | ⟨o, k, rfl⟩
  · simp at h
  · rw [List.concat_eq_append] at *
    have hp : p = o.length := by simp at h; omega
    have e : gp (o ++ [k]) p = k := by rw [gp_eq (by omega)]; simp [hp]
    rw [mst_snoc, e]
    split
    · rw [List.set_append_right _ _ (by omega), hp, Nat.sub_self]; rfl
    · rfl
theorem canonical_c (H : AHeap) (x y : Int) (b : Nat) (own : Bool) (cap : Option Nat) (l : List Pt) (hb : H[b]? = some (.cells own 2 (prs l))) (hl : l.length ≤ 40) (hB : ∀ e ∈ l, Bd 4194304 e) :
    ACalls Tryz.prog 107 [.agg [.int .i64 x, .int .i64 y, .sl (some (b, 0)) l.length cap]] H (fun v H' => v = .agg [.int .i64 x, .int .i64 y, (retP H (canonL l)).1] ∧ H' = (retP H (canonL l)).2) := by
  have hbl := getElem?_lt hb
  have hb0 := fun l => get_app (l := l) hb
  generalize hn : l.length = n at *
  (refine ACalls_run try_mixed Tryz.func107 true _ rfl (Nat.le_of_ble_eq_true (by kernel_rfl)) (by kernel_rfl) ?_; intro hbel Q hQ hQ' c hc; unfold Tryz.f107 at hc; simp only [Option.some.injEq] at hc; subst hc; clear hQ')
  simp -implicitDefEqProofs (disch := omega) only [simprocAttr, amset, tyset, Function.comp_apply, one1, lenV, calleeOf, lateOk, belowV, aop, AV.ofValue, AV.ofCell, AV.cells, AV.flat, AV.one, arep, aBin, aAppend, aConv]
  refine go_loop try_mixed (by kernel_rfl) (fun k F Hx => ∃ (i : Nat) (s : AV) (X : ABlk), i + k = n ∧ OutP (H.length + 2) s X (dirs (l.take i)) ∧
    F = [(1, .ptr (some (H.length, 0))), (2, .ptr (some (H.length + 1, 0))), (3, s), (11, .sl (some (b, 0)) n none), (12, .int .i64 n), (13, .int .i64 (i : Nat))] ∧
    Hx = H ++ [.cells true 0 [.int .i64 x, .int .i64 y, .sl (some (b, 0)) n cap], .cells true 0 [.int .i64 0, .int .i64 0, .sl none 0 (some 0)], X]) n ?_ ?_
  · refine ⟨_, _, _, ⟨0, _, _, by omega, .inl ⟨rfl, rfl, rfl⟩, rfl, rfl⟩, Abs.by hbel [0, 1, 2] (by decide) ?_⟩
    exact absT
  · rintro k F Hx ⟨i, s, X, hik, hO, rfl, rfl⟩ J hJ
    by_cases hi : i < l.length
    · have hii : (i : Int) < (n : Int) := by omega
      have q0 := prs_load hi
      have hg : gp l i = l[i] := gp_eq hi
      have hgb := hB l[i] (List.getElem_mem hi)
      rw [← hg] at hgb
      have hds := dirs_step hi
      simp -implicitDefEqProofs (disch := omega) only [hii, hb0, q0, simprocAttr, amset, tyset, Function.comp_apply, one1, lenV, calleeOf, lateOk, belowV, aop, AV.ofValue, AV.ofCell, AV.cells, AV.flat, AV.one, arep, aBin, aAppend, aConv]
      repeat refine And.intro (by omega) ?_
      have hbd : -4194304 ≤ g1 l i ∧ g1 l i ≤ 4194304 ∧ -4194304 ≤ g2 l i ∧ g2 l i ≤ 4194304 := hgb
      have hdl := dirs_len (l.take i)
      rw [List.length_take] at hdl
      have fin0 : nrm (gp l i) = (0, 0) → ∀ (F : Fr) (l1 : AHeap), (absF (H.length + l1.length) (sig H.length l1.length [0, 1, 2]) F [(1, .ptr (some (H.length, 0))), (2, .ptr (some (H.length + 1, 0))), (3, s), (11, .sl (some (b, 0)) n none), (12, .int .i64 n), (13, .int .i64 ((i + 1 : Nat) : Int))] ∧ absH (H.length + l1.length) (sig H.length l1.length [0, 1, 2]) l1 [0, 1, 2] [.cells true 0 [.int .i64 x, .int .i64 y, .sl (some (b, 0)) n cap], .cells true 0 [.int .i64 0, .int .i64 0, .sl none 0 (some 0)], X]) → J F (H ++ l1) := fun hf F l1 ha =>
        hJ _ _ ⟨k - 1, by omega, _, _, _, ⟨i + 1, _, _, by omega, by rw [hds, if_pos hf, List.append_nil]; exact hO, rfl, rfl⟩, Abs.by hbel [0, 1, 2] (by decide) ha⟩
      have fin1 : ∀ u v : Int, nrm (gp l i) = (u, v) → (u, v) ≠ ((0 : Int), (0 : Int)) → ∀ (F : Fr) (l1 : AHeap), (absF (H.length + l1.length) (sig H.length l1.length [0, 1, 5]) F [(1, .ptr (some (H.length, 0))), (2, .ptr (some (H.length + 1, 0))), (3, .sl (some (H.length + 2, 0)) ((dirs (l.take i)).length + 1) none), (11, .sl (some (b, 0)) n none), (12, .int .i64 n), (13, .int .i64 ((i + 1 : Nat) : Int))] ∧ absH (H.length + l1.length) (sig H.length l1.length [0, 1, 5]) l1 [0, 1, 5] [.cells true 0 [.int .i64 x, .int .i64 y, .sl (some (b, 0)) n cap], .cells true 0 [.int .i64 0, .int .i64 0, .sl none 0 (some 0)], .cells true 2 (prs (dirs (l.take i) ++ [(u, v)]))]) → J F (H ++ l1) := fun u v hf hne F l1 ha =>
        hJ _ _ ⟨k - 1, by omega, _, _, _, ⟨i + 1, _, _, by omega, by rw [hds, if_neg (by rw [hf]; exact hne), hf]; exact .inr ⟨by simp, by simp, rfl⟩, rfl, rfl⟩, Abs.by hbel [0, 1, 5] (by decide) ha⟩
      generalize dirs (l.take i) = L at *
      have hLt : List.take (L.length * 2) (prs L) = prs L := List.take_of_length_le (by rw [prs_len]; omega)
      by_cases h1 : g2 l i < 0
      · have hz : (0 - g2 l i == 0) = false := beq_eq_false_iff_ne.2 (by omega)
        have hf : nrm (gp l i) = (0 - g1 l i, 0 - g2 l i) := by unfold nrm; rw [if_pos (by simp only [gp]; omega)]; simp only [gp, Int.zero_sub]
        have hne : ((0 - g1 l i, 0 - g2 l i) : Int × Int) ≠ (0, 0) := by intro h; simp only [Prod.mk.injEq] at h; omega
        rcases hO with ⟨rfl, rfl, rfl⟩ | ⟨hL0, rfl, rfl⟩
        · simp -implicitDefEqProofs (disch := omega) only [h1, hz, Bool.and_false, simprocAttr, amset, tyset, Function.comp_apply, one1, lenV, calleeOf, lateOk, belowV, aop, AV.ofValue, AV.ofCell, AV.cells, AV.flat, AV.one, arep, aBin, aAppend, aConv]
          repeat refine And.intro (by omega) ?_
          refine fin1 _ _ hf hne _ _ ?_
          exact absT
        · simp -implicitDefEqProofs (disch := omega) only [prs_snoc, hLt, h1, hz, Bool.and_false, simprocAttr, amset, tyset, Function.comp_apply, one1, lenV, calleeOf, lateOk, belowV, aop, AV.ofValue, AV.ofCell, AV.cells, AV.flat, AV.one, arep, aBin, aAppend, aConv]
          repeat refine And.intro (by omega) ?_
          refine fin1 _ _ hf hne _ _ ?_
          exact absT
      · cases h2 : (g2 l i == 0)
        · have h2' := beq_eq_false_iff_ne.1 h2
          have hf : nrm (gp l i) = (g1 l i, g2 l i) := by unfold nrm; rw [if_neg (by simp only [gp]; omega)]; rfl
          have hne : ((g1 l i, g2 l i) : Int × Int) ≠ (0, 0) := by intro h; simp only [Prod.mk.injEq] at h; omega
          rcases hO with ⟨rfl, rfl, rfl⟩ | ⟨hL0, rfl, rfl⟩
          · simp -implicitDefEqProofs (disch := omega) only [h1, h2, Bool.and_false, simprocAttr, amset, tyset, Function.comp_apply, one1, lenV, calleeOf, lateOk, belowV, aop, AV.ofValue, AV.ofCell, AV.cells, AV.flat, AV.one, arep, aBin, aAppend, aConv]
            repeat refine And.intro (by omega) ?_
            refine fin1 _ _ hf hne _ _ ?_
            exact absT
          · simp -implicitDefEqProofs (disch := omega) only [prs_snoc, hLt, h1, h2, Bool.and_false, simprocAttr, amset, tyset, Function.comp_apply, one1, lenV, calleeOf, lateOk, belowV, aop, AV.ofValue, AV.ofCell, AV.cells, AV.flat, AV.one, arep, aBin, aAppend, aConv]
            repeat refine And.intro (by omega) ?_
            refine fin1 _ _ hf hne _ _ ?_
            exact absT
        · have h2' := beq_iff_eq.1 h2
          by_cases h3 : g1 l i < 0
          · have hz : (0 - g1 l i == 0) = false := beq_eq_false_iff_ne.2 (by omega)
            have hf : nrm (gp l i) = (0 - g1 l i, 0 - g2 l i) := by unfold nrm; rw [if_pos (by simp only [gp]; omega)]; simp only [gp, Int.zero_sub]
            have hne : ((0 - g1 l i, 0 - g2 l i) : Int × Int) ≠ (0, 0) := by intro h; simp only [Prod.mk.injEq] at h; omega
            rcases hO with ⟨rfl, rfl, rfl⟩ | ⟨hL0, rfl, rfl⟩
            · simp -implicitDefEqProofs (disch := omega) only [h1, h2, h3, hz, Bool.false_and, simprocAttr, amset, tyset, Function.comp_apply, one1, lenV, calleeOf, lateOk, belowV, aop, AV.ofValue, AV.ofCell, AV.cells, AV.flat, AV.one, arep, aBin, aAppend, aConv]
              repeat refine And.intro (by omega) ?_
              refine fin1 _ _ hf hne _ _ ?_
              exact absT
            · simp -implicitDefEqProofs (disch := omega) only [prs_snoc, hLt, h1, h2, h3, hz, Bool.false_and, simprocAttr, amset, tyset, Function.comp_apply, one1, lenV, calleeOf, lateOk, belowV, aop, AV.ofValue, AV.ofCell, AV.cells, AV.flat, AV.one, arep, aBin, aAppend, aConv]
              repeat refine And.intro (by omega) ?_
              refine fin1 _ _ hf hne _ _ ?_
              exact absT
          · cases h4 : (g1 l i == 0)
            · have h4' := beq_eq_false_iff_ne.1 h4
              have hf : nrm (gp l i) = (g1 l i, g2 l i) := by unfold nrm; rw [if_neg (by simp only [gp]; omega)]; rfl
              have hne : ((g1 l i, g2 l i) : Int × Int) ≠ (0, 0) := by intro h; simp only [Prod.mk.injEq] at h; omega
              rcases hO with ⟨rfl, rfl, rfl⟩ | ⟨hL0, rfl, rfl⟩
              · simp -implicitDefEqProofs (disch := omega) only [h1, h2, h3, h4, Bool.false_and, simprocAttr, amset, tyset, Function.comp_apply, one1, lenV, calleeOf, lateOk, belowV, aop, AV.ofValue, AV.ofCell, AV.cells, AV.flat, AV.one, arep, aBin, aAppend, aConv]
                repeat refine And.intro (by omega) ?_
                refine fin1 _ _ hf hne _ _ ?_
                exact absT
              · simp -implicitDefEqProofs (disch := omega) only [prs_snoc, hLt, h1, h2, h3, h4, Bool.false_and, simprocAttr, amset, tyset, Function.comp_apply, one1, lenV, calleeOf, lateOk, belowV, aop, AV.ofValue, AV.ofCell, AV.cells, AV.flat, AV.one, arep, aBin, aAppend, aConv]
                repeat refine And.intro (by omega) ?_
                refine fin1 _ _ hf hne _ _ ?_
                exact absT
            · have h4' := beq_iff_eq.1 h4
              simp -implicitDefEqProofs (disch := omega) only [h1, h2, h3, h4, simprocAttr, amset, tyset, Function.comp_apply, one1, lenV, calleeOf, lateOk, belowV, aop, AV.ofValue, AV.ofCell, AV.cells, AV.flat, AV.one, arep, aBin, aAppend, aConv]
              refine fin0 (by unfold nrm; rw [if_neg (by simp only [gp]; omega)]; exact Prod.ext h4' h2') _ _ ?_
              rcases hO with ⟨-, rfl, rfl⟩ | ⟨-, rfl, rfl⟩
              · exact absT
              · exact absT
    · have hnn : ¬ ((i : Int) < (n : Int)) := by omega
      rw [List.take_of_length_le (by omega)] at hO
      have hdb := dirs_bd hB
      have hdu := dirs_up (l := l)
      have hdl := dirs_len l
      have hme := fun S => merge_eq (l := l) (S := S)
      generalize dirs l = L at *
      rcases hO with ⟨rfl, rfl, rfl⟩ | ⟨hL0, rfl, rfl⟩
      · have hc0 : canonL l = [] := (hme [] (.refl _) .nil).symm
        rw [hc0, retP_nil] at hQ
        simp -implicitDefEqProofs (disch := omega) only [hnn, simprocAttr, amset, tyset, Function.comp_apply, one1, lenV, calleeOf, lateOk, belowV, aop, AV.ofValue, AV.ofCell, AV.cells, AV.flat, AV.one, arep, aBin, aAppend, aConv]
        refine call_v (by kernel_rfl) (sortnil_c _) ?_
        simp -implicitDefEqProofs (disch := omega) only [simprocAttr, amset, tyset, Function.comp_apply, one1, lenV, calleeOf, lateOk, belowV, aop, AV.ofValue, AV.ofCell, AV.cells, AV.flat, AV.one, arep, aBin, aAppend, aConv]
        refine go_loop try_mixed (by kernel_rfl) (fun k F Hx => F = [(2, .ptr (some (H.length, 0))), (6, .ptr (some (H.length + 1, 0))), (53, .int .i64 0), (54, .int .i64 0)] ∧ Hx = H ++ [.cells true 0 [.int .i64 0, .int .i64 0, .sl none 0 (some 0)], .cells true 0 [.int .i64 x, .int .i64 y, .sl none 0 (some 0)]]) 1 ?_ ?_
        · refine ⟨_, _, _, ⟨rfl, rfl⟩, Abs.by hbel [1, 3] (by decide) ?_⟩
          exact absT
        · rintro k F Hx ⟨rfl, rfl⟩ J hJ
          simp -implicitDefEqProofs (disch := omega) only [Int.lt_irrefl, simprocAttr, amset, tyset, Function.comp_apply, one1, lenV, calleeOf, lateOk, belowV, aop, AV.ofValue, AV.ofCell, AV.cells, AV.flat, AV.one, arep, aBin, aAppend, aConv]
          exact hQ _ _ (end_plain (.inl rfl) hbel (x := .agg [.int .i64 x, .int .i64 y, .sl none 0 (some 0)]) (resT Tryz.results107) rfl ⟨rfl, rfl⟩)
      · simp -implicitDefEqProofs (disch := omega) only [hnn, simprocAttr, amset, tyset, Function.comp_apply, one1, lenV, calleeOf, lateOk, belowV, aop, AV.ofValue, AV.ofCell, AV.cells, AV.flat, AV.one, arep, aBin, aAppend, aConv]
        refine call_of (by kernel_rfl) (sortz_a (l := L) (by rw [get_newk]; rfl) (fun e he => ⟨hdu e he, ?_⟩) rfl hL0 (by omega)) ?_
        · have := hdb e he
          unfold Bd at *
          omega
        rintro x1 H1 ⟨rfl, S, hp, hs, rfl⟩
        have hcan := hme S hp hs
        have hSl : L.length = S.length := hp.length_eq.symm
        have hSb : ∀ e ∈ S, Bd 4194304 e := fun e he => hdb e (hp.mem_iff.1 he)
        clear hme
        have hm40 : S.length ≤ 40 := by omega
        rw [hSl]
        generalize hm : S.length = m at *
        simp -implicitDefEqProofs (disch := omega) only [simprocAttr, amset, tyset, Function.comp_apply, one1, lenV, calleeOf, lateOk, belowV, aop, AV.ofValue, AV.ofCell, AV.cells, AV.flat, AV.one, arep, aBin, aAppend, aConv]
        refine go_loop try_mixed (by kernel_rfl) (fun k F Hx => ∃ (j : Nat) (s : AV) (X : ABlk), j + k = m ∧ OutP (H.length + 3) s X (mergeL (S.take j)) ∧
          F = [(2, .ptr (some (H.length, 0))), (6, .ptr (some (H.length + 2, 0))), (52, .sl (some (H.length + 1, 0)) m none), (53, .int .i64 m), (54, .int .i64 (j : Nat))] ∧
          Hx = H ++ [.cells true 0 [.int .i64 0, .int .i64 0, .sl none 0 (some 0)], .cells true 2 (prs S), .cells true 0 [.int .i64 x, .int .i64 y, s], X]) m ?_ ?_
        · refine ⟨_, _, _, ⟨0, _, _, by omega, .inl ⟨rfl, rfl, rfl⟩, rfl, rfl⟩, Abs.by hbel [1, 2, 3, 4] (by decide) ?_⟩
          exact absT
        · rintro k F Hx ⟨j, s, X, hjk, hO, rfl, rfl⟩ J hJ
          by_cases hj : j < S.length
          · have hjj : (j : Int) < (m : Int) := by omega
            have q0 := prs_load hj
            have hg : gp S j = S[j] := gp_eq hj
            have hgb := hSb S[j] (List.getElem_mem hj)
            rw [← hg] at hgb
            have hbd : -4194304 ≤ g1 S j ∧ g1 S j ≤ 4194304 ∧ -4194304 ≤ g2 S j ∧ g2 S j ≤ 4194304 := hgb
            have hst : mergeL (S.take (j + 1)) = mst (mergeL (S.take j)) (gp S j) := by rw [List.take_succ_eq_append_getElem hj, mergeL, List.foldl_append, hg]; rfl
            have hmb := mergeL_bd (M := 4194304) (by decide) (S := S.take j) (fun e he => hSb e (List.mem_of_mem_take he))
            have hml := mergeL_len (S.take j)
            rw [List.length_take] at hmb hml
            generalize mergeL (S.take j) = L at *
            have hLt : List.take (L.length * 2) (prs L) = prs L := List.take_of_length_le (by rw [prs_len]; omega)
            rcases hO with ⟨rfl, rfl, rfl⟩ | ⟨hL1, rfl, rfl⟩
            · have hneg : ¬ (0 : Int) ≤ 0 - 1 := by omega
              simp -implicitDefEqProofs (disch := omega) only [hjj, q0, hneg, simprocAttr, amset, tyset, Function.comp_apply, one1, lenV, calleeOf, lateOk, belowV, aop, AV.ofValue, AV.ofCell, AV.cells, AV.flat, AV.one, arep, aBin, aAppend, aConv]
              repeat refine And.intro (by omega) ?_
              refine hJ _ _ ⟨k - 1, by omega, _, [(2, .ptr (some (H.length, 0))), (6, .ptr (some (H.length + 2, 0))), (52, .sl (some (H.length + 1, 0)) m none), (53, .int .i64 m), (54, .int .i64 ((j + 1 : Nat) : Int))], H ++ [.cells true 0 [.int .i64 0, .int .i64 0, .sl none 0 (some 0)], .cells true 2 (prs S), .cells true 0 [.int .i64 x, .int .i64 y, .sl (some (H.length + 3, 0)) (0 + 1) none], .cells true 2 (prs [gp S j])], ⟨j + 1, .sl (some (H.length + 3, 0)) (0 + 1) none, .cells true 2 (prs [gp S j]), by omega, by rw [hst, mst_nil]; exact .inr ⟨by simp, rfl, rfl⟩, rfl, rfl⟩, Abs.by hbel [0, 1, 2, 6] (by decide) ?_⟩
              exact absT
            · obtain ⟨p, hp1⟩ : ∃ p, L.length = p + 1 := ⟨L.length - 1, by omega⟩
              have hpi : (L.length : Int) - 1 = (p : Int) := by omega
              have hpl : p < L.length := by omega
              have hp0 : (0 : Int) ≤ (p : Int) := by omega
              have hgk : gp L p = L[p] := gp_eq hpl
              have hkb := hmb L[p] (List.getElem_mem hpl)
              rw [← hgk] at hkb
              have hkb2 : Bd 268435456 (gp L p) := by
                have : ((S.take j).length : Int) * 4194304 ≤ 40 * 4194304 := Int.mul_le_mul_of_nonneg_right (by rw [List.length_take]; omega) (by decide)
                unfold Bd at *
                omega
              have hkbd : -268435456 ≤ g1 L p ∧ g1 L p ≤ 268435456 ∧ -268435456 ≤ g2 L p ∧ g2 L p ≤ 268435456 := hkb2
              have hgb2 : Bd 268435456 (gp S j) := by unfold Bd at *; omega
              have q1 := prs_load hpl
              have hms := mst_pos (g := gp S j) hp1
              simp -implicitDefEqProofs (disch := omega) only [hjj, q0, hpi, q1, hp0, simprocAttr, amset, tyset, Function.comp_apply, one1, lenV, calleeOf, lateOk, belowV, aop, AV.ofValue, AV.ofCell, AV.cells, AV.flat, AV.one, arep, aBin, aAppend, aConv]
              repeat refine And.intro (by omega) ?_
              refine call_d (by kernel_rfl) (cross_c _ (gp L p) (gp S j) hkb2 hgb2) ?_
              cases hc : (crs (gp L p) (gp S j) == 0)
              · rw [if_neg (beq_eq_false_iff_ne.1 hc)] at hms
                simp -implicitDefEqProofs (disch := omega) only [hc, prs_snoc, hLt, q1, q0, simprocAttr, amset, tyset, Function.comp_apply, one1, lenV, calleeOf, lateOk, belowV, aop, AV.ofValue, AV.ofCell, AV.cells, AV.flat, AV.one, arep, aBin, aAppend, aConv]
                repeat refine And.intro (by omega) ?_
                refine hJ _ _ ⟨k - 1, by omega, _, [(2, .ptr (some (H.length, 0))), (6, .ptr (some (H.length + 2, 0))), (52, .sl (some (H.length + 1, 0)) m none), (53, .int .i64 m), (54, .int .i64 ((j + 1 : Nat) : Int))], H ++ [.cells true 0 [.int .i64 0, .int .i64 0, .sl none 0 (some 0)], .cells true 2 (prs S), .cells true 0 [.int .i64 x, .int .i64 y, .sl (some (H.length + 3, 0)) (L.length + 1) none], .cells true 2 (prs (L ++ [gp S j]))], ⟨j + 1, .sl (some (H.length + 3, 0)) (L.length + 1) none, .cells true 2 (prs (L ++ [gp S j])), by omega, by rw [hst, hms]; exact .inr ⟨by simp, by simp, rfl⟩, rfl, rfl⟩, Abs.by hbel [0, 1, 2, 6] (by decide) ?_⟩
                exact absT
              · rw [if_pos (beq_iff_eq.1 hc)] at hms
                have q2 := prs_at0 hpl
                have q3 := prs_at1 hpl
                have q4 := prs_set0 (v := g1 L p + g1 S j) hpl
                have q5 := prs_at1 (l := L.set p (g1 L p + g1 S j, g2 L p)) (j := p) (by simpa using hpl)
                have q6 := prs_set1 (l := L.set p (g1 L p + g1 S j, g2 L p)) (j := p) (v := g2 L p + g2 S j) (by simpa using hpl)
                have q7 : g2 (L.set p (g1 L p + g1 S j, g2 L p)) p = g2 L p := by simp [g2, List.getD_eq_getElem?_getD, hpl]
                have q8 : g1 (L.set p (g1 L p + g1 S j, g2 L p)) p = g1 L p + g1 S j := by simp [g1, List.getD_eq_getElem?_getD, hpl]
                rw [List.set_set, q8] at q6
                rw [q7] at q5
                simp -implicitDefEqProofs (disch := omega) only [hc, q0, q1, q2, q3, q4, q5, q6, simprocAttr, amset, tyset, Function.comp_apply, one1, lenV, calleeOf, lateOk, belowV, aop, AV.ofValue, AV.ofCell, AV.cells, AV.flat, AV.one, arep, aBin, aAppend, aConv]
                repeat refine And.intro (by omega) ?_
                refine hJ _ _ ⟨k - 1, by omega, _, [(2, .ptr (some (H.length, 0))), (6, .ptr (some (H.length + 2, 0))), (52, .sl (some (H.length + 1, 0)) m none), (53, .int .i64 m), (54, .int .i64 ((j + 1 : Nat) : Int))], H ++ [.cells true 0 [.int .i64 0, .int .i64 0, .sl none 0 (some 0)], .cells true 2 (prs S), .cells true 0 [.int .i64 x, .int .i64 y, .sl (some (H.length + 3, 0)) L.length none], .cells true 2 (prs (L.set p (padd (gp L p) (gp S j))))], ⟨j + 1, .sl (some (H.length + 3, 0)) L.length none, .cells true 2 (prs (L.set p (padd (gp L p) (gp S j)))), by omega, by rw [hst, hms]; exact .inr ⟨by simpa using hL1, by simp, rfl⟩, rfl, rfl⟩, Abs.by hbel [0, 1, 2, 3] (by decide) ?_⟩
                exact absT
          · have hnn : ¬ ((j : Int) < (m : Int)) := by omega
            rw [List.take_of_length_le (by omega), hcan] at hO
            rcases hO with ⟨h, rfl, rfl⟩ | ⟨h, rfl, rfl⟩
            · rw [h, retP_nil] at hQ
              simp -implicitDefEqProofs (disch := omega) only [hnn, simprocAttr, amset, tyset, Function.comp_apply, one1, lenV, calleeOf, lateOk, belowV, aop, AV.ofValue, AV.ofCell, AV.cells, AV.flat, AV.one, arep, aBin, aAppend, aConv]
              exact hQ _ _ (end_plain (.inl rfl) hbel (x := .agg [.int .i64 x, .int .i64 y, .sl none 0 (some 0)]) (resT Tryz.results107) rfl ⟨rfl, rfl⟩)
            · rw [retP_pos h] at hQ
              simp -implicitDefEqProofs (disch := omega) only [hnn, simprocAttr, amset, tyset, Function.comp_apply, one1, lenV, calleeOf, lateOk, belowV, aop, AV.ofValue, AV.ofCell, AV.cells, AV.flat, AV.one, arep, aBin, aAppend, aConv]
              refine hQ _ _ (end_by (.inl rfl) hbel (x1 := .agg [.int .i64 x, .int .i64 y, .sl (some (H.length + 3, 0)) (canonL l).length none]) (.agg [.int .i64 x, .int .i64 y, .sl (some (H.length, 0)) (canonL l).length none]) (resT Tryz.results107) [3] (by decide) ⟨rfl, rfl⟩ ?_)
              exact absT
open Go.RowKit
open Go.RowKit
theorem pst_bd {A B : Int} (hA : 0 ≤ A) (hB : 0 ≤ B) {g x : Pt} {st : List Pt × Bool} (h : ∀ e ∈ st.1, Bd (A + B) e) (hx : Bd A x) (hg : Bd B g) : ∀ e ∈ (pst g st x).1, Bd (A + B) e := by
  have hx' : Bd (A + B) x := by unfold Bd at *; omega
  have hg' : Bd (A + B) g := by unfold Bd at *; omega
  have hp : Bd (A + B) (padd x g) := by unfold Bd padd at *; simp only; omega
  unfold pst
  split
  · intro e he
    simp only [List.mem_append, List.mem_singleton] at he
    rcases he with he | rfl
    · exact h e he
    · exact hp
  · split
    · intro e he
      simp only [List.mem_append, List.mem_cons, List.not_mem_nil, or_false] at he
      rcases he with he | rfl | rfl
      · exact h e he
      · exact hg'
      · exact hx'
    · intro e he
      simp only [List.mem_append, List.mem_singleton] at he
      rcases he with he | rfl
      · exact h e he
      · exact hx'
theorem putC_bd {A B : Int} (hA : 0 ≤ A) (hB : 0 ≤ B) {g : Pt} {C : List Pt} (hC : ∀ e ∈ C, Bd A e) (hg : Bd B g) : ∀ e ∈ putC C g, Bd (A + B) e := by
  have gen : ∀ (D : List Pt) (st : List Pt × Bool), (∀ e ∈ D, Bd A e) → (∀ e ∈ st.1, Bd (A + B) e) → ∀ e ∈ (D.foldl (pst g) st).1, Bd (A + B) e := fun D => by
    induction D with
    | nil => intro st _ h; exact h
    | cons d D ih =>
      intro st hD h
      rw [List.foldl_cons]
      exact ih _ (fun e he => hD e (by simp [he])) (pst_bd hA hB h (hD d (by simp)) hg)
  have h1 := gen C ([], false) hC (by simp)
  have hg' : Bd (A + B) g := by unfold Bd at *; omega
  unfold putC
  simp only
  split
  · exact h1
  · intro e he
    simp only [List.mem_append, List.mem_singleton] at he
    rcases he with he | rfl
    · exact h1 e he
    · exact hg'
theorem canonL_snoc (l : List Pt) (g : Pt) : canonL (l ++ [g]) = putL (canonL l) g := by unfold canonL; rw [List.foldl_append]; rfl
theorem canonL_bd {M : Int} (hM : 0 ≤ M) {l : List Pt} (h : ∀ e ∈ l, Bd M e) : ∀ e ∈ canonL l, Bd (l.length * M) e := by
  revert h
  refine snoc_ind (P := fun l => (∀ e ∈ l, Bd M e) → ∀ e ∈ canonL l, Bd (l.length * M) e) (fun _ => by simp [canonL]) (fun l g ih h => ?_) l
  have ih := ih fun e he => h e (by simp [he])
  have hg := nrm_bd (h g (by simp))
  have e1 : ((l ++ [g]).length : Int) * M = l.length * M + M := by
    rw [List.length_append, Int.natCast_add, Int.add_mul]; simp
  have e2 : 0 ≤ (l.length : Int) * M := Int.mul_nonneg (by omega) hM
  rw [canonL_snoc, e1]
  unfold putL
  split
  · intro e he
    have := ih e he
    unfold Bd at *; omega
  · exact putC_bd e2 hM ih hg
theorem putC_len {C : List Pt} {g : Pt} (hg : up g) (hs : C.Pairwise fun a b => 0 < crs a b) (hu : ∀ e ∈ C, up e) : (putC C g).length ≤ C.length + 1 ∧ 0 < (putC C g).length := by
  rcases split_at hg C hs hu with ⟨A, B, rfl, h1, h2⟩ | ⟨A, e, B, rfl, h1, h0, h2⟩
  · rw [putC_none h1 h2]; simp; omega
  · rw [putC_some h1 h0 h2]; simp; omega
theorem canonL_len (l : List Pt) : (canonL l).length ≤ l.length := by
  refine snoc_ind (P := fun l => (canonL l).length ≤ l.length) (by simp [canonL]) (fun l g h => ?_) l
  rw [canonL_snoc, List.length_append, List.length_singleton]
  unfold putL
  split
  · omega
  · rename_i h0
    have hc := canonL_can l
    have := (putC_len (nrm_up h0) hc.sorted hc.ups).1
    omega
open Go.RowKit
open Go.RowKit
theorem within_iff {x m : Int} : within x m = true ↔ -m ≤ x ∧ x ≤ m := by unfold within; simp
def far4 (a b c d : Int) : Bool := within a 2097152 && within b 2097152 && within c 2097152 && within d 2097152
theorem far4_any (a b c d : Int) : (!([a, b, c, d] : List Int).any farB) = far4 a b c d := by
  simp only [List.any_cons, List.any_nil, farB, nearB, far4]
  cases within a 2097152 <;> cases within b 2097152 <;> cases within c 2097152 <;> cases within d 2097152 <;> rfl
theorem far4_bd {a b c d : Int} (h : far4 a b c d = true) : (-2097152 ≤ a ∧ a ≤ 2097152) ∧ (-2097152 ≤ b ∧ b ≤ 2097152) ∧ (-2097152 ≤ c ∧ c ≤ 2097152) ∧ (-2097152 ≤ d ∧ d ≤ 2097152) := by
  unfold far4 at h
  simp only [Bool.and_eq_true, within_iff] at h
  exact ⟨h.1.1.1, h.1.1.2, h.1.2, h.2⟩
/-- The error of OfRect. -/
def rectE (x0 y0 x1 y1 : Int) : Int := if far4 x0 y0 x1 y1 = true ∧ x0 ≤ x1 ∧ y0 ≤ y1 ∧ x1 - x0 ≤ 65536 ∧ y1 - y0 ≤ 65536 then 0 else 1
def segE (x0 y0 x1 y1 : Int) : Int := if far4 x0 y0 x1 y1 = true ∧ within (x0 - x1) 65536 = true ∧ within (y0 - y1) 65536 = true then 0 else 1
theorem rectE_bad {x0 y0 x1 y1 : Int} (h : ¬ (far4 x0 y0 x1 y1 = true ∧ x0 ≤ x1 ∧ y0 ≤ y1 ∧ x1 - x0 ≤ 65536 ∧ y1 - y0 ≤ 65536)) : rectE x0 y0 x1 y1 = 1 := if_neg h
/-- A zonogon handed back. -/
def zR (H : AHeap) (x y : Int) (L : List Pt) : AV × AHeap := (.agg [.int .i64 x, .int .i64 y, (retP H L).1], (retP H L).2)
theorem zR_nil {H : AHeap} {x y : Int} : zR H x y [] = (.agg [.int .i64 x, .int .i64 y, .sl none 0 (some 0)], H) := rfl
theorem zR_pos {H : AHeap} {x y : Int} {L : List Pt} (h : 0 < L.length) : zR H x y L = (.agg [.int .i64 x, .int .i64 y, .sl (some (H.length, 0)) L.length none], H ++ [.cells true 2 (prs L)]) := by unfold zR; rw [retP_pos h]
set_option maxRecDepth 100000 in
theorem canonical0_c (H : AHeap) (x y : Int) : ACalls Tryz.prog 107 [.agg [.int .i64 x, .int .i64 y, .sl none 0 (some 0)]] H (fun v H' => v = .agg [.int .i64 x, .int .i64 y, .sl none 0 (some 0)] ∧ H' = H) := by
  (refine ACalls_run try_mixed Tryz.func107 true _ rfl (Nat.le_of_ble_eq_true (by kernel_rfl)) (by kernel_rfl) ?_; intro hbel Q hQ hQ' c hc; unfold Tryz.f107 at hc; simp only [Option.some.injEq] at hc; subst hc; clear hQ')
  simp -implicitDefEqProofs (disch := omega) only [simprocAttr, amset, tyset, Function.comp_apply, one1, lenV, calleeOf, lateOk, belowV, aop, AV.ofValue, AV.ofCell, AV.cells, AV.flat, AV.one, arep, aBin, aAppend, aConv]
  refine go_loop try_mixed (by kernel_rfl) (fun k F Hx => F = [(1, .ptr (some (H.length, 0))), (2, .ptr (some (H.length + 1, 0))), (3, .sl none 0 (some 0)), (12, .int .i64 0), (13, .int .i64 0)] ∧ Hx = H ++ [.cells true 0 [.int .i64 x, .int .i64 y, .sl none 0 (some 0)], .cells true 0 [.int .i64 0, .int .i64 0, .sl none 0 (some 0)]]) 1 ?_ ?_
  · refine ⟨_, _, _, ⟨rfl, rfl⟩, Abs.by hbel [0, 1] (by decide) ?_⟩
    exact absT
  · rintro k F Hx ⟨rfl, rfl⟩ J hJ
    simp -implicitDefEqProofs (disch := omega) only [Int.lt_irrefl, simprocAttr, amset, tyset, Function.comp_apply, one1, lenV, calleeOf, lateOk, belowV, aop, AV.ofValue, AV.ofCell, AV.cells, AV.flat, AV.one, arep, aBin, aAppend, aConv]
    refine call_v (by kernel_rfl) (sortnil_c _) ?_
    simp -implicitDefEqProofs (disch := omega) only [simprocAttr, amset, tyset, Function.comp_apply, one1, lenV, calleeOf, lateOk, belowV, aop, AV.ofValue, AV.ofCell, AV.cells, AV.flat, AV.one, arep, aBin, aAppend, aConv]
    refine go_loop try_mixed (by kernel_rfl) (fun k F Hx => F = [(2, .ptr (some (H.length, 0))), (6, .ptr (some (H.length + 1, 0))), (53, .int .i64 0), (54, .int .i64 0)] ∧ Hx = H ++ [.cells true 0 [.int .i64 0, .int .i64 0, .sl none 0 (some 0)], .cells true 0 [.int .i64 x, .int .i64 y, .sl none 0 (some 0)]]) 1 ?_ ?_
    · refine ⟨_, _, _, ⟨rfl, rfl⟩, Abs.by hbel [1, 2] (by decide) ?_⟩
      exact absT
    · rintro k F Hx ⟨rfl, rfl⟩ J hJ
      simp -implicitDefEqProofs (disch := omega) only [Int.lt_irrefl, simprocAttr, amset, tyset, Function.comp_apply, one1, lenV, calleeOf, lateOk, belowV, aop, AV.ofValue, AV.ofCell, AV.cells, AV.flat, AV.one, arep, aBin, aAppend, aConv]
      exact hQ _ _ (end_plain (.inl rfl) hbel (x := .agg [.int .i64 x, .int .i64 y, .sl none 0 (some 0)]) (resT Tryz.results107) rfl ⟨rfl, rfl⟩)
theorem canonical_a (H : AHeap) (x y : Int) (s : AV) (l : List Pt) (hs : IsP H s l) (hl : l.length ≤ 40) (hB : ∀ e ∈ l, Bd 4194304 e) :
    ACalls Tryz.prog 107 [.agg [.int .i64 x, .int .i64 y, s]] H (fun v H' => v = (zR H x y (canonL l)).1 ∧ H' = (zR H x y (canonL l)).2) := by
  rcases hs with ⟨rfl, rfl⟩ | ⟨b, own, cap, rfl, hb⟩
  · exact canonical0_c H x y
  · exact canonical_c H x y b own cap l hb hl hB
theorem valid_bd {x y : Int} {l : List Pt} (h : validB x y l = true) : l.length ≤ 16 ∧ ∀ e ∈ l, Bd 65536 e := by
  unfold validB at h
  simp only [Bool.and_eq_true, decide_eq_true_eq, Bool.not_eq_true'] at h
  refine ⟨h.1.2, fun e he => ?_⟩
  have := List.any_eq_false.1 h.2 e he
  simp only [wrongB, Bool.not_eq_true', Bool.not_eq_false, Bool.and_eq_true, within_iff] at this
  exact ⟨this.1.1, this.1.2, this.2.1, this.2.2⟩
open Go.RowKit
def dotP (n g : Pt) : Int := n.1 * g.1 + n.2 * g.2
def spr (n : Pt) : List Pt → Int
  | [] => 0
  | g :: l => absI (dotP n g) + spr n l
theorem spr_app (n : Pt) : ∀ l m : List Pt, spr n (l ++ m) = spr n l + spr n m
  | [], m => by simp [spr]
  | g :: l, m => by simp only [List.cons_append, spr, spr_app n l m]; omega
theorem absI_bd {x M : Int} (h : -M ≤ x ∧ x ≤ M) : 0 ≤ absI x ∧ absI x ≤ M := by unfold absI; split <;> omega
theorem dotP_bd {a b : Pt} {A B : Int} (h1 : Bd A a) (h2 : Bd B b) : (-(A * B) ≤ a.1 * b.1 ∧ a.1 * b.1 ≤ A * B) ∧ (-(A * B) ≤ a.2 * b.2 ∧ a.2 * b.2 ≤ A * B) :=
  ⟨mul_bd ⟨h1.1, h1.2.1⟩ ⟨h2.1, h2.2.1⟩, mul_bd ⟨h1.2.2.1, h1.2.2.2⟩ ⟨h2.2.2.1, h2.2.2.2⟩⟩
theorem spr_bd {n : Pt} (hn : Bd 268435456 n) : ∀ l : List Pt, (∀ e ∈ l, Bd 268435456 e) → 0 ≤ spr n l ∧ spr n l ≤ l.length * 144115188075855872
  | [], _ => by simp [spr]
  | g :: l, h => by
    have ih := spr_bd hn l fun e he => h e (by simp [he])
    have hd := dotP_bd hn (h g (by simp))
    have ha := absI_bd (x := dotP n g) (M := 144115188075855872) (by unfold dotP; omega)
    simp only [spr, List.length_cons, Int.natCast_add]
    omega
set_option maxRecDepth 100000 in
theorem spread_c (H : AHeap) (s : AV) (l : List Pt) (n : Pt) (hs : IsP H s l) (hl : l.length ≤ 40) (hB : ∀ e ∈ l, Bd 268435456 e) (hn : Bd 268435456 n) : ACalls Tryz.prog 126 [s, pv n] H (fun v H' => v = .int .i64 (spr n l) ∧ H' = H) := by
  rcases hs with ⟨rfl, rfl⟩ | ⟨b, own, cap, rfl, hb⟩
  · (refine ACalls_run try_mixed Tryz.func126 true _ rfl (Nat.le_of_ble_eq_true (by kernel_rfl)) (by kernel_rfl) ?_; intro hbel Q hQ hQ' c hc; unfold Tryz.f126 at hc; simp only [Option.some.injEq] at hc; subst hc; clear hQ')
    simp -implicitDefEqProofs (disch := omega) only [simprocAttr, amset, tyset, Function.comp_apply, one1, lenV, calleeOf, lateOk, belowV, aop, AV.ofValue, AV.ofCell, AV.cells, AV.flat, AV.one, arep, aBin, aAppend, aConv]
    refine go_loop try_mixed (by kernel_rfl) (fun k F Hx => F = [(5, .int .i64 0), (9, .int .i64 0), (10, .int .i64 0)] ∧ Hx = H) 1 ?_ ?_
    · refine ⟨_, _, _, ⟨rfl, (List.append_nil H).symm ▸ rfl⟩, Abs.by (l2 := []) hbel [] (by decide) ?_⟩
      exact absT
    · rintro k F Hx ⟨rfl, rfl⟩ J hJ
      simp -implicitDefEqProofs (disch := omega) only [Int.lt_irrefl, simprocAttr, amset, tyset, Function.comp_apply, one1, lenV, calleeOf, lateOk, belowV, aop, AV.ofValue, AV.ofCell, AV.cells, AV.flat, AV.one, arep, aBin, aAppend, aConv]
      exact hQ _ _ (end_plain0 (.inl rfl) hbel (x := .int .i64 0) (resT Tryz.results126) rfl ⟨rfl, rfl⟩)
  have hbl := getElem?_lt hb
  have hb0 := fun l => get_app (l := l) hb
  generalize hm : l.length = m at *
  (refine ACalls_run try_mixed Tryz.func126 true _ rfl (Nat.le_of_ble_eq_true (by kernel_rfl)) (by kernel_rfl) ?_; intro hbel Q hQ hQ' c hc; unfold Tryz.f126 at hc; simp only [Option.some.injEq] at hc; subst hc; clear hQ')
  simp -implicitDefEqProofs (disch := omega) only [simprocAttr, amset, tyset, Function.comp_apply, one1, lenV, calleeOf, lateOk, belowV, aop, AV.ofValue, AV.ofCell, AV.cells, AV.flat, AV.one, arep, aBin, aAppend, aConv]
  refine go_loop try_mixed (by kernel_rfl) (fun k F Hx => ∃ i : Nat, i + k = m ∧ F = [(3, .ptr (some (H.length, 0))), (5, .int .i64 (spr n (l.take i))), (8, .sl (some (b, 0)) m none), (9, .int .i64 m), (10, .int .i64 (i : Nat))] ∧ Hx = H ++ [.cells true 0 [.int .i64 n.1, .int .i64 n.2]]) m ?_ ?_
  · refine ⟨_, _, _, ⟨0, by omega, rfl, rfl⟩, Abs.by hbel [0] (by decide) ?_⟩
    exact absT
  · rintro k F Hx ⟨i, hik, rfl, rfl⟩ J hJ
    by_cases hi : i < l.length
    · have hii : (i : Int) < (m : Int) := by omega
      have q0 := prs_load hi
      have hg : gp l i = l[i] := gp_eq hi
      have hgb := hB l[i] (List.getElem_mem hi)
      rw [← hg] at hgb
      have hd := dotP_bd hn hgb
      have hsb := spr_bd hn (l.take i) fun e he => hB e (List.mem_of_mem_take he)
      have hsl : ((l.take i).length : Int) * 144115188075855872 ≤ 39 * 144115188075855872 := Int.mul_le_mul_of_nonneg_right (by rw [List.length_take]; omega) (by decide)
      have ha := absI_bd (x := dotP n (gp l i)) (M := 144115188075855872) (by unfold dotP; omega)
      have hst : spr n (l.take (i + 1)) = spr n (l.take i) + absI (dotP n (gp l i)) := by rw [List.take_succ_eq_append_getElem hi, spr_app, hg]; simp [spr]
      have hdd : n.1 * g1 l i + n.2 * g2 l i = dotP n (gp l i) := rfl
      have hd2 : (-(268435456 * 268435456) ≤ n.1 * g1 l i ∧ n.1 * g1 l i ≤ 268435456 * 268435456) ∧ (-(268435456 * 268435456) ≤ n.2 * g2 l i ∧ n.2 * g2 l i ≤ 268435456 * 268435456) := hd
      simp -implicitDefEqProofs (disch := omega) only [hii, hb0, q0, simprocAttr, amset, tyset, Function.comp_apply, one1, lenV, calleeOf, lateOk, belowV, aop, AV.ofValue, AV.ofCell, AV.cells, AV.flat, AV.one, arep, aBin, aAppend, aConv]
      repeat refine And.intro (by omega) ?_
      refine call_v (by kernel_rfl) (abs_c _ _ (by omega)) ?_
      rw [hdd]
      simp -implicitDefEqProofs (disch := omega) only [simprocAttr, amset, tyset, Function.comp_apply, one1, lenV, calleeOf, lateOk, belowV, aop, AV.ofValue, AV.ofCell, AV.cells, AV.flat, AV.one, arep, aBin, aAppend, aConv]
      repeat refine And.intro (by omega) ?_
      refine hJ _ _ ⟨k - 1, by omega, _, _, _, ⟨i + 1, by omega, rfl, rfl⟩, Abs.by hbel [0] (by decide) ?_⟩
      rw [hst]
      exact absT
    · have hnn : ¬ ((i : Int) < (m : Int)) := by omega
      simp -implicitDefEqProofs (disch := omega) only [hnn, simprocAttr, amset, tyset, Function.comp_apply, one1, lenV, calleeOf, lateOk, belowV, aop, AV.ofValue, AV.ofCell, AV.cells, AV.flat, AV.one, arep, aBin, aAppend, aConv]
      exact hQ _ _ (end_plain (.inl rfl) hbel (x := .int .i64 (spr n (l.take i))) (resT Tryz.results126) rfl ⟨by rw [List.take_of_length_le (by omega)], rfl⟩)
set_option maxRecDepth 100000 in
theorem clone_c (H : AHeap) (s : AV) (l : List Pt) (hs : IsP H s l) (hl : l.length ≤ 1000000) (h0 : 0 < l.length) : ACalls Tryz.prog 124 [s] H (fun v H' => v = .sl (some (H.length, 0)) l.length none ∧ H' = H ++ [.cells true 2 (prs l)]) := by
  obtain ⟨b, own, cap, rfl, hb⟩ := hs.pos h0
  have hbl := getElem?_lt hb
  have hb0 := fun l => get_app (l := l) hb
  generalize hm : l.length = m at *
  (refine ACalls_run try_mixed Tryz.func124 true _ rfl (Nat.le_of_ble_eq_true (by kernel_rfl)) (by kernel_rfl) ?_; intro hbel Q hQ hQ' c hc; unfold Tryz.f124 at hc; simp only [Option.some.injEq] at hc; subst hc; clear hQ')
  have htk : List.take (m * 2) (prs l) = prs l := List.take_of_length_le (by rw [prs_len]; omega)
  have hm0 : (m == 0) = false := beq_eq_false_iff_ne.2 (by omega)
  have hm1 : (m != 0) = true := bne_iff_ne.2 (by omega)
  simp -implicitDefEqProofs (disch := omega) only [hb, hb0, Option.isNone_some, hm0, h0, htk, nilKnown, hm1, simprocAttr, amset, tyset, Function.comp_apply, one1, lenV, calleeOf, lateOk, belowV, aop, AV.ofValue, AV.ofCell, AV.cells, AV.flat, AV.one, arep, aBin, aAppend, aConv]
  repeat refine And.intro (by omega) ?_
  refine hQ _ _ (end_by (.inl rfl) hbel (x1 := .sl (some (H.length + 1, 0)) m none) (.sl (some (H.length, 0)) m none) (resT Tryz.results124) [1] (by decide) ⟨rfl, rfl⟩ ?_)
  exact absT
theorem clonenil_c (H : AHeap) : ACalls Tryz.prog 124 [.sl none 0 (some 0)] H (fun v H' => v = .sl none 0 (some 0) ∧ H' = H) := by
  (refine ACalls_run try_mixed Tryz.func124 true _ rfl (Nat.le_of_ble_eq_true (by kernel_rfl)) (by kernel_rfl) ?_; intro hbel Q hQ hQ' c hc; unfold Tryz.f124 at hc; simp only [Option.some.injEq] at hc; subst hc; clear hQ')
  simp -implicitDefEqProofs (disch := omega) only [Option.isNone_none, nilKnown, simprocAttr, amset, tyset, Function.comp_apply, one1, lenV, calleeOf, lateOk, belowV, aop, AV.ofValue, AV.ofCell, AV.cells, AV.flat, AV.one, arep, aBin, aAppend, aConv]
  exact hQ _ _ (end_plain0 (.inl rfl) hbel (x := .sl none 0 (some 0)) (resT Tryz.results124) rfl ⟨rfl, rfl⟩)
theorem clone0_c (H : AHeap) (b : Nat) (hb : H[b]? = some (.cells false 2 [])) : ACalls Tryz.prog 124 [.sl (some (b, 1)) 0 (some 0)] H (fun v H' => v = .sl (some (H.length, 0)) 0 (some 0) ∧ H' = H ++ [.cells true 2 []]) := by
  have hb0 := fun l => get_app (l := l) hb
  have hbl := getElem?_lt hb
  (refine ACalls_run try_mixed Tryz.func124 true _ rfl (Nat.le_of_ble_eq_true (by kernel_rfl)) (by kernel_rfl) ?_; intro hbel Q hQ hQ' c hc; unfold Tryz.f124 at hc; simp only [Option.some.injEq] at hc; subst hc; clear hQ')
  have hk : nilKnown (some (b, 1)) 0 (some 0) = true := rfl
  simp -implicitDefEqProofs (disch := omega) only [hb, hb0, Option.isNone_some, hk, simprocAttr, amset, tyset, Function.comp_apply, one1, lenV, calleeOf, lateOk, belowV, aop, AV.ofValue, AV.ofCell, AV.cells, AV.flat, AV.one, arep, aBin, aAppend, aConv]
  refine hQ _ _ (end_by (.inl rfl) hbel (x1 := .sl (some (H.length, 0)) 0 (some 0)) (.sl (some (H.length, 0)) 0 (some 0)) (resT Tryz.results124) [0] (by decide) ⟨rfl, rfl⟩ ?_)
  exact absT
theorem cloneempty_c (H : AHeap) (b : Nat) (cap : Option Nat) (own : Bool) (hb : H[b]? = some (.cells own 2 [])) : ACalls Tryz.prog 124 [.sl (some (b, 0)) 0 cap] H (fun v H' => v = .sl (some (H.length, 0)) 0 (some 0) ∧ H' = H ++ [.cells false 2 []]) := by
  have hb0 := fun l => get_app (l := l) hb
  have hbl := getElem?_lt hb
  refine ACalls.nilsplit (es := 2) (x := .sl (some (H.length + 1, 0)) 0 (some 0)) (l1 := [.cells false 2 [], .cells true 2 []]) ?_ (fun c hc => ?_) ?_ [] rfl [1] (by decide) ?_
  · refine (clonenil_c H).weak0 [.cells false 2 []] rfl [0] (by decide) _ _ ?_
    exact absT
  · have hc1 : (c != 0) = true := bne_iff_ne.2 (by omega)
    (refine ACalls_run try_mixed Tryz.func124 true _ rfl (Nat.le_of_ble_eq_true (by kernel_rfl)) (by kernel_rfl) ?_; intro hbel Q hQ hQ' c hc; unfold Tryz.f124 at hc; simp only [Option.some.injEq] at hc; subst hc; clear hQ')
    simp -implicitDefEqProofs (disch := omega) only [hb, hb0, Option.isNone_some, nilKnown, hc1, Nat.reduceBNe, simprocAttr, amset, tyset, Function.comp_apply, one1, lenV, calleeOf, lateOk, belowV, aop, AV.ofValue, AV.ofCell, AV.cells, AV.flat, AV.one, arep, aBin, aAppend, aConv]
    refine hQ _ _ (end_byG (.inl rfl) hbel (x1 := .sl (some (H.length, 0)) 0 (some 0)) (l2 := [.cells false 2 []]) (.sl (some (H.length, 0)) 0 (some 0)) (resT Tryz.results124) [] rfl [0] (by decide) ⟨rfl, rfl⟩ ?_)
    exact absT
  · have hh := clone0_c (H ++ [.cells false 2 []]) H.length (by rw [get_new0]; rfl)
    refine hh.mono fun y H1 ⟨h1, h2⟩ => ⟨by rw [h1]; simp, by rw [h2]; simp⟩
  · exact absT
open Go.RowKit
theorem valid_bd3 {x y : Int} {l : List Pt} (h : validB x y l = true) : (-8388608 ≤ x ∧ x ≤ 8388608) ∧ -8388608 ≤ y ∧ y ≤ 8388608 := by
  unfold validB at h
  simp only [Bool.and_eq_true, within_iff] at h
  exact ⟨h.1.1.1, h.1.1.2⟩
theorem canonical_u (H : AHeap) (x y : Int) (s : AV) (l : List Pt) (hs : IsP H s l) (hl : l.length ≤ 40) (hB : ∀ e ∈ l, Bd 4194304 e) :
    ACalls Tryz.prog 107 [.agg [.int .i64 x, .int .i64 y, s]] H (fun v H' => v = .agg [.int .i64 x, .int .i64 y, .sl (some (H.length, 0)) (canonL l).length (capG (canonL l).length)] ∧ H' = H ++ [.cells (ownG (canonL l).length) 2 (prs (canonL l))]) := by
  have h := canonical_a H x y s l hs hl hB
  rcases Nat.eq_zero_or_pos (canonL l).length with h0 | h0
  · rw [List.eq_nil_of_length_eq_zero h0] at h ⊢
    simp only [zR_nil] at h
    refine ACalls.weak0 h [.cells false 2 []] rfl [0] (by decide) _ _ ?_
    exact absTf (jn @List.length_nil.{0} (jn @capG_0 (jn @ownG_0 @prs_nil)))
  · rw [zR_pos h0] at h
    refine ACalls.weak h [] rfl [0] (by decide) _ _ ?_
    rw [capG_p h0, ownG_p h0]
    generalize canonL l = L
    exact absT
theorem bounds_c (H : AHeap) (x : Int) (y : Int) (s : AV) (l : List (Int × Int)) (hs : Sl H 2 s l.length (prs l)) (hv : validB x y l = true) : ACalls Tryz.prog 120 [.agg [.int .i64 x, .int .i64 y, s]] H (fun v H' => v = .agg [.int .i64 (x - spr (1, 0) l), .int .i64 (y - spr (0, 1) l), .int .i64 (x + spr (1, 0) l), .int .i64 (y + spr (0, 1) l)] ∧ H' = H) := by
  obtain ⟨bs, os, cs, rfl, hbs⟩ := hs
  have hbls := getElem?_lt hbs
  have hb0s := fun l => get_app (l := l) hbs
  obtain ⟨hl16, hlB⟩ := valid_bd hv
  have hxy := valid_bd3 hv
  have hB2 : ∀ e ∈ l, Bd 268435456 e := fun e he => by have := hlB e he; unfold Bd at *; omega
  have hB4 : ∀ e ∈ l, Bd 4194304 e := fun e he => by have := hlB e he; unfold Bd at *; omega
  have hs1 := spr_bd (n := (1, 0)) (by unfold Bd; simp) l hB2
  have hs2 := spr_bd (n := (0, 1)) (by unfold Bd; simp) l hB2
  refine AcT true Tryz.func120 ?_; intro hbel Q hQ
  have g'1 := (jn @hbs @hb0s)
  refine runTf g'1 ?_
  refine call_d (by kernel_rfl) (spread_c _ _ l (1, 0) (.inr ⟨_, _, _, rfl, by first | exact hb0s _ | exact hbs⟩) (by omega) (by assumption) (by first | assumption | (unfold Bd; simp only; omega) | (unfold Bd at *; simp only at *; omega) | (unfold Bd; simp; omega) | (unfold Bd; simp))) ?_
  refine runTf g'1 ?_
  refine call_d (by kernel_rfl) (spread_c _ _ l (0, 1) (.inr ⟨_, _, _, rfl, by first | exact hb0s _ | exact hbs⟩) (by omega) (by assumption) (by first | assumption | (unfold Bd; simp only; omega) | (unfold Bd at *; simp only at *; omega) | (unfold Bd; simp; omega) | (unfold Bd; simp))) ?_
  refine runTf g'1 ?_
  exact hQ _ _ (end_plain (.inl rfl) hbel (x := .agg [.int .i64 (x - (spr (1, 0) l)), .int .i64 (y - (spr (0, 1) l)), .int .i64 (x + (spr (1, 0) l)), .int .i64 (y + (spr (0, 1) l))]) (resT Tryz.results120) rfl ⟨by simp [true_and], rfl⟩)
def ifv (b : Bool) (v : Int) : Int := if b = true then v else 0
theorem Bounds_c (H : AHeap) (x : Int) (y : Int) (s : AV) (l : List (Int × Int)) (hs : Sl H 2 s l.length (prs l)) : ACalls Tryz.prog 64 [.agg [.int .i64 x, .int .i64 y, s]] H (fun v H' => v = .tup [.agg [.int .i64 (ifv (validB x y l) (x - spr (1, 0) l)), .int .i64 (ifv (validB x y l) (y - spr (0, 1) l)), .int .i64 (ifv (validB x y l) (x + spr (1, 0) l)), .int .i64 (ifv (validB x y l) (y + spr (0, 1) l))], .int .i64 (if validB x y l = true then 0 else 1)] ∧ H' = H) := by
  obtain ⟨bs, os, cs, rfl, hbs⟩ := hs
  have hbls := getElem?_lt hbs
  have hb0s := fun l => get_app (l := l) hbs
  refine AcT true Tryz.func64 ?_; intro hbel Q hQ
  have g'2 := (jn @hbs @hb0s)
  refine runTf g'2 ?_
  refine call_v (by kernel_rfl) (valid_c _ x y _ l (.inr ⟨_, _, _, rfl, by first | exact hb0s _ | exact hbs⟩)) ?_
  refine runTf g'2 ?_
  refine cond_split (fun h1 => ?_) (fun h1 => ?_)
  · have h1d := h1
    try simp only [Bool.not_eq_true', Bool.not_eq_false', decide_eq_true_eq, decide_eq_false_iff_not, beq_iff_eq, bne_iff_ne, ne_eq, Bool.not_eq_true, Bool.not_eq_false, beq_eq_false_iff_ne, bne_eq_false_iff_eq, Classical.not_not, Bool.and_eq_true, Bool.and_eq_false_imp] at h1d
    have g'3 := (jn @h1 (jn @h1d g'2))
    refine runTf g'3 ?_
    exact hQ _ _ (end_plain (.inl rfl) hbel (x := .tup [.agg [.int .i64 0, .int .i64 0, .int .i64 0, .int .i64 0], .int .i64 1]) (resT Tryz.results64) rfl ⟨by simp [ifv, h1d], rfl⟩)
  · have h1d := h1
    try simp only [Bool.not_eq_true', Bool.not_eq_false', decide_eq_true_eq, decide_eq_false_iff_not, beq_iff_eq, bne_iff_ne, ne_eq, Bool.not_eq_true, Bool.not_eq_false, beq_eq_false_iff_ne, bne_eq_false_iff_eq, Classical.not_not, Bool.and_eq_true, Bool.and_eq_false_imp] at h1d
    have g'4 := (jn @h1 (jn @h1d g'2))
    refine runTf g'4 ?_
    refine call_v (by kernel_rfl) (bounds_c _ x y _ l ⟨_, _, _, rfl, by first | exact hb0s _ | exact hbs⟩ (by assumption)) ?_
    refine runTf g'4 ?_
    exact hQ _ _ (end_plain (.inl rfl) hbel (x := .tup [.agg [.int .i64 (x - spr (1, 0) l), .int .i64 (y - spr (0, 1) l), .int .i64 (x + spr (1, 0) l), .int .i64 (y + spr (0, 1) l)], .int .i64 0]) (resT Tryz.results64) rfl ⟨by simp [ifv, h1d], rfl⟩)
theorem gpb {M : Int} {l : List Pt} (h : ∀ e ∈ l, Bd M e) {i : Nat} (hi : i < l.length) : -M ≤ g1 l i ∧ g1 l i ≤ M ∧ -M ≤ g2 l i ∧ g2 l i ≤ M := by
  have := h l[i] (List.getElem_mem hi)
  rw [← gp_eq hi] at this
  exact this
open Go.RowKit
/-- The directions that are tried. -/
def nrmls (L : List Pt) : List Pt := [(1, 0), (0, 1)] ++ L.flatMap fun g => [(0 - g.2, g.1), g]
/-- A direction in which d is beyond the sum. -/
def beyond (L : List Pt) (d n : Pt) : Bool := decide (spr n L < absI (dotP n d))
def apartB (x y : Int) (l : List Pt) (x0 y0 x1 y1 : Int) : Bool :=
  validB x y l && (far4 x0 y0 x1 y1 && decide (x0 ≤ x1 ∧ y0 ≤ y1) && (nrmls (canonL (l ++ [(x1 - x0, 0), (0, y1 - y0)]))).any (beyond (canonL (l ++ [(x1 - x0, 0), (0, y1 - y0)])) (x0 + x1 - x, y0 + y1 - y)))
theorem nrmls_step {L : List Pt} {i : Nat} (h : i < L.length) : nrmls (L.take (i + 1)) = nrmls (L.take i) ++ [(0 - g2 L i, g1 L i), (g1 L i, g2 L i)] := by
  unfold nrmls
  rw [List.take_succ_eq_append_getElem h, List.flatMap_append, ← gp_eq h, List.append_assoc]
  simp [gp]
theorem nrmls_len (L : List Pt) : (nrmls L).length = 2 + 2 * L.length := by
  unfold nrmls
  rw [List.length_append]
  have : ∀ l : List Pt, (l.flatMap fun g => [(0 - g.2, g.1), g]).length = 2 * l.length := fun l => by
    induction l with
    | nil => rfl
    | cons g l ih => rw [List.flatMap_cons, List.length_append, ih]; simp; omega
  rw [this]; rfl
theorem nrmls_bd {M : Int} (hM : 1 ≤ M) {L : List Pt} (h : ∀ e ∈ L, Bd M e) : ∀ e ∈ nrmls L, Bd M e := fun e he => by
  unfold nrmls at he
  simp only [List.mem_append, List.mem_cons, List.not_mem_nil, or_false, List.mem_flatMap] at he
  rcases he with (rfl | rfl) | ⟨g, hg, rfl | rfl⟩
  · unfold Bd; simp only; omega
  · unfold Bd; simp only; omega
  · have := h g hg; unfold Bd at *; simp only; omega
  · exact h _ hg
theorem any_gp {p : Pt → Bool} {N : List Pt} {j : Nat} (hj : j < N.length) (h : p (gp N j) = true) : N.any p = true := List.any_eq_true.2 ⟨N[j], List.getElem_mem hj, by rw [← gp_eq hj]; exact h⟩
theorem nrmls_nil : nrmls [] = [(1, 0), (0, 1)] := rfl
open Go.RowKit
open Go.RowKit
open Go.RowKit
theorem absI_neg (x : Int) : absI (-x) = absI x := by unfold absI; split <;> split <;> omega
theorem absI_le {x M : Int} : absI x ≤ M ↔ -M ≤ x ∧ x ≤ M := by unfold absI; split <;> omega
theorem absI_nn (x : Int) : 0 ≤ absI x := by unfold absI; split <;> omega
theorem absI_of_nn {x : Int} (h : 0 ≤ x) : absI x = x := by unfold absI; split <;> omega
theorem absI_of_np {x : Int} (h : x ≤ 0) : absI x = -x := by unfold absI; split <;> omega
theorem absI_zero : absI 0 = 0 := rfl
theorem dotP_add (n g h : Pt) : dotP n (padd g h) = dotP n g + dotP n h := by unfold dotP padd; simp only [Int.mul_add]; omega
theorem dotP_neg (n g : Pt) : dotP n (-g.1, -g.2) = -dotP n g := by unfold dotP; simp only [Int.mul_neg]; omega
theorem dotP_negl (n g : Pt) : dotP (-n.1, -n.2) g = -dotP n g := by unfold dotP; simp only [Int.neg_mul]; omega
theorem dotP_zero (n : Pt) : dotP n (0, 0) = 0 := by unfold dotP; simp
theorem par_pos {g h : Pt} (hg : up g) (hh : up h) (h0 : crs g h = 0) : ∃ a b : Int, 0 < a ∧ 0 < b ∧ a * h.1 = b * g.1 ∧ a * h.2 = b * g.2 := by
  unfold crs at h0
  have e1 : g.1 * h.2 = g.2 * h.1 := by omega
  rcases Int.lt_or_eq_of_le (up_y hg) with g2 | g2
  · have h2 : 0 < h.2 := by
      rcases Int.lt_or_eq_of_le (up_y hh) with h2 | h2
      · exact h2
      · exfalso
        rw [← h2, Int.mul_zero] at e1
        have : h.1 = 0 := by
          rcases Int.mul_eq_zero.1 e1.symm with h | h
          · omega
          · exact h
        unfold up at hh; omega
    exact ⟨g.2, h.2, g2, h2, by rw [← e1, Int.mul_comm], Int.mul_comm _ _⟩
  · have g1p : 0 < g.1 := by unfold up at hg; omega
    rw [← g2, Int.zero_mul] at e1
    have h2 : h.2 = 0 := by
      rcases Int.mul_eq_zero.1 e1 with h | h
      · omega
      · exact h
    have h1p : 0 < h.1 := by unfold up at hh; omega
    exact ⟨g.1, h.1, g1p, h1p, Int.mul_comm _ _, by rw [h2, ← g2]; simp⟩
theorem abs_par {g h : Pt} (hg : up g) (hh : up h) (h0 : crs g h = 0) (n : Pt) : absI (dotP n (padd g h)) = absI (dotP n g) + absI (dotP n h) := by
  obtain ⟨a, b, ha, hb, e1, e2⟩ := par_pos hg hh h0
  have e : a * dotP n h = b * dotP n g := by
    unfold dotP
    have q1 : a * (n.1 * h.1 + n.2 * h.2) = n.1 * (a * h.1) + n.2 * (a * h.2) := by grind
    have q2 : b * (n.1 * g.1 + n.2 * g.2) = n.1 * (b * g.1) + n.2 * (b * g.2) := by grind
    rw [q1, q2, e1, e2]
  rw [dotP_add]
  rcases Int.le_total 0 (dotP n g) with k | k
  · have h1 : 0 ≤ dotP n h := nonneg_of (a := a) (by rw [e]; exact Int.mul_nonneg (by omega) k) ha
    rw [absI_of_nn k, absI_of_nn h1, absI_of_nn (by omega)]
  · have h1 : 0 ≤ -dotP n h := nonneg_of (a := a) (by rw [Int.mul_neg, e, ← Int.mul_neg]; exact Int.mul_nonneg (by omega) (by omega)) ha
    rw [absI_of_np k, absI_of_np (by omega : dotP n h ≤ 0), absI_of_np (by omega)]; omega
theorem spr_cons (n g : Pt) (l : List Pt) : spr n (g :: l) = absI (dotP n g) + spr n l := rfl
theorem spr_nn (n : Pt) : ∀ l : List Pt, 0 ≤ spr n l
  | [] => by simp [spr]
  | g :: l => by have := spr_nn n l; have := absI_nn (dotP n g); rw [spr_cons]; omega
theorem spr_putC {C : List Pt} {g : Pt} (hg : up g) (hs : C.Pairwise fun a b => 0 < crs a b) (hu : ∀ e ∈ C, up e) (n : Pt) : spr n (putC C g) = spr n C + absI (dotP n g) := by
  rcases split_at hg C hs hu with ⟨A, B, rfl, h1, h2⟩ | ⟨A, e, B, rfl, h1, h0, h2⟩
  · rw [putC_none h1 h2, spr_app, spr_app, spr_cons]; omega
  · rw [putC_some h1 h0 h2, spr_app, spr_app, spr_cons, spr_cons, abs_par (hu e (by simp)) hg (by rw [crs_anti]; omega)]; omega
theorem abs_nrm (n g : Pt) : absI (dotP n (nrm g)) = absI (dotP n g) := by
  unfold nrm; split
  · rw [dotP_neg, absI_neg]
  · rfl
/-- The canonical form reaches as far as the generators. -/
theorem spr_canon (n : Pt) (l : List Pt) : spr n (canonL l) = spr n l := by
  refine snoc_ind (P := fun l => spr n (canonL l) = spr n l) rfl (fun S g ih => ?_) l
  have hc := canonL_can S
  rw [canonL_snoc, spr_app, spr_cons, ← abs_nrm n g]
  show spr n (putL (canonL S) g) = spr n S + (absI (dotP n (nrm g)) + 0)
  unfold putL
  split
  · rename_i h; rw [h, dotP_zero, ih, absI_zero]; omega
  · rename_i h; rw [spr_putC (nrm_up h) hc.sorted hc.ups, ih]; omega
theorem spr_negl (n : Pt) : ∀ l : List Pt, spr (-n.1, -n.2) l = spr n l
  | [] => rfl
  | g :: l => by rw [spr_cons, spr_cons, spr_negl n l, dotP_negl, absI_neg]
/-- d is not beyond the sum of the segments in any direction. -/
def inZ (L : List Pt) (d : Pt) : Prop := ∀ n : Pt, dotP n d ≤ spr n L
theorem inZ.abs {L : List Pt} {d : Pt} (h : inZ L d) (n : Pt) : absI (dotP n d) ≤ spr n L := by
  rw [absI_le]
  have h1 := h n
  have h2 := h (-n.1, -n.2)
  rw [dotP_negl, spr_negl] at h2
  omega
open Go.RowKit
open Go.RowKit
open Go.RowKit
open Go.RowKit
open Go.RowKit
open Go.RowKit
theorem clone_u (H : AHeap) (s : AV) (l : List Pt) (hs : SlP H s l) (hl : l.length ≤ 1000000) : ACalls Tryz.prog 124 [s] H (fun v H' => v = .sl (some (H.length, 0)) l.length (capG l.length) ∧ H' = H ++ [.cells (ownG l.length) 2 (prs l)]) := by
  rcases Nat.eq_zero_or_pos l.length with h0 | h0
  · obtain rfl : l = [] := List.eq_nil_of_length_eq_zero h0
    obtain ⟨b, own, cap, rfl, hb⟩ := hs
    exact cloneempty_c H b cap own hb
  · rw [capG_p h0, ownG_p h0]
    exact clone_c H s l (.inr hs) hl h0
theorem apart_c (H : AHeap) (x : Int) (y : Int) (s : AV) (l : List (Int × Int)) (x0 : Int) (y0 : Int) (x1 : Int) (y1 : Int) (hs : Sl H 2 s l.length (prs l)) : ACalls Tryz.prog 68 [.agg [.int .i64 x, .int .i64 y, s], .agg [.int .i64 x0, .int .i64 y0, .int .i64 x1, .int .i64 y1]] H (fun v H' => v = .bool (apartB x y l x0 y0 x1 y1) ∧ H' = H) := by
  obtain ⟨bs, os, cs, rfl, hbs⟩ := hs
  have hbls := getElem?_lt hbs
  have hb0s := fun l => get_app (l := l) hbs
  (refine ACalls_pieces Tryz.func68 _ rfl (Nat.le_of_ble_eq_true (by kernel_rfl)) rfl ?_; intro hbel Q hQ hQ' c hc; unfold Tryz.f68 at hc; simp only [Option.some.injEq] at hc; subst hc; clear hQ')
  refine AW_step false try_mixed (by kernel_rfl) (fun F Hx => look F 2 = .ptr (some (H.length, 0)) ∧ look F 3 = .ptr (some (H.length + 1, 0)) ∧ look F 4 = .bool false ∧ Hx = H ++ [.cells true 0 [.int .i64 x, .int .i64 y, .sl (some (bs, 0)) l.length cs], .cells true 0 [.int .i64 x0, .int .i64 y0, .int .i64 x1, .int .i64 y1]]) ?_ ?_
  · skip
    have g'1 := (jn @hbs @hb0s)
    refine runTf g'1 ?_
    refine inv_of ?_
    exact absT
  rintro F Hx ⟨f1, f2, f3, rfl⟩
  refine AW_step false try_mixed (by kernel_rfl) (fun F Hx => validB x y l = true ∧ far4 x0 y0 x1 y1 = true ∧ (decide (x1 < x0)) = false ∧ (decide (y1 < y0)) = false ∧ look F 2 = .ptr (some (H.length, 0)) ∧ look F 3 = .ptr (some (H.length + 1, 0)) ∧ look F 4 = .bool false ∧ Hx = H ++ [.cells true 0 [.int .i64 x, .int .i64 y, .sl (some (bs, 0)) l.length cs], .cells true 0 [.int .i64 x0, .int .i64 y0, .int .i64 x1, .int .i64 y1], .cells true 1 [.int .i64 x0, .int .i64 y0, .int .i64 x1, .int .i64 y1]]) ?_ ?_
  · skip
    have g'2 := (jn @hbs (jn @hb0s (jn @f1 (jn @f2 @f3))))
    refine runTf g'2 ?_
    refine call_v (by kernel_rfl) (valid_c _ x y _ l (.inr ⟨_, _, _, rfl, by first | exact hb0s _ | exact hbs⟩)) ?_
    refine runTf g'2 ?_
    refine gd_split (fun h4 => ?_) (fun h4 => ?_)
    · have h4d := h4
      try simp only [Bool.not_eq_true', Bool.not_eq_false', decide_eq_true_eq, decide_eq_false_iff_not, beq_iff_eq, bne_iff_ne, ne_eq, Bool.not_eq_true, Bool.not_eq_false, beq_eq_false_iff_ne, bne_eq_false_iff_eq, Classical.not_not, Bool.and_eq_true, Bool.and_eq_false_imp] at h4d
      have g'3 := (jn @h4 (jn @h4d g'2))
      refine runTf g'3 ?_
      refine call_v (by kernel_rfl) (near_c _ _ [x0, y0, x1, y1] (.inr ⟨_, _, _, by first | rfl | (rw [List.length_append]; rfl), by first | rfl | (rw [get_newk]; rfl) | (rw [get_new0]; rfl) | (rw [get_newk, prs_append]; rfl) | (rw [get_new0, prs_append]; rfl)⟩) (by simp)) ?_
      rw [far4_any]
      refine runTf g'3 ?_
      refine gd_split (fun h5 => ?_) (fun h5 => ?_)
      · have h5d := h5
        try simp only [Bool.not_eq_true', Bool.not_eq_false', decide_eq_true_eq, decide_eq_false_iff_not, beq_iff_eq, bne_iff_ne, ne_eq, Bool.not_eq_true, Bool.not_eq_false, beq_eq_false_iff_ne, bne_eq_false_iff_eq, Classical.not_not, Bool.and_eq_true, Bool.and_eq_false_imp] at h5d
        have g'4 := (jn @h5 (jn @h5d g'3))
        refine runTf g'4 ?_
        refine gd_split (fun h6 => ?_) (fun h6 => ?_)
        · have h6d := h6
          try simp only [Bool.not_eq_true', Bool.not_eq_false', decide_eq_true_eq, decide_eq_false_iff_not, beq_iff_eq, bne_iff_ne, ne_eq, Bool.not_eq_true, Bool.not_eq_false, beq_eq_false_iff_ne, bne_eq_false_iff_eq, Classical.not_not, Bool.and_eq_true, Bool.and_eq_false_imp] at h6d
          have g'5 := (jn @h6 (jn @h6d g'4))
          refine runTf g'5 ?_
          refine cond_split (fun h7 => ?_) (fun h7 => ?_)
          · have h7d := h7
            try simp only [Bool.not_eq_true', Bool.not_eq_false', decide_eq_true_eq, decide_eq_false_iff_not, beq_iff_eq, bne_iff_ne, ne_eq, Bool.not_eq_true, Bool.not_eq_false, beq_eq_false_iff_ne, bne_eq_false_iff_eq, Classical.not_not, Bool.and_eq_true, Bool.and_eq_false_imp] at h7d
            have g'6 := (jn @h7 (jn @h7d g'5))
            refine runTf g'6 ?_
            exact hQ _ _ (end_plain (.inl rfl) hbel (x := .bool false) (resT Tryz.results68) rfl ⟨by first | (simp [apartB, h4d, h5d, h6d, h7d]; done) | (simp [apartB, h4d, h5d, h6d, h7d]; intros; omega), rfl⟩)
          · have h7d := h7
            try simp only [Bool.not_eq_true', Bool.not_eq_false', decide_eq_true_eq, decide_eq_false_iff_not, beq_iff_eq, bne_iff_ne, ne_eq, Bool.not_eq_true, Bool.not_eq_false, beq_eq_false_iff_ne, bne_eq_false_iff_eq, Classical.not_not, Bool.and_eq_true, Bool.and_eq_false_imp] at h7d
            have g'7 := (jn @h7 (jn @h7d g'5))
            refine runTf g'7 ?_
            refine inv_of ?_
            exact absTf (jn @f1 (jn @f2 @f3))
        · have h6d := h6
          try simp only [Bool.not_eq_true', Bool.not_eq_false', decide_eq_true_eq, decide_eq_false_iff_not, beq_iff_eq, bne_iff_ne, ne_eq, Bool.not_eq_true, Bool.not_eq_false, beq_eq_false_iff_ne, bne_eq_false_iff_eq, Classical.not_not, Bool.and_eq_true, Bool.and_eq_false_imp] at h6d
          have g'8 := (jn @h6 (jn @h6d g'4))
          refine runTf g'8 ?_
          exact hQ _ _ (end_plain (.inl rfl) hbel (x := .bool false) (resT Tryz.results68) rfl ⟨by first | (simp [apartB, h4d, h5d, h6d]; done) | (simp [apartB, h4d, h5d, h6d]; intros; omega), rfl⟩)
      · have h5d := h5
        try simp only [Bool.not_eq_true', Bool.not_eq_false', decide_eq_true_eq, decide_eq_false_iff_not, beq_iff_eq, bne_iff_ne, ne_eq, Bool.not_eq_true, Bool.not_eq_false, beq_eq_false_iff_ne, bne_eq_false_iff_eq, Classical.not_not, Bool.and_eq_true, Bool.and_eq_false_imp] at h5d
        have g'9 := (jn @h5 (jn @h5d g'3))
        refine runTf g'9 ?_
        exact hQ _ _ (end_plain (.inl rfl) hbel (x := .bool false) (resT Tryz.results68) rfl ⟨by first | (simp [apartB, h4d, h5d]; done) | (simp [apartB, h4d, h5d]; intros; omega), rfl⟩)
    · have h4d := h4
      try simp only [Bool.not_eq_true', Bool.not_eq_false', decide_eq_true_eq, decide_eq_false_iff_not, beq_iff_eq, bne_iff_ne, ne_eq, Bool.not_eq_true, Bool.not_eq_false, beq_eq_false_iff_ne, bne_eq_false_iff_eq, Classical.not_not, Bool.and_eq_true, Bool.and_eq_false_imp] at h4d
      have g'10 := (jn @h4 (jn @h4d g'2))
      refine runTf g'10 ?_
      exact hQ _ _ (end_plain (.inl rfl) hbel (x := .bool false) (resT Tryz.results68) rfl ⟨by first | (simp [apartB, h4d]; done) | (simp [apartB, h4d]; intros; omega), rfl⟩)
  rintro F Hx ⟨h8d, h9d, h10d, h11d, f12, f13, f14, rfl⟩
  obtain ⟨hl16, hlB⟩ := valid_bd h8d
  have hxy := valid_bd3 h8d
  have hfar := far4_bd h9d
  have hfinX : x0 ≤ x1 := Int.not_lt.1 (of_decide_eq_false h10d)
  have hfinY : y0 ≤ y1 := Int.not_lt.1 (of_decide_eq_false h11d)
  have hB4 : ∀ e ∈ l ++ [(x1 - x0, 0), (0, y1 - y0)], Bd 4194304 e := fun e he => by
      simp only [List.mem_append, List.mem_cons, List.not_mem_nil, or_false] at he
      rcases he with he | rfl | rfl
      · have := hlB e he; unfold Bd at *; omega
      · unfold Bd; simp only; omega
      · unfold Bd; simp only; omega
  have hll : (l ++ [(x1 - x0, 0), (0, y1 - y0)]).length = l.length + 2 := by simp
  have hcl := canonL_len (l ++ [(x1 - x0, 0), (0, y1 - y0)])
  have hcb : ∀ e ∈ (canonL (l ++ [(x1 - x0, 0), (0, y1 - y0)])), Bd 134217728 e := fun e he => by
      have := canonL_bd (M := 4194304) (by decide) hB4 e he
      have h40 : (((l ++ [(x1 - x0, 0), (0, y1 - y0)]).length : Nat) : Int) * 4194304 ≤ 18 * 4194304 := Int.mul_le_mul_of_nonneg_right (by omega) (by decide)
      unfold Bd at *; omega
  have hc28 : ∀ e ∈ (canonL (l ++ [(x1 - x0, 0), (0, y1 - y0)])), Bd 268435456 e := fun e he => by have := hcb e he; unfold Bd at *; omega
  have hNb := nrmls_bd (M := 134217728) (by decide) hcb
  have hNl := nrmls_len (canonL (l ++ [(x1 - x0, 0), (0, y1 - y0)]))
  refine AW_special false try_mixed [[0, 1, 2, 3, 4, 5, 6, 7, 8, 9, 10, 11, 12, 13, 14, 15, 16, 17, 18, 19, 20], [0, 1, 3, 4, 5, 6, 7, 8, 9, 10, 11, 12, 13, 14, 15, 2, 16, 17, 18, 19, 20]] (by kernel_rfl) (fun F2 H2 => F2 = [(2, .ptr (some (H.length, 0))), (3, .ptr (some (H.length + 1, 0))), (4, .bool false), (5, .sl (some (H.length + 2, 0)) ((canonL (l ++ [(x1 - x0, 0), (0, y1 - y0)])).length) (capG (canonL (l ++ [(x1 - x0, 0), (0, y1 - y0)])).length))] ∧ H2 = H ++ [.cells true 0 [.int .i64 x, .int .i64 y, .sl (some (bs, 0)) l.length cs], .cells true 0 [.int .i64 x0, .int .i64 y0, .int .i64 x1, .int .i64 y1], .cells (ownG (canonL (l ++ [(x1 - x0, 0), (0, y1 - y0)])).length) 2 (prs (canonL (l ++ [(x1 - x0, 0), (0, y1 - y0)])))]) ?_ ?_
  · refine reps_cons ?_ (reps_cons ?_ (reps_nil)) <;> intro J hJ
    · skip
      have g'11 := (jn @hbs (jn @hb0s (jn @f1 (jn @f2 (jn @f3 (jn @f12 (jn @f13 (jn @f14 (jn @h8d (jn @h9d (jn @h10d @h11d)))))))))))
      refine runDf g'11 ?_
      refine call_x (by kernel_rfl) (by simp) (clone_u _ _ l ⟨_, _, _, rfl, by first | exact hb0s _ | exact hbs⟩ (by first | omega | (simp only [List.length_cons, List.length_nil]; omega) | exact Nat.le_trans (mkL_len _ _) (by first | omega | simp) | exact Nat.le_trans (vL_len _ _) (by first | omega | simp) | exact Nat.le_trans corV_len (by omega) | exact Nat.le_trans (canonL_len _) (by first | omega | simp))) ?_
      have g'12 := (jn @prs_len (jn @prs_one (jn @capG_s g'11)))
      refine runDf g'12 ?_
      refine call_x (by kernel_rfl) (by simp) (canonical_u _ 0 0 _ (l ++ [(x1 - x0, 0), (0, y1 - y0)]) (.inr ⟨_, _, _, by first | rfl | (rw [List.length_append]; rfl), by first | rfl | (rw [get_newk]; rfl) | (rw [get_new0]; rfl) | (rw [get_newk, prs_append]; rfl) | (rw [get_new0, prs_append]; rfl)⟩) (by first | omega | (simp only [List.length_cons, List.length_nil]; omega) | exact Nat.le_trans (mkL_len _ _) (by first | omega | simp) | exact Nat.le_trans (vL_len _ _) (by first | omega | simp) | exact Nat.le_trans corV_len (by omega) | exact Nat.le_trans (canonL_len _) (by first | omega | simp)) (by assumption)) ?_
      refine runDf g'12 ?_
      refine inv_of (hJ _ _ ⟨_, _, _, ⟨rfl, rfl⟩, Abs.byG hbel [] rfl [0, 1, 6] (by decide) ?_⟩)
      exact absRf (jn @f1 (jn @f2 (jn @f3 (jn @f12 (jn @f13 @f14)))))
    · skip
      have g'13 := (jn @hbs (jn @hb0s (jn @f1 (jn @f2 (jn @f3 (jn @f12 (jn @f13 (jn @f14 (jn @h8d (jn @h9d (jn @h10d @h11d)))))))))))
      refine runDf g'13 ?_
      refine call_x (by kernel_rfl) (by simp) (clone_u _ _ l ⟨_, _, _, rfl, by first | exact hb0s _ | exact hbs⟩ (by first | omega | (simp only [List.length_cons, List.length_nil]; omega) | exact Nat.le_trans (mkL_len _ _) (by first | omega | simp) | exact Nat.le_trans (vL_len _ _) (by first | omega | simp) | exact Nat.le_trans corV_len (by omega) | exact Nat.le_trans (canonL_len _) (by first | omega | simp))) ?_
      have g'14 := (jn @prs_len (jn @prs_one (jn @capG_s g'13)))
      refine runDf g'14 ?_
      refine call_x (by kernel_rfl) (by simp) (canonical_u _ 0 0 _ (l ++ [(x1 - x0, 0), (0, y1 - y0)]) (.inr ⟨_, _, _, by first | rfl | (rw [List.length_append]; rfl), by first | rfl | (rw [get_newk]; rfl) | (rw [get_new0]; rfl) | (rw [get_newk, prs_append]; rfl) | (rw [get_new0, prs_append]; rfl)⟩) (by first | omega | (simp only [List.length_cons, List.length_nil]; omega) | exact Nat.le_trans (mkL_len _ _) (by first | omega | simp) | exact Nat.le_trans (vL_len _ _) (by first | omega | simp) | exact Nat.le_trans corV_len (by omega) | exact Nat.le_trans (canonL_len _) (by first | omega | simp)) (by assumption)) ?_
      refine runDf g'14 ?_
      refine inv_of (hJ _ _ ⟨_, _, _, ⟨rfl, rfl⟩, Abs.byG hbel [] rfl [0, 1, 6] (by decide) ?_⟩)
      exact absRf (jn @f1 (jn @f2 (jn @f3 (jn @f12 (jn @f13 @f14)))))
  rintro F2 H2 ⟨rfl, rfl⟩
  refine AW_fin false try_mixed (by kernel_rfl) ?_
  have g'15 := (jn @hbs (jn @hb0s (jn @h8d (jn @h9d (jn @h10d (jn @h11d (jn @prs_len @prs_one)))))))
  refine runTf g'15 ?_
  refine go_loop try_mixed (by kernel_rfl) (fun k F Hx => ∃ i : Nat, i + k = (canonL (l ++ [(x1 - x0, 0), (0, y1 - y0)])).length ∧ F = [(5, .sl (some (H.length, 0)) ((canonL (l ++ [(x1 - x0, 0), (0, y1 - y0)])).length) (capG (canonL (l ++ [(x1 - x0, 0), (0, y1 - y0)])).length)), (6, .ptr (some (H.length + 1, 0))), (7, .sl (some (H.length + 2, 0)) ((nrmls ((canonL (l ++ [(x1 - x0, 0), (0, y1 - y0)])).take i)).length) (capG (nrmls ((canonL (l ++ [(x1 - x0, 0), (0, y1 - y0)])).take i)).length)), (82, .sl (some (H.length, 0)) ((canonL (l ++ [(x1 - x0, 0), (0, y1 - y0)])).length) (capG (canonL (l ++ [(x1 - x0, 0), (0, y1 - y0)])).length)), (83, .int .i64 (((canonL (l ++ [(x1 - x0, 0), (0, y1 - y0)])).length : Nat) : Int)), (84, .int .i64 ((i : Nat) : Int))] ∧ Hx = H ++ [.cells (ownG (canonL (l ++ [(x1 - x0, 0), (0, y1 - y0)])).length) 2 (prs (canonL (l ++ [(x1 - x0, 0), (0, y1 - y0)]))), .cells true 0 [.int .i64 ((x0 + x1) - x), .int .i64 ((y0 + y1) - y)], .cells (ownG (nrmls ((canonL (l ++ [(x1 - x0, 0), (0, y1 - y0)])).take i)).length) 2 (prs (nrmls ((canonL (l ++ [(x1 - x0, 0), (0, y1 - y0)])).take i)))]) ((canonL (l ++ [(x1 - x0, 0), (0, y1 - y0)])).length) ?_ ?_
  · refine ⟨_, _, _, ⟨0, by omega, rfl, rfl⟩, Abs.byG hbel [] rfl [2, 3, 4] (by decide) ?_⟩
    exact absRf (jn @List.take_zero.{0} @nrmls_nil)
  · rintro k0 F Hx ⟨i, hm0, rfl, rfl⟩ J0 hJ0
    refine runTf g'15 ?_
    refine cond_split (fun h15 => ?_) (fun h15 => ?_)
    · have h15d := h15
      try simp only [Bool.not_eq_true', Bool.not_eq_false', decide_eq_true_eq, decide_eq_false_iff_not, beq_iff_eq, bne_iff_ne, ne_eq, Bool.not_eq_true, Bool.not_eq_false, beq_eq_false_iff_ne, bne_eq_false_iff_eq, Classical.not_not, Bool.and_eq_true, Bool.and_eq_false_imp] at h15d
      have hgi := gpb (i := i) hcb (by omega)
      have hst := nrmls_step (L := (canonL (l ++ [(x1 - x0, 0), (0, y1 - y0)]))) (i := i) (by omega)
      have hnl := nrmls_len ((canonL (l ++ [(x1 - x0, 0), (0, y1 - y0)])).take i)
      rw [List.length_take] at hnl
      have q16 := prs_load (l := canonL (l ++ [(x1 - x0, 0), (0, y1 - y0)])) (j := i) (by omega)
      have g'16 := (jn @h15 (jn @h15d (jn @q16 (jn @capG_s g'15))))
      refine runTf g'16 ?_
      refine hJ0 _ _ ⟨k0 - 1, by omega, _, _, _, ⟨i + 1, by omega, rfl, rfl⟩, Abs.byG hbel [] rfl [0, 1, 5] (by decide) ?_⟩
      exact absRf (jn @hst @Int.zero_sub)
    · have h15d := h15
      try simp only [Bool.not_eq_true', Bool.not_eq_false', decide_eq_true_eq, decide_eq_false_iff_not, beq_iff_eq, bne_iff_ne, ne_eq, Bool.not_eq_true, Bool.not_eq_false, beq_eq_false_iff_ne, bne_eq_false_iff_eq, Classical.not_not, Bool.and_eq_true, Bool.and_eq_false_imp] at h15d
      have hfinT : (canonL (l ++ [(x1 - x0, 0), (0, y1 - y0)])).take i = (canonL (l ++ [(x1 - x0, 0), (0, y1 - y0)])) := List.take_of_length_le (by omega)
      have g'17 := (jn @h15 (jn @h15d g'15))
      refine runTf g'17 ?_
      refine go_loop try_mixed (by kernel_rfl) (fun k F Hx => ∃ j : Nat, j + k = (nrmls (canonL (l ++ [(x1 - x0, 0), (0, y1 - y0)]))).length ∧ ((nrmls (canonL (l ++ [(x1 - x0, 0), (0, y1 - y0)]))).take j).any (beyond (canonL (l ++ [(x1 - x0, 0), (0, y1 - y0)])) (x0 + x1 - x, y0 + y1 - y)) = false ∧ F = [(5, .sl (some (H.length, 0)) ((canonL (l ++ [(x1 - x0, 0), (0, y1 - y0)])).length) (capG (canonL (l ++ [(x1 - x0, 0), (0, y1 - y0)])).length)), (6, .ptr (some (H.length + 1, 0))), (99, .sl (some (H.length + 2, 0)) ((nrmls (canonL (l ++ [(x1 - x0, 0), (0, y1 - y0)]))).length) (capG (nrmls (canonL (l ++ [(x1 - x0, 0), (0, y1 - y0)]))).length)), (100, .int .i64 (((nrmls (canonL (l ++ [(x1 - x0, 0), (0, y1 - y0)]))).length : Nat) : Int)), (101, .int .i64 ((j : Nat) : Int))] ∧ Hx = H ++ [.cells (ownG (canonL (l ++ [(x1 - x0, 0), (0, y1 - y0)])).length) 2 (prs (canonL (l ++ [(x1 - x0, 0), (0, y1 - y0)]))), .cells true 0 [.int .i64 ((x0 + x1) - x), .int .i64 ((y0 + y1) - y)], .cells (ownG (nrmls (canonL (l ++ [(x1 - x0, 0), (0, y1 - y0)]))).length) 2 (prs (nrmls (canonL (l ++ [(x1 - x0, 0), (0, y1 - y0)]))))]) ((nrmls (canonL (l ++ [(x1 - x0, 0), (0, y1 - y0)]))).length) ?_ ?_
      · refine ⟨_, _, _, ⟨0, by omega, by simp, rfl, rfl⟩, Abs.byG hbel [] rfl [0, 1, 2] (by decide) ?_⟩
        exact absRf @hfinT
      · rintro k1 F Hx ⟨j, hm1, ht, rfl, rfl⟩ J1 hJ1
        refine runTf g'17 ?_
        refine cond_split (fun h17 => ?_) (fun h17 => ?_)
        · have h17d := h17
          try simp only [Bool.not_eq_true', Bool.not_eq_false', decide_eq_true_eq, decide_eq_false_iff_not, beq_iff_eq, bne_iff_ne, ne_eq, Bool.not_eq_true, Bool.not_eq_false, beq_eq_false_iff_ne, bne_eq_false_iff_eq, Classical.not_not, Bool.and_eq_true, Bool.and_eq_false_imp] at h17d
          have hgj := gpb (i := j) hNb (by omega)
          have hst2 := any_take (p := beyond (canonL (l ++ [(x1 - x0, 0), (0, y1 - y0)])) (x0 + x1 - x, y0 + y1 - y)) (l := nrmls (canonL (l ++ [(x1 - x0, 0), (0, y1 - y0)]))) (i := j) (by omega)
          rw [← gp_eq (by omega)] at hst2
          have hp1 := mul_bd (a := g1 (nrmls (canonL (l ++ [(x1 - x0, 0), (0, y1 - y0)]))) j) (b := x0 + x1 - x) (A := 134217728) (B := 33554432) (by omega) (by omega)
          have hp2 := mul_bd (a := g2 (nrmls (canonL (l ++ [(x1 - x0, 0), (0, y1 - y0)]))) j) (b := y0 + y1 - y) (A := 134217728) (B := 33554432) (by omega) (by omega)
          have q18 := prs_load (l := nrmls (canonL (l ++ [(x1 - x0, 0), (0, y1 - y0)]))) (j := j) (by omega)
          have g'18 := (jn @h17 (jn @h17d (jn @q18 g'17)))
          refine runTf g'18 ?_
          refine call_d (by kernel_rfl) (abs_c _ _ (by omega)) ?_
          refine runTf g'18 ?_
          refine call_d (by kernel_rfl) (spread_c _ _ (canonL (l ++ [(x1 - x0, 0), (0, y1 - y0)])) (g1 (nrmls (canonL (l ++ [(x1 - x0, 0), (0, y1 - y0)]))) j, g2 (nrmls (canonL (l ++ [(x1 - x0, 0), (0, y1 - y0)]))) j) (.inr ⟨_, _, _, by first | rfl | (rw [List.length_append]; rfl), by first | rfl | (rw [get_newk]; rfl) | (rw [get_new0]; rfl) | (rw [get_newk, prs_append]; rfl) | (rw [get_new0, prs_append]; rfl)⟩) (by omega) (by assumption) (by first | assumption | (unfold Bd; simp only; omega) | (unfold Bd at *; simp only at *; omega) | (unfold Bd; simp; omega) | (unfold Bd; simp))) ?_
          refine runTf g'18 ?_
          refine cond_split (fun h19 => ?_) (fun h19 => ?_)
          · have h19d := h19
            try simp only [Bool.not_eq_true', Bool.not_eq_false', decide_eq_true_eq, decide_eq_false_iff_not, beq_iff_eq, bne_iff_ne, ne_eq, Bool.not_eq_true, Bool.not_eq_false, beq_eq_false_iff_ne, bne_eq_false_iff_eq, Classical.not_not, Bool.and_eq_true, Bool.and_eq_false_imp] at h19d
            have hfinA : (nrmls (canonL (l ++ [(x1 - x0, 0), (0, y1 - y0)]))).any (beyond (canonL (l ++ [(x1 - x0, 0), (0, y1 - y0)])) (x0 + x1 - x, y0 + y1 - y)) = true := any_gp (j := j) (by omega) (decide_eq_true h19d)
            have g'19 := (jn @h19 (jn @h19d g'18))
            refine runTf g'19 ?_
            exact hQ _ _ (end_plain (.inl rfl) hbel (x := .bool true) (resT Tryz.results68) rfl ⟨by first | (simp [apartB, h8d, h9d, h10d, h11d, h15d, h17d, h19d, hfinX, hfinY, hfinT, hfinA]; done) | (simp [apartB, h8d, h9d, h10d, h11d, h15d, h17d, h19d, hfinX, hfinY, hfinT, hfinA]; intros; omega), rfl⟩)
          · have h19d := h19
            try simp only [Bool.not_eq_true', Bool.not_eq_false', decide_eq_true_eq, decide_eq_false_iff_not, beq_iff_eq, bne_iff_ne, ne_eq, Bool.not_eq_true, Bool.not_eq_false, beq_eq_false_iff_ne, bne_eq_false_iff_eq, Classical.not_not, Bool.and_eq_true, Bool.and_eq_false_imp] at h19d
            have g'20 := (jn @h19 (jn @h19d g'18))
            refine runTf g'20 ?_
            refine hJ1 _ _ ⟨k1 - 1, by omega, _, _, _, ⟨j + 1, by omega, by rw [hst2, ht, Bool.false_or]; exact decide_eq_false h19d, rfl, rfl⟩, Abs.byG hbel [] rfl [0, 1, 2] (by decide) ?_⟩
            exact absR
        · have h17d := h17
          try simp only [Bool.not_eq_true', Bool.not_eq_false', decide_eq_true_eq, decide_eq_false_iff_not, beq_iff_eq, bne_iff_ne, ne_eq, Bool.not_eq_true, Bool.not_eq_false, beq_eq_false_iff_ne, bne_eq_false_iff_eq, Classical.not_not, Bool.and_eq_true, Bool.and_eq_false_imp] at h17d
          rw [List.take_of_length_le (by omega)] at ht
          have hfin := ht
          have g'21 := (jn @h17 (jn @h17d g'17))
          refine runTf g'21 ?_
          exact hQ _ _ (end_plain (.inl rfl) hbel (x := .bool false) (resT Tryz.results68) rfl ⟨by first | (simp [apartB, h8d, h9d, h10d, h11d, h15d, h17d, hfinX, hfinY, hfinT, hfin]; done) | (simp [apartB, h8d, h9d, h10d, h11d, h15d, h17d, hfinX, hfinY, hfinT, hfin]; intros; omega), rfl⟩)
open Go.RowKit
open Go.RowKit
/-- What is handed back, as one new block. -/
def mkL (e : Int) (L : List Pt) : List Pt := if e = 0 then L else []
def mkX (e : Int) (x : Int) : Int := if e = 0 then x else 0
end Go.Proofs.YtoimakfecmhjkaaGreat
