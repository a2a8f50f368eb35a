/- The abstract machine: slices that are the whole of a block, nil or not; rows that grow. Conditions: as each theorem states. -/
import Derived.Test.YtjfnbcifafmefaaAmT
namespace Go.Proofs.Ytjfnbcifafmefaa
set_option linter.unusedSimpArgs false
set_option linter.unusedVariables false
open Go.RowKit
/-- A slice of n elements that are the whole of a block, or an empty one. -/
def Sl (H : AHeap) (sz : Nat) (s : AV) (n : Nat) (xs : List AV) : Prop := ∃ b own cap, s = .sl (some (b, 0)) n cap ∧ H[b]? = some (.cells own sz xs)
theorem Sl.app {H : AHeap} {sz n : Nat} {s : AV} {xs : List AV} (h : Sl H sz s n xs) (l : AHeap) : Sl (H ++ l) sz s n xs := by
  obtain ⟨b, own, cap, h1, h2⟩ := h
  exact ⟨b, own, cap, h1, get_app h2⟩
abbrev SlP (H : AHeap) (s : AV) (l : List (Int × Int)) : Prop := Sl H 2 s l.length (prs l)
abbrev SlI (H : AHeap) (k : IntKind) (s : AV) (l : List Int) : Prop := Sl H 1 s l.length (ints k l)
theorem Sl.isP {H : AHeap} {s : AV} {l : List (Int × Int)} (h : SlP H s l) : IsP H s l := .inr h
/-- A row that began as nil and has grown: its capacity, and whether its block is the function's own. -/
def capG (n : Nat) : Option Nat := match n with | 0 => some 0 | _ + 1 => none
def ownG (n : Nat) : Bool := match n with | 0 => false | _ + 1 => true
theorem capG_0 : capG 0 = some 0 := rfl
theorem ownG_0 : ownG 0 = false := rfl
theorem capG_s {n : Nat} : capG (n + 1) = none := rfl
theorem ownG_s {n : Nat} : ownG (n + 1) = true := rfl
theorem capG_p {n : Nat} (h : 0 < n) : capG n = none := by cases n <;> first | rfl | omega
theorem ownG_p {n : Nat} (h : 0 < n) : ownG n = true := by cases n <;> first | rfl | omega
theorem aApp_nil {P : Program} {t : TypeId} {n : Nat} {c : Option Nat} {x : AV} {H : AHeap} : aAppend P t (.sl none n c) x H = (tElem P t).bind fun e => (tSz P e).bind fun sz => (tBytes P e).bind fun by_ => (tZero P e).bind fun z => (aElems sz x H).bind fun mx =>
    (need (z.length = sz ∧ 0 < sz ∧ 0 < by_)).bind fun _ => (need (n = 0)).bind fun _ => bif mx.1 == 0 then some (.sl none 0 (some 0), H) else (need (mx.1 * by_ ≤ 140737488355328)).map fun _ => (.sl (some (H.length, 0)) mx.1 none, H ++ [.cells true sz mx.2]) := rfl
theorem aApp_none {P : Program} {t : TypeId} {b o n : Nat} {x : AV} {H : AHeap} : aAppend P t (.sl (some (b, o)) n none) x H = (tElem P t).bind fun e => (tSz P e).bind fun sz => (tBytes P e).bind fun by_ => (tZero P e).bind fun z => (aElems sz x H).bind fun mx =>
    (need (z.length = sz ∧ 0 < sz ∧ 0 < by_)).bind fun _ => (ards H b o (n * sz)).bind fun olds => (need ((n + mx.1) * by_ ≤ 140737488355328)).bind fun _ =>
      bif n + mx.1 == 0 then some (.sl (some (b, o)) 0 none, H)
      else match H[b]? with
        | some (.cells true es _) => (need (es = sz)).map fun _ => (.sl (some (H.length, 0)) (n + mx.1) none, H.set b .dead ++ [.cells true sz (olds ++ mx.2)])
        | _ => none := rfl
theorem aApp_some {P : Program} {t : TypeId} {b o n c : Nat} {x : AV} {H : AHeap} : aAppend P t (.sl (some (b, o)) n (some c)) x H = (tElem P t).bind fun e => (tSz P e).bind fun sz => (tBytes P e).bind fun by_ => (tZero P e).bind fun z => (aElems sz x H).bind fun mx =>
    (need (z.length = sz ∧ 0 < sz ∧ 0 < by_)).bind fun _ => (ards H b o (n * sz)).bind fun olds => (need ((n + mx.1) * by_ ≤ 140737488355328)).bind fun _ =>
      bif n + mx.1 == 0 then some (.sl (some (b, o)) 0 (some c), H)
      else bif decide (c < n + mx.1) then some (.sl (some (H.length, 0)) (n + mx.1) none, H ++ [.cells true sz (olds ++ mx.2)])
      else match H[b]? with
        | some (.cells true es _) => (need (es = sz)).map fun _ => (.sl (some (H.length, 0)) (n + mx.1) none, H.set b .dead ++ [.cells true sz (olds ++ mx.2)])
        | _ => none := rfl
/-- What is left of the elder block. -/
def killG (n : Nat) (X : ABlk) : ABlk := match n with | 0 => X | _ + 1 => .dead
/-- More is appended to a row that grows. -/
theorem aApp_grown {P : Program} {t : TypeId} {b n : Nat} {x : AV} {H : AHeap} : aAppend P t (.sl (some (b, 0)) n (capG n)) x H = (tElem P t).bind fun e => (tSz P e).bind fun sz => (tBytes P e).bind fun by_ => (tZero P e).bind fun z => (aElems sz x H).bind fun mx =>
    (need (z.length = sz ∧ 0 < sz ∧ 0 < by_)).bind fun _ => match H[b]? with
      | some (.cells own es xs) => bif (own == ownG n) && (decide (es = sz) && (decide (xs.length = n * sz) && (decide (0 < mx.1) && xs.all AV.one))) then
          (need ((n + mx.1) * by_ ≤ 140737488355328)).map fun _ => (.sl (some (H.length, 0)) (n + mx.1) none, H.set b (killG n (.cells own es xs)) ++ [.cells true sz (xs ++ mx.2)])
        else aAppend P t (.sl (some (b, 0)) n (capG n)) x H
      | _ => aAppend P t (.sl (some (b, 0)) n (capG n)) x H := by
  cases h1 : tElem P t with
  | none => simp [aAppend, h1]
  | some e =>
  cases h2 : tSz P e with
  | none => simp [aAppend, h1, h2]
  | some sz =>
  cases h3 : tBytes P e with
  | none => simp [aAppend, h1, h2, h3]
  | some by_ =>
  cases h4 : tZero P e with
  | none => simp [aAppend, h1, h2, h3, h4]
  | some z =>
  cases h5 : aElems sz x H with
  | none => simp [aAppend, h1, h2, h3, h4, h5]
  | some mx =>
  simp only [Option.bind_some, h2, h3, h4, h5]
  by_cases hz : z.length = sz ∧ 0 < sz ∧ 0 < by_
  · have hn : need (z.length = sz ∧ 0 < sz ∧ 0 < by_) = some () := if_pos hz
    rw [hn, Option.bind_some]
    split
    · rename_i own es xs hb
      cases hc : (own == ownG n) && (decide (es = sz) && (decide (xs.length = n * sz) && (decide (0 < mx.1) && xs.all AV.one))) with
      | false => rfl
      | true =>
        rw [cond_true]
        simp only [Bool.and_eq_true, beq_iff_eq, decide_eq_true_eq] at hc
        obtain ⟨rfl, rfl, hl, hm, ho⟩ := hc
        have hard : ards H b 0 (n * es) = some xs := by
          unfold ards
          rw [hb]
          simp only
          rw [List.drop_zero, List.take_of_length_le (by omega)]
          simp [hl, ho]
        cases n with
        | zero =>
          simp only [aAppend, h1, h2, h3, h4, h5, Option.bind_some, hn, hard, capG, killG]
          have e0 : (0 + mx.1 == 0) = false := beq_eq_false_iff_ne.2 (by omega)
          rw [e0, cond_false, decide_eq_true (by omega : (0 : Nat) < 0 + mx.1), cond_true]
          have hs : H.set b (.cells (ownG 0) es xs) = H := by
            refine List.ext_getElem? fun i => ?_
            rw [List.getElem?_set]
            split
            · rename_i e; subst e
              split
              · rw [hb]
              · rename_i hh; exact absurd (getElem?_lt hb) hh
            · rfl
          rw [hs]
          unfold need
          split <;> rfl
        | succ n =>
          simp only [aAppend, h1, h2, h3, h4, h5, Option.bind_some, hn, hard, capG, killG, hb, ownG]
          have e0 : (n + 1 + mx.1 == 0) = false := beq_eq_false_iff_ne.2 (by omega)
          rw [e0, cond_false, cond_false]
          have e1 : need True = some () := if_pos trivial
          rw [e1]
          unfold need
          split <;> rfl
    · rfl
  · have hn : need (z.length = sz ∧ 0 < sz ∧ 0 < by_) = none := if_neg hz
    simp only [aAppend, h1, h2, h3, h4, h5, Option.bind_some, hn, Option.bind_none]
theorem prs_one {l : List (Int × Int)} : (prs l).all AV.one = true := by
  induction l with
  | nil => rfl
  | cons p l ih => rw [prs_cons]; simp [AV.one, ih]
theorem ints_ones {k : IntKind} {l : List Int} : (ints k l).all AV.one = true := by simp [ints, AV.one]
theorem bools_one {l : List Bool} : (bools l).all AV.one = true := by simp [bools, AV.one]
section
variable {P : Program} {f : FuncId} {args : List AV} {H l1 : AHeap} {x : AV}
/-- What a call leaves, seen in another way. -/
theorem ACalls.weak (h : ACalls P f args H fun y H1 => y = x ∧ H1 = H ++ l1) (G : AHeap) (hG : G.all phant = true) (sel : List Nat) (hnd : sel.Nodup) (x2 : AV) (l2 : AHeap)
    (hw : W (H.length + (l1 ++ G).length) x (x2.mv (sig H.length (l1 ++ G).length sel)) ∧ absH (H.length + (l1 ++ G).length) (sig H.length (l1 ++ G).length sel) (l1 ++ G) sel l2) :
    ACalls P f args H fun y H1 => y = x2 ∧ H1 = H ++ l2 := fun E w vs hE hv => by
  refine (h E w vs hE hv).mono ?_
  rintro e w' ⟨E', v, H', x', he, ⟨rfl, rfl⟩, hle, hr, hemb⟩
  have hab := Abs.of (n := H.length) (H0 := H) (l1 := l1) (l2 := l2) (F1 := [(0, x')]) (F2 := [(0, x2)]) G hG rfl hE.bel sel hnd (fun p hp => by simp at hp; subst hp; exact hw.1) (absH_get hw.2).1 (absH_get hw.2).2
  obtain ⟨E2, l, f2, e2⟩ := hab.emb (a := ⟨#[v], []⟩) (by rw [hemb.n]; simp) (fun t => by
    unfold look
    cases t with
    | zero => simpa using hr
    | succ t => simp [look]; exact .any _) hemb
  refine ⟨E2, v, _, x2, he, ⟨rfl, rfl⟩, ?_, by have := f2 0; simpa [look] using this, e2⟩
  have hn := hE.n
  exact ⟨l.B.trans hle.B, l.w0.trans hle.w0, by rw [hn]; exact l.n, fun b hb => (l.loc b (by rw [← hn]; exact hb)).trans (hle.loc b hb)⟩
theorem ACalls.weak0 (h : ACalls P f args H fun y H1 => y = x ∧ H1 = H) (G : AHeap) (hG : G.all phant = true) (sel : List Nat) (hnd : sel.Nodup) (x2 : AV) (l2 : AHeap)
    (hw : W (H.length + G.length) x (x2.mv (sig H.length G.length sel)) ∧ absH (H.length + G.length) (sig H.length G.length sel) G sel l2) :
    ACalls P f args H fun y H1 => y = x2 ∧ H1 = H ++ l2 :=
  ACalls.weak (l1 := []) (h.mono fun y H1 ⟨a, b⟩ => ⟨a, by rw [b, List.append_nil]⟩) G hG sel hnd x2 l2 hw
/-- The caller's memory may hold blocks that nothing lies in. -/
theorem ACalls.ghost {R : AV → AHeap → Prop} {es : Nat} (h : ACalls P f args (H ++ [.cells false es []]) R) : ACalls P f args H R := fun E w vs hE hv => by
  refine (h _ w vs (hE.phantom rfl) (hv.mono (E.le_push _))).mono ?_
  rintro e w' ⟨E', v, H', x, he, hR, hle, hr, hemb⟩
  exact ⟨E', v, H', x, he, hR, (E.le_push _).trans hle, hr, hemb⟩
/-- What is handed over, seen in another way. -/
theorem ACalls.wargs {args2 : List AV} {R : AV → AHeap → Prop} (h : ACalls P f args2 H R) (hw : Ws H.length args args2) : ACalls P f args H R := fun E w vs hE hv =>
  h E w vs hE (relL_W (by rw [hE.n]; exact Nat.le_refl _) _ _ vs hw hv)
end
section
variable {P : Program} {f : FuncId} {H : AHeap}
/-- An empty slice is nil, or it is none: a call at it. -/
theorem ACalls.nilsplit {b es : Nat} {cap : Option Nat} {x x2 : AV} {l1 l2 : AHeap} (h1 : ACalls P f [.sl none 0 (some 0)] H fun y H1 => y = x2 ∧ H1 = H ++ l2) (h2 : ∀ c, 0 < c → ACalls P f [.sl (some (b, 0)) 0 (some c)] H fun y H1 => y = x2 ∧ H1 = H ++ l2)
    (h3 : ACalls P f [.sl (some (H.length, 1)) 0 (some 0)] (H ++ [.cells false es []]) fun y H1 => y = x ∧ H1 = H ++ l1) (G : AHeap) (hG : G.all phant = true) (sel : List Nat) (hnd : sel.Nodup)
    (hw : W (H.length + (l1 ++ G).length) x (x2.mv (sig H.length (l1 ++ G).length sel)) ∧ absH (H.length + (l1 ++ G).length) (sig H.length (l1 ++ G).length sel) (l1 ++ G) sel l2) :
    ACalls P f [.sl (some (b, 0)) 0 cap] H fun y H1 => y = x2 ∧ H1 = H ++ l2 := fun E w vs hE hv => by
  obtain ⟨v1, l1, rfl, k1, h1'⟩ := rels_cons hv
  obtain rfl := rels_nil h1'
  cases k1 with
  | nils _ _ hb hc => exact h1 E w _ hE (.cons .nilsl (.nil E))
  | sl _ _ _ _ c a hb q1 q2 q3 q4 q5 =>
    rcases Nat.eq_zero_or_pos c with rfl | h0
    · have hn := hE.n
      have hX : Emb (E.push ⟨0, 0, 1, es⟩) (H ++ [.cells false es []]) w := by
        have hle := E.le_push ⟨0, 0, 1, es⟩
        have e1 : (E.push ⟨0, 0, 1, es⟩).loc H.length = ⟨0, 0, 1, es⟩ := by rw [← hn]; exact Env.push_new _ _
        refine ⟨by simp [Env.push, hn], hE.below, hE.base, fun b x hbx => ?_, fun b c x y hbx hcy ox oy hbc => ?_⟩
        · by_cases hbl : b < H.length
          · rw [List.getElem?_append_left hbl] at hbx
            rw [Env.push_old _ _ (by omega)]
            exact (hE.blk b x hbx).mono hle (Nat.le_refl _) (fun _ => rfl) (fun _ => rfl)
          · have hbe : b = H.length := by have := getElem?_lt hbx; simp at this; omega
            subst hbe
            rw [List.getElem?_append_right (Nat.le_refl _), Nat.sub_self] at hbx
            simp at hbx; subst hbx
            rw [e1]
            exact ⟨fun j x hj => by simp at hj, (fun h => by cases h), fun _ h0 => by simp at h0, rfl⟩
        · by_cases hbl : b < H.length
          · by_cases hcl : c < H.length
            · rw [List.getElem?_append_left hbl] at hbx
              rw [List.getElem?_append_left hcl] at hcy
              rw [Env.push_old _ _ (by omega), Env.push_old _ _ (by omega)]
              exact hE.inj b c x y hbx hcy ox oy hbc
            · have hbe : c = H.length := by have := getElem?_lt hcy; simp at this; omega
              subst hbe
              rw [List.getElem?_append_right (Nat.le_refl _), Nat.sub_self] at hcy
              simp at hcy; subst hcy; cases oy
          · have hbe : b = H.length := by have := getElem?_lt hbx; simp at this; omega
            subst hbe
            rw [List.getElem?_append_right (Nat.le_refl _), Nat.sub_self] at hbx
            simp at hbx; subst hbx; cases ox
      refine (h3 (E.push ⟨0, 0, 1, es⟩) w _ hX (.cons (.sl H.length 1 0 (some 0) 0 a (by simp [Env.push, hn]) (Nat.le_refl _) (by simp) (.inr rfl) (.inl rfl) ?_) (.nil _))).mono ?_
      · have e1 : (E.push ⟨0, 0, 1, es⟩).loc H.length = ⟨0, 0, 1, es⟩ := by rw [← hn]; exact Env.push_new _ _
        rw [e1]; simp
      · rintro e w' ⟨E', v, H', x', he, ⟨rfl, rfl⟩, hle, hr, hemb⟩
        have hab := Abs.of (n := H.length) (H0 := H) (l1 := l1) (l2 := l2) (F1 := [(0, x')]) (F2 := [(0, x2)]) G hG rfl hE.bel sel hnd (fun p hp => by simp at hp; subst hp; exact hw.1) (absH_get hw.2).1 (absH_get hw.2).2
        obtain ⟨E2, l, f2, e2⟩ := hab.emb (a := ⟨#[v], []⟩) (by rw [hemb.n]; simp) (fun t => by
          unfold look
          cases t with
          | zero => simpa using hr
          | succ t => simp [look]; exact .any _) hemb
        have hle' := (E.le_push ⟨0, 0, 1, es⟩).trans hle
        exact ⟨E2, v, _, x2, he, ⟨rfl, rfl⟩, ⟨l.B.trans hle'.B, l.w0.trans hle'.w0, by rw [hn]; exact l.n, fun b hb => (l.loc b (by rw [← hn]; exact hb)).trans (hle'.loc b hb)⟩, by have := f2 0; simpa [look] using this, e2⟩
    · exact h2 c h0 E w _ hE (.cons (.sl b 0 0 (some c) c a hb q1 q2 (.inr rfl) q4 q5) (.nil E))
end
theorem Abs.byE {H0 l2 : AHeap} {F1 F2 : Fr} (hsc : HBel H0.length H0) (G : AHeap) (hG : G.all phant = true) (sel : List Nat) (hnd : sel.Nodup) (h : absF (H0.length + G.length) (sig H0.length G.length sel) F1 F2 ∧ absH (H0.length + G.length) (sig H0.length G.length sel) G sel l2) : Abs H0.length (sig H0.length G.length sel) F1 H0 F2 (H0 ++ l2) := by
  have := Abs.byG (l1 := []) (l2 := l2) (F1 := F1) (F2 := F2) hsc G hG sel hnd h
  simpa using this
theorem Abs.byN {H0 l1 : AHeap} {F1 F2 : Fr} (hsc : HBel H0.length H0) (h : absF (H0.length + l1.length) (sig H0.length l1.length []) F1 F2) : Abs H0.length (sig H0.length l1.length []) F1 (H0 ++ l1) F2 H0 := by
  have := Abs.by (l1 := l1) (l2 := []) (F1 := F1) (F2 := F2) hsc [] (by simp) ⟨h, trivial⟩
  simpa using this
theorem end_byE {P : Program} {fn : Func} {H l2 : AHeap} {R : AV → AHeap → Prop} {F : Fr} {e : Exit} (he : e = .ret ∨ e = .normal) (hbel : HBel H.length H) {x1 : AV} (x2 : AV) (hx : aResult P fn F H = some x1) (G : AHeap) (hG : G.all phant = true) (sel : List Nat) (hnd : sel.Nodup) (hR : R x2 (H ++ l2))
    (h : W (H.length + G.length) x1 (x2.mv (sig H.length G.length sel)) ∧ absH (H.length + G.length) (sig H.length G.length sel) G sel l2) : AEnd P fn H.length R e F H := by
  have h1 := end_byG (P := P) (fn := fn) (l1 := []) (l2 := l2) (R := R) (F := F) he hbel x2 (by simpa using hx) G hG sel hnd hR h
  simpa using h1
theorem ints_app {k : IntKind} {l m : List Int} : ints k (l ++ m) = ints k l ++ ints k m := by simp [ints]
theorem ints_cons {k : IntKind} {x : Int} {l : List Int} : ints k (x :: l) = .int k x :: ints k l := rfl
theorem ints_nil {k : IntKind} : ints k [] = [] := rfl
theorem bools_app {l m : List Bool} : bools (l ++ m) = bools l ++ bools m := by simp [bools]
theorem bools_cons {x : Bool} {l : List Bool} : bools (x :: l) = .bool x :: bools l := rfl
theorem bools_nil : bools [] = [] := rfl
/-- A row of pairs that is handed back: one new block. -/
def rowV (H : AHeap) (n : Nat) : AV := .sl (some (H.length, 0)) n (capG n)
def rowB (l : List (Int × Int)) : ABlk := .cells (ownG l.length) 2 (prs l)
end Go.Proofs.Ytjfnbcifafmefaa
