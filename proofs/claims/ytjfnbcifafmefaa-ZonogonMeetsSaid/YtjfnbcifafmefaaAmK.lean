/- The abstract machine: calls, operations in a row, regions in the order of the text. Conditions: as each theorem states. -/
import Derived.Test.YtjfnbcifafmefaaAmJ
import Derived.Deep.LoopGhost
import Derived.Orders
namespace Go.Proofs.Ytjfnbcifafmefaa
set_option linter.unusedSimpArgs false
set_option linter.unusedVariables false
open Go.RowKit

theorem wp_mono2 {P : Program} {o : Oper} {a : Act} {w : World} {K K' : Act → World → Prop} {Q Q' : Exit → Act → World → Prop} (h : ∀ a w, K a w → K' a w) (hq : ∀ e a w, Q e a w → Q' e a w) (hh : o.wp P a w K Q) : o.wp P a w K' Q' := by
  unfold Oper.wp at *
  generalize (execOp a.eval o).run P w = r at *
  cases r with
  | ok n w' =>
    cases n <;> simp only [Oper.upon] at hh ⊢ <;>
      first
        | exact h _ _ hh
        | exact Calls.mono hh (fun e w'' he => by cases e <;> first | exact h _ _ he | exact hq _ _ _ he | exact (let ⟨a, w, q⟩ := he; ⟨a, w, hq _ _ _ q⟩))
        | exact Rows.mono hh (fun _ _ he => h _ _ he)
  | halt x w' => cases x <;> simp only [Oper.upon] at hh ⊢ <;> exact hq _ _ _ hh
theorem wpOps_mono' {P : Program} {ops : Array Oper} {Q Q' : Exit → Act → World → Prop} (hq : ∀ e a w, Q e a w → Q' e a w) : ∀ (l : List Nat) (a : Act) (w : World), wpOps P ops Q l a w → wpOps P ops Q' l a w
  | [], a, w, h => hq _ _ _ h
  | i :: l, a, w, h => by
    unfold wpOps at h ⊢
    split
    · rename_i ho; rw [ho] at h; exact wpOps_mono' hq l a w h
    · rename_i o ho
      rw [ho] at h
      simp only at h
      split
      · rename_i hw
        rw [if_pos hw] at h
        rcases h with h | ⟨h1, a0, w0, h2⟩
        · exact .inl (wp_mono2 (fun a w => wpOps_mono' hq l a w) hq h)
        · exact .inr ⟨h1, a0, w0, hq _ _ _ h2⟩
      · rename_i hw
        rw [if_neg hw] at h
        exact wpOps_mono' hq l _ w h
/-- A call: wherever the memory lies, the call comes to R. -/
def ACalls (P : Program) (f : FuncId) (args : List AV) (H : AHeap) (R : AV → AHeap → Prop) : Prop :=
  ∀ (E : Env) (w : World) (vs : List Value), Emb E H w → RelL E args vs → Calls P f vs.toArray w fun e w' => ∃ E' v H' x, e = .returned v ∧ R x H' ∧ E.le E' ∧ Rel E' x v ∧ Emb E' H' w'
theorem ACalls.mono {P : Program} {f : FuncId} {args : List AV} {H : AHeap} {R R' : AV → AHeap → Prop} (h : ACalls P f args H R) (hr : ∀ x H', R x H' → R' x H') : ACalls P f args H R' :=
  fun E w vs hE hv => (h E w vs hE hv).mono fun _ _ ⟨E', v, H', x, e, hR, r⟩ => ⟨E', v, H', x, e, hr _ _ hR, r⟩
/-- A function that can be entered. -/
def okFn (P : Program) (f : FuncId) : Bool :=
  match P.funcs[f]? with
  | some fn => fn.body.isSome && fn.name != "runtime.NumGoroutine"
  | none => false
/-- The function that an operation calls, and what it is handed. -/
def calleeOf (o : Op) (F : Fr) : Option (FuncId × List AV) :=
  match o with
  | .call c => (match c.callee with | .value f => (match aev F f with | .fn k caps => some (k, c.args.toList.map (aev F) ++ caps) | _ => none) | _ => none)
  | _ => none
def AOp (P : Program) (o : Op) (F : Fr) (H : AHeap) (K : AV → AHeap → Prop) : Prop :=
  match calleeOf o F with
  | some p => okFn P p.1 = true ∧ ACalls P p.1 p.2 H K
  | none => ∃ r, aop P o F H = some r ∧ K r.1 r.2
def putF (d : Option Tmp) (x : AV) (F : Fr) : Fr :=
  match d with
  | some t => (t, x) :: F
  | none => F
/-- Whether an operation is wanted, if that is known. -/
def gd (ops : Array Oper) (F : Fr) (o : Oper) : Option Bool :=
  match o.guard with
  | none => some true
  | some g =>
    match (ops[g.1]?).bind (·.dst) with
    | some t => (match look F t with | .bool b => some (b == g.2) | .tup [] => some false | _ => none)
    | none => none
/-- Operations in a row. -/
def AOps (P : Program) (ops : Array Oper) : List Oper → Fr → AHeap → (Fr → AHeap → Prop) → Prop
  | [], F, H, K => K F H
  | o :: os, F, H, K =>
    match gd ops F o with
    | some true => AOp P o.op F H fun x H' => AOps P ops os (putF o.dst x F) H' K
    | some false => AOps P ops os (putF o.dst (.tup []) F) H K
    | none => False
/-- The environment has kept the first n blocks. -/
structure Env.leN (m : Nat) (E E' : Env) : Prop where
  B : E'.B = E.B
  w0 : E'.w0 = E.w0
  n : m ≤ E'.n
  loc : ∀ b, b < m → E'.loc b = E.loc b
theorem Env.le.leN {n : Nat} {E E' : Env} (h : E.le E') (hn : n ≤ E.n) : Env.leN n E E' := ⟨h.B, h.w0, Nat.le_trans hn h.n, fun b hb => h.loc b (Nat.lt_of_lt_of_le hb hn)⟩
theorem Env.leN.trans {n : Nat} {E E' E'' : Env} (h : Env.leN n E E') (k : Env.leN n E' E'') : Env.leN n E E'' := ⟨k.B.trans h.B, k.w0.trans h.w0, k.n, fun b hb => (k.loc b hb).trans (h.loc b hb)⟩
/-- What is said behind a piece of code, in a world. -/
def LiftQ (N n : Nat) (Q : Exit → Fr → AHeap → Prop) (E : Env) (e : Exit) (a : Act) (w : World) : Prop :=
  ∃ E' F H, Q e F H ∧ Env.leN n E E' ∧ a.tmps.size = N ∧ a.defers = [] ∧ FrRel E' F a ∧ Emb E' H w
def AW (P : Program) (N n : Nat) (c : Code) (Q : Exit → Fr → AHeap → Prop) (F : Fr) (H : AHeap) : Prop :=
  ∀ (E : Env) (w : World) (a : Act), n ≤ E.n → a.tmps.size = N → a.defers = [] → FrRel E F a → Emb E H w → c.wp P (LiftQ N n Q E) a w
theorem LiftQ.shift {N n : Nat} {Q : Exit → Fr → AHeap → Prop} {E E' : Env} (hle : Env.leN n E E') {e : Exit} {a : Act} {w : World} (h : LiftQ N n Q E' e a w) : LiftQ N n Q E e a w := by
  obtain ⟨E2, F, H, q, l, r⟩ := h
  exact ⟨E2, F, H, q, hle.trans l, r⟩
def AThen (K : Fr → AHeap → Prop) (Q : Exit → Fr → AHeap → Prop) : Exit → Fr → AHeap → Prop
  | .normal, F, H => K F H
  | e, F, H => Q e F H
def AInBlock (id : Nat) (Q : Exit → Fr → AHeap → Prop) : Exit → Fr → AHeap → Prop
  | .exit id', F, H => if id' = id then Q .normal F H else Q (.exit id') F H
  | e, F, H => Q e F H
section
variable {P : Program} {N n : Nat} {Q : Exit → Fr → AHeap → Prop} {F : Fr} {H : AHeap}
theorem AW.mono {c : Code} {Q' : Exit → Fr → AHeap → Prop} (h : AW P N n c Q F H) (hq : ∀ e F H, Q e F H → Q' e F H) : AW P N n c Q' F H :=
  fun E w a h1 h2 h3 h4 h5 => wp_mono (h E w a h1 h2 h3 h4 h5) fun _ _ _ ⟨E', F, H, q, r⟩ => ⟨E', F, H, hq _ _ _ q, r⟩
theorem AW_skip (h : Q .normal F H) : AW P N n .skip Q F H := fun E w a h1 h2 h3 h4 h5 => wp_skip ⟨E, F, H, h, (Env.le.refl E).leN h1, h2, h3, h4, h5⟩
theorem AW_label {l : Nat} (h : Q .normal F H) : AW P N n (.label l) Q F H := fun E w a h1 h2 h3 h4 h5 => wp_label ⟨E, F, H, h, (Env.le.refl E).leN h1, h2, h3, h4, h5⟩
theorem AW_exit {id : Nat} (h : Q (.exit id) F H) : AW P N n (.exit id) Q F H := fun E w a h1 h2 h3 h4 h5 => wp_exit ⟨E, F, H, h, (Env.le.refl E).leN h1, h2, h3, h4, h5⟩
theorem AW_ret (h : Q .ret F H) : AW P N n .ret Q F H := fun E w a h1 h2 h3 h4 h5 => wp_ret ⟨E, F, H, h, (Env.le.refl E).leN h1, h2, h3, h4, h5⟩
theorem AW_seq {x y : Code} (h : AW P N n x (AThen (fun F H => AW P N n y Q F H) Q) F H) : AW P N n (.seq x y) Q F H := by
  intro E w a h1 h2 h3 h4 h5
  refine wp_seq (wp_mono (h E w a h1 h2 h3 h4 h5) ?_)
  rintro e a' w' ⟨E', F', H', q, l, k2, k3, k4, k5⟩
  cases e with
  | normal => exact wp_mono (q E' w' a' l.n k2 k3 k4 k5) fun _ _ _ hq => hq.shift l
  | exit id => exact ⟨E', F', H', q, l, k2, k3, k4, k5⟩
  | goto id => exact ⟨E', F', H', q, l, k2, k3, k4, k5⟩
  | ret => exact ⟨E', F', H', q, l, k2, k3, k4, k5⟩
  | panic ch => exact ⟨E', F', H', q, l, k2, k3, k4, k5⟩
  | outgrown => exact ⟨E', F', H', q, l, k2, k3, k4, k5⟩
theorem AW_cond {c : Operand} {x y : Code} (t : Bool) (hc : aev F c = .bool t) (h1 : t = true → AW P N n x Q F H) (h2 : t = false → AW P N n y Q F H) : AW P N n (.cond c x y) Q F H := by
  intro E w a k1 k2 k3 k4 k5
  have := k4.ev c
  rw [hc] at this
  exact wp_cond_split (rel_bool_inv this) (fun e => h1 e E w a k1 k2 k3 k4 k5) (fun e => h2 e E w a k1 k2 k3 k4 k5)
theorem AW_block {id : Nat} {c : Code} (h : AW P N n c (AInBlock id Q) F H) : AW P N n (.block id c) Q F H := by
  intro E w a h1 h2 h3 h4 h5
  refine wp_block (wp_mono (h E w a h1 h2 h3 h4 h5) ?_)
  rintro e a' w' ⟨E', F', H', q, r⟩
  cases e with
  | normal => exact ⟨E', F', H', q, r⟩
  | exit id' =>
    show Exit.inBlock id _ (.exit id') a' w'
    simp only [Exit.inBlock, AInBlock] at q ⊢
    split
    · rename_i e; rw [if_pos e] at q; exact ⟨E', F', H', q, r⟩
    · rename_i e; rw [if_neg e] at q; exact ⟨E', F', H', q, r⟩
  | goto id => exact ⟨E', F', H', q, r⟩
  | ret => exact ⟨E', F', H', q, r⟩
  | panic ch => exact ⟨E', F', H', q, r⟩
  | outgrown => exact ⟨E', F', H', q, r⟩

/-- A state that is seen as another one: blocks are forgotten or counted anew (σ: where a new number's block was), slots are forgotten. -/
structure Abs0 (n : Nat) (σ : Nat → Nat) (F1 : Fr) (H1 : AHeap) (F2 : Fr) (H2 : AHeap) : Prop where
  small : ∀ b, b < n → σ b = b
  len : n ≤ H2.length
  frame : ∀ E E' : Env, E.n = H1.length → E'.n = H2.length → (∀ b, E'.loc b = E.loc (σ b)) → ∀ t v, Rel E (look F1 t) v → Rel E' (look F2 t) v
  heap : ∀ E E' : Env, E.n = H1.length → E'.n = H2.length → E'.B = E.B → (∀ b, E'.loc b = E.loc (σ b)) → ∀ (w : World), (∀ (b : Nat) (x : ABlk), H1[b]? = some x → BlkOk E w (E.loc b) x) → ∀ (b : Nat) (x : ABlk), H2[b]? = some x → BlkOk E' w (E'.loc b) x
  inj : ∀ (b c : Nat) (x y : ABlk), H2[b]? = some x → H2[c]? = some y → x.owned = true → y.owned = true → b ≠ c → σ b ≠ σ c ∧ (∃ x', H1[σ b]? = some x' ∧ x'.owned = true) ∧ ∃ y', H1[σ c]? = some y' ∧ y'.owned = true
theorem Abs0.emb {σ : Nat → Nat} {F1 F2 : Fr} {H1 H2 : AHeap} (h : Abs0 n σ F1 H1 F2 H2) {E : Env} {w : World} {a : Act} (hn : n ≤ E.n) (hF : FrRel E F1 a) (hE : Emb E H1 w) :
    ∃ E', Env.leN n E E' ∧ FrRel E' F2 a ∧ Emb E' H2 w :=
  let E' : Env := { B := E.B, w0 := E.w0, n := H2.length, loc := fun b => E.loc (σ b) }
  ⟨E', ⟨rfl, rfl, h.len, fun b hb => by show E.loc (σ b) = _; rw [h.small b hb]⟩, fun t => h.frame E E' hE.n rfl (fun _ => rfl) t _ (hF t),
    ⟨rfl, hE.below, hE.base, h.heap E E' hE.n rfl rfl (fun _ => rfl) w hE.blk, fun b c x y hx hy ox oy hbc => by
      obtain ⟨h1, ⟨x', hx', ox'⟩, y', hy', oy'⟩ := h.inj b c x y hx hy ox oy hbc
      exact hE.inj _ _ x' y' hx' hy' ox' oy' h1⟩⟩
/-- A block that nothing lies in: what an empty slice, nil or not, is said to point to. -/
def phant : ABlk → Bool
  | .cells false _ [] => true
  | _ => false
theorem phant_inv {X : ABlk} (h : phant X = true) : ∃ es, X = .cells false es [] := by
  unfold phant at h
  split at h
  · exact ⟨_, rfl⟩
  · cases h
theorem Emb.phantom {E : Env} {w : World} {H : AHeap} (h : Emb E H w) {es : Nat} {X : ABlk} (hX : X = .cells false es []) : Emb (E.push ⟨0, 0, 0, es⟩) (H ++ [X]) w := by
  subst hX
  have hle := E.le_push ⟨0, 0, 0, es⟩
  have hn := h.n
  have e1 : (E.push ⟨0, 0, 0, es⟩).loc H.length = ⟨0, 0, 0, es⟩ := by rw [← hn]; exact Env.push_new _ _
  refine ⟨by simp [Env.push, hn], h.below, h.base, fun b x hbx => ?_, fun b c x y hbx hcy ox oy hbc => ?_⟩
  · by_cases hbl : b < H.length
    · rw [List.getElem?_append_left hbl] at hbx
      rw [Env.push_old _ _ (by omega)]
      exact (h.blk b x hbx).mono hle (Nat.le_refl _) (fun _ => rfl) (fun _ => rfl)
    · have hbe : b = H.length := by have := getElem?_lt hbx; simp at this; omega
      subst hbe
      rw [List.getElem?_append_right (Nat.le_refl _), Nat.sub_self] at hbx
      simp at hbx; subst hbx
      rw [e1]
      exact ⟨fun j x hj => by simp at hj, (fun h => by cases h), fun _ h0 => by simp at h0, rfl⟩
  · by_cases hbl : b < H.length
    · by_cases hcl : c < H.length
      · rw [List.getElem?_append_left hbl] at hbx
        rw [List.getElem?_append_left hcl] at hcy
        rw [Env.push_old _ _ (by omega), Env.push_old _ _ (by omega)]
        exact h.inj b c x y hbx hcy ox oy hbc
      · have hbe : c = H.length := by have := getElem?_lt hcy; simp at this; omega
        subst hbe
        rw [List.getElem?_append_right (Nat.le_refl _), Nat.sub_self] at hcy
        simp at hcy; subst hcy; cases oy
    · have hbe : b = H.length := by have := getElem?_lt hbx; simp at this; omega
      subst hbe
      rw [List.getElem?_append_right (Nat.le_refl _), Nat.sub_self] at hbx
      simp at hbx; subst hbx; cases ox
theorem Emb.phantoms {w : World} : ∀ (G : AHeap) {E : Env} {H : AHeap}, G.all phant = true → Emb E H w → ∃ E', E.le E' ∧ Emb E' (H ++ G) w
  | [], E, H, _, h => ⟨E, .refl E, by simpa using h⟩
  | X :: G, E, H, hG, h => by
    simp only [List.all_cons, Bool.and_eq_true] at hG
    obtain ⟨es, hX⟩ := phant_inv hG.1
    obtain ⟨E', h1, h2⟩ := Emb.phantoms G hG.2 (h.phantom hX)
    exact ⟨E', (E.le_push _).trans h1, by rw [List.append_assoc] at h2; exact h2⟩
/-- The same; blocks that nothing lies in may stand behind it. -/
def Abs (n : Nat) (σ : Nat → Nat) (F1 : Fr) (H1 : AHeap) (F2 : Fr) (H2 : AHeap) : Prop := ∃ G : AHeap, G.all phant = true ∧ Abs0 n σ F1 (H1 ++ G) F2 H2
theorem Abs0.abs {σ : Nat → Nat} {F1 F2 : Fr} {H1 H2 : AHeap} (h : Abs0 n σ F1 H1 F2 H2) : Abs n σ F1 H1 F2 H2 := ⟨[], rfl, by simpa using h⟩
theorem Abs.emb {σ : Nat → Nat} {F1 F2 : Fr} {H1 H2 : AHeap} (h : Abs n σ F1 H1 F2 H2) {E : Env} {w : World} {a : Act} (hn : n ≤ E.n) (hF : FrRel E F1 a) (hE : Emb E H1 w) :
    ∃ E', Env.leN n E E' ∧ FrRel E' F2 a ∧ Emb E' H2 w := by
  obtain ⟨G, hG, h⟩ := h
  obtain ⟨E1, h1, h2⟩ := hE.phantoms G hG
  obtain ⟨E2, h3, h4, h5⟩ := h.emb (Nat.le_trans hn h1.n) (hF.mono h1) h2
  exact ⟨E2, (h1.leN hn).trans h3, h4, h5⟩
/-- A loop: the invariant bears a number that every round lowers; it holds of the state seen in another way. -/
theorem AW_loop {c : Code} (I : Nat → Fr → AHeap → Prop) (k0 : Nat) (h0 : ∃ σ F2 H2, I k0 F2 H2 ∧ Abs n σ F H F2 H2)
    (round : ∀ k F H, I k F H → AW P N n c (AThen (fun F' H' => ∃ k', k' < k ∧ ∃ σ F2 H2, I k' F2 H2 ∧ Abs n σ F' H' F2 H2) Q) F H) : AW P N n (.loop c) Q F H := by
  intro E w a h1 h2 h3 h4 h5
  obtain ⟨σ, F2, H2, i0, ab⟩ := h0
  obtain ⟨E1, l1, f1, e1⟩ := ab.emb h1 h4 h5
  refine wp_loop_ghost (fun k a w => ∃ E' F' H', I k F' H' ∧ Env.leN n E E' ∧ a.tmps.size = N ∧ a.defers = [] ∧ FrRel E' F' a ∧ Emb E' H' w) k0 ⟨E1, F2, H2, i0, l1, h2, h3, f1, e1⟩ ?_
  rintro k a' w' ⟨E', F', H', i, l, k2, k3, k4, k5⟩
  refine wp_mono (round k F' H' i E' w' a' l.n k2 k3 k4 k5) ?_
  rintro e a'' w'' ⟨E'', F'', H'', q, l', r2, r3, r4, r5⟩
  cases e with
  | normal =>
    obtain ⟨k', hk, σ', F3, H3, i', ab'⟩ := q
    obtain ⟨E3, l3, f3, e3⟩ := ab'.emb l'.n r4 r5
    exact ⟨k', hk, E3, F3, H3, i', (l.trans l').trans l3, r2, r3, f3, e3⟩
  | exit id => exact ⟨E'', F'', H'', q, l.trans l', r2, r3, r4, r5⟩
  | goto id => exact ⟨E'', F'', H'', q, l.trans l', r2, r3, r4, r5⟩
  | ret => exact ⟨E'', F'', H'', q, l.trans l', r2, r3, r4, r5⟩
  | panic ch => exact ⟨E'', F'', H'', q, l.trans l', r2, r3, r4, r5⟩
  | outgrown => exact ⟨E'', F'', H'', q, l.trans l', r2, r3, r4, r5⟩

/-- A call that is made. -/
theorem run_callOp {E : Env} {a : Act} {o : Oper} (hF : ∀ x ∈ o.op.operands, Rel E (aev F x) (a.eval x)) {f : FuncId} {args : List AV} (hc : calleeOf o.op F = some (f, args)) (hok : okFn P f = true) (w : World) :
    ∃ vs : List Value, (execOp a.eval o).run P w = .ok (.enter f vs.toArray) w ∧ RelL E args vs := by
  obtain ⟨dst, op, type, pos, after, guard⟩ := o
  simp only at hc hF
  unfold calleeOf at hc
  split at hc
  · rename_i c
    split at hc
    · rename_i g hg
      split at hc
      · rename_i k caps hk
        injection hc with hc
        injection hc with e1 e2
        subst e1 e2
        obtain ⟨callee, cargs, argTypes⟩ := c
        simp only at hg
        subst hg
        have hgv := hF g (by simp [Op.operands, Call.operands])
        rw [hk] at hgv
        generalize hev : a.eval g = gv at hgv
        cases hgv with
        | fn _ _ cs h1 h2 =>
        have hargs := relL_evs (E := E) (F := F) (a := a) cargs.toList (fun p hp => hF p (by simp [Op.operands, Call.operands]; exact .inr (by simpa using hp)))
        have hcaps : RelL E caps cs.toList := ⟨by simpa using h1, fun i x v hx hv => h2 i x v hx (by simpa using hv)⟩
        refine ⟨cargs.toList.map a.eval ++ cs.toList, ?_, hargs.append hcaps⟩
        unfold okFn at hok
        cases hfn : P.funcs[k]? with
        | none => rw [hfn] at hok; cases hok
        | some fn =>
          rw [hfn] at hok
          simp only [Bool.and_eq_true] at hok
          have hb : fn.body ≠ none := by cases hbb : fn.body <;> simp_all
          have hnm : fn.name ≠ "runtime.NumGoroutine" := by simpa using hok.2
          have hcat : (cargs.toList.map a.eval ++ cs.toList).toArray = cargs.map a.eval ++ cs := by
            rw [← List.append_toArray, map_toArr, Array.toArray_toList]
          rw [hcat]
          simp [execOp, resolve, hev, Deferred.ofValue, invoke, callFunc, hfn, hb, hnm]
      · cases hc
    · cases hc
  · cases hc
theorem gd_spec {E : Env} {a : Act} {ops : Array Oper} {o : Oper} {b : Bool} (hg : gd ops F o = some b) (hF : ∀ t, (∃ g, o.guard = some g ∧ (ops[g.1]?).bind (·.dst) = some t) → Rel E (look F t) (a.tmps.getD t undef)) :
    Region.wanted o (yielded ops a.tmps) = b := by
  unfold gd at hg
  unfold Region.wanted
  split at hg
  · rename_i h; rw [h]; simpa using hg
  · rename_i g h
    obtain ⟨j, want⟩ := g
    rw [h]
    simp only at hg ⊢
    split at hg
    · rename_i t ht
      have hr := hF t ⟨(j, want), h, ht⟩
      split at hg
      · rename_i c hl
        simp only [Option.some.injEq] at hg
        rw [hl] at hr
        have hv := rel_bool_inv hr
        have : yielded ops a.tmps j = some c := by
          simp only [yielded, ht, Option.bind_some]
          rw [Array.getD_eq_getD_getElem?] at hv
          cases hq : a.tmps[t]? with
          | none => rw [hq] at hv; simp [undef] at hv
          | some q => rw [hq] at hv; simp at hv; subst hv; rfl
        rw [this, ← hg]
        cases c <;> cases want <;> rfl
      · rename_i hl
        simp only [Option.some.injEq] at hg
        rw [hl] at hr
        have hv : a.tmps.getD t undef = .tuple #[] := by
          generalize a.tmps.getD t undef = q at hr
          cases hr with
          | tup _ cs h1 h2 => simp at h1; rw [Array.eq_empty_of_size_eq_zero h1.symm]
        have : yielded ops a.tmps j = none := by
          simp only [yielded, ht, Option.bind_some]
          rw [Array.getD_eq_getD_getElem?] at hv
          cases hq : a.tmps[t]? with
          | none => rfl
          | some q => rw [hq] at hv; simp at hv; subst hv; rfl
        rw [this, ← hg]
        rfl
      · cases hg
    · cases hg
theorem rel_undef (E : Env) : Rel E (.tup []) undef := (RelL.nil E).tup
/-- All slots that a region writes are there. -/
def dstsOk (N : Nat) (ops : Array Oper) : Bool := ops.all fun o => match o.dst with | some d => decide (d < N) | none => true
theorem put_rel {E : Env} {a : Act} (hF : FrRel E F a) (hN : a.tmps.size = N) {d : Option Tmp} (hd : ∀ t, d = some t → t < N) {x : AV} {v : Value} (hv : Rel E x v) : FrRel E (putF d x F) (a.put d v) ∧ (a.put d v).tmps.size = N ∧ (a.put d v).defers = a.defers := by
  cases d with
  | none => exact ⟨hF, hN, rfl⟩
  | some t => exact ⟨hF.put (by rw [hN]; exact hd t rfl) hv, by simp [Act.put, hN], rfl⟩
theorem AOps_wp {ops : Array Oper} (hN : dstsOk N ops = true) : ∀ (l : List Oper) (k : Nat), ops.toList.drop k = l → ∀ (F : Fr) (H : AHeap), AOps P ops l F H (fun F' H' => Q .normal F' H') →
    ∀ (E : Env) (w : World) (a : Act), n ≤ E.n → a.tmps.size = N → a.defers = [] → FrRel E F a → Emb E H w → wpOps P ops (LiftQ N n Q E) (List.range' k l.length) a w
  | [], k, _, F, H, h, E, w, a, h1, h2, h3, h4, h5 => ⟨E, F, H, h, (Env.le.refl E).leN h1, h2, h3, h4, h5⟩
  | o :: os, k, hk, F, H, h, E, w, a, h1, h2, h3, h4, h5 => by
    have ho : ops[k]? = some o := by
      have := congrArg (·[0]?) hk
      simpa using this
    have hos : ops.toList.drop (k + 1) = os := by
      have := congrArg (List.drop 1) hk
      simpa using this
    have hd : ∀ t, o.dst = some t → t < N := fun t ht => by
      have := Array.all_eq_true_iff_forall_mem.1 hN o (Array.mem_of_getElem? ho)
      rw [ht] at this
      simpa using this
    have next : ∀ (F' : Fr) (H' : AHeap), AOps P ops os F' H' (fun F' H' => Q .normal F' H') → ∀ (E' : Env) (w' : World) (a' : Act), E.le E' → a'.tmps.size = N → a'.defers = [] → FrRel E' F' a' → Emb E' H' w' → wpOps P ops (LiftQ N n Q E) (List.range' (k + 1) os.length) a' w' := fun F' H' h' E' w' a' hle k2 k3 k4 k5 => by
      have := AOps_wp hN os (k + 1) hos F' H' h' E' w' a' (Nat.le_trans h1 hle.n) k2 k3 k4 k5
      exact wpOps_mono' (fun e a w hq => hq.shift (hle.leN h1)) _ _ _ this
    have hops : ∀ x ∈ o.op.operands, Rel E (aev F x) (a.eval x) := fun x _ => h4.ev x
    simp only [List.length_cons, List.range'_succ, wpOps, ho]
    unfold AOps at h
    cases hg : gd ops F o with
    | none => rw [hg] at h; exact h.elim
    | some b =>
      rw [hg] at h
      rw [gd_spec hg (fun t _ => h4 t)]
      cases b
      · simp only at h
        simp only [Bool.false_eq_true, if_false]
        obtain ⟨q1, q2, q3⟩ := put_rel h4 h2 hd (rel_undef E)
        exact next _ _ h E w _ (.refl E) q2 (q3.trans h3) q1 h5
      · simp only [AOp] at h
        simp only [if_true]
        left
        unfold Oper.wp
        cases hc : calleeOf o.op F with
        | some p =>
          obtain ⟨f, args⟩ := p
          rw [hc] at h
          obtain ⟨hok, hcall⟩ := h
          obtain ⟨vs, hrun, hvs⟩ := run_callOp hops hc hok w
          rw [hrun, Oper.upon_enter]
          refine (hcall E w vs h5 hvs).mono ?_
          rintro e w' ⟨E', v, H', x, rfl, hx, hle, hv, hE'⟩
          obtain ⟨q1, q2, q3⟩ := put_rel (h4.mono hle) h2 hd hv
          exact next _ _ hx E' w' _ hle q2 (q3.trans h3) q1 hE'
        | none =>
          rw [hc] at h
          obtain ⟨r, hr, h⟩ := h
          obtain ⟨E', nx, w', hrun, hn, hle, hE'⟩ := snd_op h5 o hops hr
          rw [hrun]
          rcases hn with ⟨rfl, hany⟩ | ⟨v, rfl, hv⟩
          · rw [Oper.upon_skip]
            obtain ⟨q1, q2, q3⟩ := put_rel (h4.mono hle) h2 hd (x := r.1) (v := undef) (by rw [hany]; exact .any _)
            exact next _ _ h E' w' _ hle q2 (q3.trans h3) q1 hE'
          · rw [Oper.upon_value]
            obtain ⟨q1, q2, q3⟩ := put_rel (h4.mono hle) h2 hd hv
            exact next _ _ h E' w' _ hle q2 (q3.trans h3) q1 hE'
theorem AW_region {id : Nat} {ops : Array Oper} (hN : dstsOk N ops = true) (h : AOps P ops ops.toList F H (fun F' H' => Q .normal F' H')) : AW P N n (.region id ops false) Q F H := by
  intro E w a h1 h2 h3 h4 h5
  refine wp_region ?_
  have := AOps_wp (n := n) hN ops.toList 0 rfl F H h E w a h1 h2 h3 h4 h5
  rwa [← List.range_eq_range', Array.length_toList] at this
end
end Go.Proofs.Ytjfnbcifafmefaa
