/- Parts of the proof: walks and plain facts. Conditions: as each theorem states. -/
import Derived.Test.YtgfjhidfpjmmnaaG1
import Derived.WideShapes
import Derived.ChangeArms
import Derived.Deep.Fields
import Derived.Test.YtgfjhidfpjmmnaaRows
import Derived.ProofKit
import Derived.OpenShut
import Derived.ShutString
import Derived.ChangeOld
import Derived.Lib.SmallJoins
namespace Go.Proofs.Ytgfjhidfpjmmnaa
set_option linter.unusedSimpArgs false
set_option linter.unusedVariables false
open Go.RowKit

/-- Neither looks at the memory nor changes it. -/
def kPure : Op → Bool
  | .move _ | .assign _ | .pick .. | .nilCheck _ | .binOp .. | .unOp .. | .makeFunc .. | .fieldAddr .. | .field .. | .indexAddr .. | .index .. | .extract .. | .build .. => true
  | .call c => (match c.callee with | .builtin .min | .builtin .max => true | _ => false)
  | _ => false
/-- May change the memory (q: calls do not). -/
def kChg (q : Bool) : Op → Bool
  | .move _ | .assign _ | .pick .. | .nilCheck _ | .binOp .. | .unOp .. | .makeFunc .. | .fieldAddr .. | .field .. | .indexAddr .. | .index .. | .extract .. | .build .. => false
  | .load .. | .lookup .. | .slice .. | .convert .. => false
  | .call c => (match c.callee with | .builtin .min | .builtin .max | .builtin .len => false | .value _ => !q | _ => true)
  | _ => true
/-- Looks at one block alone. -/
def kRead : Op → Bool
  | .load .. => true
  | .slice .. => true
  | .call c => (match c.callee with | .builtin .len => true | _ => false)
  | _ => false
/-- Makes a block and changes no other one. -/
def kNew : Op → Bool
  | .alloc _ | .box .. | .buildSlice .. | .makeSlice .. | .makeMap .. => true
  | _ => false
/-- The block that is read was there before the region. -/
def belowV (m : Nat) : AV → Prop
  | .ptr (some (b, _)) => b < m
  | .sl (some (b, _)) _ _ => b < m
  | _ => True
def lenV (m : Nat) : AV → Prop
  | .mp (some b) => b < m
  | _ => True
/-- In a region that draws, what is read is a block that was there before the region. -/
def lateOk (m : Nat) (o : Op) (F : Fr) : Prop :=
  match o with
  | .load _ a => belowV m (aev F a)
  | .slice _ x _ _ _ => belowV m (aev F x)
  | .call c => (match c.callee, c.args.toList with | .builtin .len, x :: _ => lenV m (aev F x) | _, _ => True)
  | _ => True
def AOpD (P : Program) (q : Bool) (m : Nat) (o : Op) (F : Fr) (H : AHeap) (K : AV → AHeap → Prop) : Prop :=
  match calleeOf o F with
  | some p => okFn P p.1 = true ∧ ∃ x H', (q = true → H' = H) ∧ (H.length ≤ H'.length ∧ ∀ b, b < m → b < H.length → H'[b]? = H[b]?) ∧ ACalls P p.1 p.2 H (fun y H1 => y = x ∧ H1 = H') ∧ K x H'
  | none => lateOk m o F ∧ ∃ r, aop P o F H = some r ∧ K r.1 r.2
def AOpsD (P : Program) (q : Bool) (m : Nat) (ops : Array Oper) : List Oper → Fr → AHeap → (Fr → AHeap → Prop) → Prop
  | [], F, H, K => K F H
  | o :: os, F, H, K =>
    match gd ops F o with
    | some true => AOpD P q m o.op F H fun x H' => AOpsD P q m ops os (putF o.dst x F) H' K
    | some false => AOpsD P q m ops os (putF o.dst (.tup []) F) H K
    | none => False
def DoOp (P : Program) (q : Bool) (m : Nat) (o : Op) (F : Fr) (H : AHeap) (x : AV) (H' : AHeap) : Prop :=
  match calleeOf o F with
  | some p => okFn P p.1 = true ∧ (q = true → H' = H) ∧ (H.length ≤ H'.length ∧ ∀ b, b < m → b < H.length → H'[b]? = H[b]?) ∧ ACalls P p.1 p.2 H (fun y H1 => y = x ∧ H1 = H')
  | none => lateOk m o F ∧ aop P o F H = some (x, H')
structure Steps' (P : Program) (q : Bool) (m : Nat) (ops : Array Oper) (k : Nat) (F : Fr) (H : AHeap) (r : Nat → AV) (h : Nat → AHeap) (fr : Nat → Fr) : Prop where
  fr0 : fr k = F
  h0 : h k = H
  step : ∀ i o, k ≤ i → ops[i]? = some o → fr (i + 1) = putF o.dst (r i) (fr i) ∧ ((gd ops (fr i) o = some true ∧ DoOp P q m o.op (fr i) (h i) (r i) (h (i + 1))) ∨ (gd ops (fr i) o = some false ∧ r i = .tup [] ∧ h (i + 1) = h i))
section
variable {P : Program} {N n m : Nat} {Q : Exit → Fr → AHeap → Prop} {q : Bool} {ops : Array Oper}
theorem AOpsD_trace {K : Fr → AHeap → Prop} : ∀ (l : List Oper) (k : Nat), ops.toList.drop k = l → ∀ (F : Fr) (H : AHeap), AOpsD P q m ops l F H K → ∃ r h fr, Steps' P q m ops k F H r h fr ∧ K (fr (k + l.length)) (h (k + l.length))
  | [], k, hk, F, H, hh => by
    refine ⟨fun _ => .any, fun _ => H, fun _ => F, ⟨rfl, rfl, fun i o hi ho => ?_⟩, hh⟩
    have := congrArg (·[i - k]?) hk
    simp [show k + (i - k) = i by omega, ho] at this
  | o :: os, k, hk, F, H, hh => by
    have ho : ops[k]? = some o := by
      have := congrArg (·[0]?) hk
      simpa using this
    have hos : ops.toList.drop (k + 1) = os := by
      have := congrArg (List.drop 1) hk
      simpa using this
    have fin : ∀ x H1, AOpsD P q m ops os (putF o.dst x F) H1 K → ((gd ops F o = some true ∧ DoOp P q m o.op F H x H1) ∨ (gd ops F o = some false ∧ x = .tup [] ∧ H1 = H)) → ∃ r h fr, Steps' P q m ops k F H r h fr ∧ K (fr (k + (o :: os).length)) (h (k + (o :: os).length)) := by
      intro x H1 h1 h2
      obtain ⟨r, h, fr, ⟨e1, e2, e3⟩, e4⟩ := AOpsD_trace os (k + 1) hos _ _ h1
      refine ⟨fun i => if i = k then x else r i, fun i => if i = k then H else h i, fun i => if i = k then F else fr i, ⟨by simp, by simp, fun i o' hi ho' => ?_⟩, ?_⟩
      · by_cases e : i = k
        · subst e
          rw [ho] at ho'; simp at ho'; subst ho'
          simp only [if_true, if_neg (show ¬ i + 1 = i by omega), e1, e2]
          exact ⟨trivial, h2⟩
        simp only [if_neg e, if_neg (show ¬ i + 1 = k by omega)]
        exact e3 i o' (by omega) ho'
      simp only [List.length_cons, if_neg (show ¬ k + (os.length + 1) = k by omega)]
      rw [show k + (os.length + 1) = k + 1 + os.length by omega]
      exact e4
    unfold AOpsD at hh
    cases hg : gd ops F o with
    | none => rw [hg] at hh; exact hh.elim
    | some b =>
      rw [hg] at hh
      cases b
      · exact fin _ _ hh (.inr ⟨hg, rfl, rfl⟩)
      simp only [AOpD] at hh
      cases hc : calleeOf o.op F with
      | some p =>
        rw [hc] at hh
        obtain ⟨a1, x, H', a2, a2', a3, a4⟩ := hh
        exact fin x H' a4 (.inl ⟨hg, by unfold DoOp; rw [hc]; exact ⟨a1, a2, a2', a3⟩⟩)
      | none =>
        rw [hc] at hh
        obtain ⟨a0, r, a1, a2⟩ := hh
        exact fin r.1 r.2 a2 (.inl ⟨hg, by unfold DoOp; rw [hc]; exact ⟨a0, a1⟩⟩)
theorem kPure_spec {o : Op} (hp : kPure o = true) {F : Fr} {H : AHeap} {r : AV × AHeap} (hr : aop P o F H = some r) : r.2 = H ∧ ∀ H', aop P o F H' = some (r.1, H') := by
  cases o <;> simp only [kPure, Bool.false_eq_true] at hp
  case pick c a b =>
    simp only [aop] at hr ⊢
    split at hr
    · simp only [Option.some.injEq] at hr; subst hr; exact ⟨rfl, fun _ => rfl⟩
    cases hr
  case nilCheck x =>
    simp only [aop] at hr ⊢
    split at hr
    · simp only [Option.some.injEq] at hr; subst hr; exact ⟨rfl, fun _ => rfl⟩
    · simp only [Option.some.injEq] at hr; subst hr; exact ⟨rfl, fun _ => rfl⟩
    cases hr
  case makeFunc fn first caps =>
    simp only [aop] at hr ⊢
    split at hr
    · obtain ⟨h0, rfl⟩ := need_of hr
      exact ⟨rfl, fun _ => by simp [need, h0]⟩
    cases hr
  case call c =>
    obtain ⟨callee, args, ts⟩ := c
    simp only at hp
    split at hp
    · simp only [aop, aBuiltin] at hr ⊢
      split at hr <;> (try simp only [Option.map_eq_some_iff] at hr) <;> try (cases hr; done)
      all_goals simp_all
      all_goals (obtain ⟨a, ha, rfl⟩ := hr; simp_all)
    · simp only [aop, aBuiltin] at hr ⊢
      split at hr <;> (try simp only [Option.map_eq_some_iff] at hr) <;> try (cases hr; done)
      all_goals simp_all
      all_goals (obtain ⟨a, ha, rfl⟩ := hr; simp_all)
    cases hp
  all_goals
    simp only [aop, Option.map_eq_some_iff, Option.some.injEq] at hr ⊢
    first
      | (subst hr; exact ⟨rfl, fun _ => rfl⟩)
      | (obtain ⟨a, ha, rfl⟩ := hr; exact ⟨rfl, fun H' => ⟨a, ha, rfl⟩⟩)
theorem kPure_callee {o : Op} (hp : kPure o = true) (F : Fr) : calleeOf o F = none := by
  unfold calleeOf
  split
  · rename_i c
    obtain ⟨callee, args, ts⟩ := c
    unfold kPure at hp
    cases callee with
    | value f => simp at hp
    | _ => rfl
  rfl
theorem kPure_chg {o : Op} (hp : kPure o = true) : kChg q o = false := by
  cases o <;> simp only [kPure, Bool.false_eq_true] at hp <;> simp only [kChg]
  rename_i c
  split at hp
  · rename_i h; rw [h]
  · rename_i h; rw [h]
  cases hp
theorem kChg_spec {o : Op} (hp : kChg q o = false) {F : Fr} (hc : calleeOf o F = none) {H : AHeap} {r : AV × AHeap} (hr : aop P o F H = some r) : r.2 = H := by
  cases o <;> simp only [kChg, Bool.true_eq_false] at hp
  case pick c a b => exact (kPure_spec rfl hr).1
  case nilCheck x => exact (kPure_spec rfl hr).1
  case makeFunc fn first caps => exact (kPure_spec rfl hr).1
  case load t x =>
    simp only [aop, aLoad] at hr
    split at hr
    · obtain ⟨g, -, hr⟩ := bind_some' hr
      cases g
      · simp only [cond_false, Option.map_eq_some_iff] at hr; obtain ⟨a, -, rfl⟩ := hr; rfl
      simp only [cond_true] at hr
      obtain ⟨a, -, hr⟩ := bind_some' hr
      simp only [Option.map_eq_some_iff] at hr; obtain ⟨a, -, rfl⟩ := hr; rfl
    cases hr
  case call c =>
    obtain ⟨callee, args, ts⟩ := c
    simp only at hp
    simp only [aop] at hr
    split at hp
    · simp only [aBuiltin] at hr
      split at hr <;> (try simp only [Option.map_eq_some_iff] at hr) <;> try (cases hr; done)
      all_goals simp_all
      all_goals (obtain ⟨a, ha, rfl⟩ := hr; simp_all)
    · simp only [aBuiltin] at hr
      split at hr <;> (try simp only [Option.map_eq_some_iff] at hr) <;> try (cases hr; done)
      all_goals simp_all
      all_goals (obtain ⟨a, ha, rfl⟩ := hr; simp_all)
    · simp only [aBuiltin] at hr
      split at hr <;> (try simp only [Option.map_eq_some_iff] at hr) <;> try (cases hr; done)
      all_goals simp_all
      all_goals (obtain ⟨a, ha, rfl⟩ := hr; simp_all)
    · cases hr
    cases hp
  all_goals
    simp only [aop, Option.map_eq_some_iff, Option.some.injEq] at hr
    first
      | (subst hr; rfl)
      | (obtain ⟨a, ha, rfl⟩ := hr; rfl)
/-- One operation must come before another one. -/
inductive Pred (ops : Array Oper) : Nat → Nat → Prop where
  | edge {j : Nat} {o : Oper} {e : Edge} : ops[j]? = some o → e ∈ o.after → Region.binds .any e = true → Pred ops e.on j
  | step {i j : Nat} {o : Oper} {e : Edge} : ops[j]? = some o → e ∈ o.after → Region.binds .any e = true → Pred ops i e.on → Pred ops i j
def maskOf (acc : List Nat) (o : Oper) : Nat := o.after.toList.foldl (fun s e => if Region.binds .any e then s ||| 2 ^ e.on ||| acc.getD e.on 0 else s) 0
def masksGo : List Oper → List Nat → List Nat
  | [], acc => acc
  | o :: os, acc => masksGo os (acc ++ [maskOf acc o])
def masks (ops : Array Oper) : List Nat := masksGo ops.toList []
theorem maskFold (acc : List Nat) (i : Nat) : ∀ (l : List Edge) (s : Nat), (l.foldl (fun s e => if Region.binds .any e then s ||| 2 ^ e.on ||| acc.getD e.on 0 else s) s).testBit i = true →
    s.testBit i = true ∨ ∃ e ∈ l, Region.binds .any e = true ∧ (e.on = i ∨ (acc.getD e.on 0).testBit i = true)
  | [], s, h => .inl h
  | e :: l, s, h => by
    simp only [List.foldl_cons] at h
    rcases maskFold acc i l _ h with h | ⟨e', h1, h2⟩
    · split at h
      · rename_i hb
        simp only [Nat.testBit_or, Bool.or_eq_true] at h
        rcases h with (h | h) | h
        · exact .inl h
        · rw [Nat.testBit_two_pow] at h
          exact .inr ⟨e, by simp, hb, .inl (by simpa using h)⟩
        exact .inr ⟨e, by simp, hb, .inr h⟩
      exact .inl h
    exact .inr ⟨e', by simp [h1], h2⟩
theorem masksGo_spec (ops : Array Oper) : ∀ (l : List Oper) (acc : List Nat), ops.toList.drop acc.length = l → (∀ j i, (acc.getD j 0).testBit i = true → Pred ops i j) → ∀ j i, ((masksGo l acc).getD j 0).testBit i = true → Pred ops i j
  | [], acc, _, h => h
  | o :: os, acc, hl, h => by
    have ho : ops[acc.length]? = some o := by
      have := congrArg (·[0]?) hl
      simpa using this
    refine masksGo_spec ops os _ (by have := congrArg (List.drop 1) hl; simpa using this) ?_
    intro j i hb
    by_cases hj : j < acc.length
    · refine h j i ?_
      rwa [List.getD_eq_getElem?_getD, List.getElem?_append_left hj, ← List.getD_eq_getElem?_getD] at hb
    by_cases hj2 : j = acc.length
    · subst hj2
      rw [List.getD_eq_getElem?_getD, List.getElem?_append_right (Nat.le_refl _)] at hb
      simp at hb
      unfold maskOf at hb
      rcases maskFold acc i _ _ hb with hb | ⟨e, h1, h2, h3⟩
      · simp at hb
      rcases h3 with rfl | h3
      · exact .edge ho (by simpa using h1) h2
      exact .step ho (by simpa using h1) h2 (h _ _ h3)
    rw [List.getD_eq_getElem?_getD, List.getElem?_eq_none (by simp; omega)] at hb
    simp at hb
theorem masks_spec {ops : Array Oper} {i j : Nat} (h : ((masks ops).getD j 0).testBit i = true) : Pred ops i j :=
  masksGo_spec ops ops.toList [] rfl (fun j i h => by simp at h) j i h
/-- The latest operation ahead of i that writes the slot makes a row anew. -/
def freshAt (ops : Array Oper) : Nat → Tmp → Bool
  | 0, _ => false
  | i + 1, t =>
    match ops[i]? with
    | some o => bif o.dst == some t then (match o.op with
        | .buildSlice .. => true
        | .call c => (match c.callee, c.args.toList with | .builtin .append, .tmp s :: _ => freshAt ops i s | _, _ => false)
        | _ => false) else freshAt ops i t
    | none => false
/-- Leaves every block that was there before the region as it was. -/
def kExt (ops : Array Oper) (i : Nat) (o : Op) : Bool :=
  kNew o || (match o with
    | .call c => (match c.callee, c.args.toList with | .value _, _ => true | .builtin .append, .tmp s :: _ => freshAt ops i s | _, _ => false)
    | _ => false)
/-- Two operations whose order matters are ordered. -/
def pairOk (q : Bool) (ops : Array Oper) (m : List Nat) (i j : Nat) (a b : Oper) : Bool :=
  (match a.dst with | some t => b.dst != some t && ((m.getD j 0).testBit i || (m.getD i 0).testBit j || !(b.looksAt ops).contains t) | none => true) &&
  ((m.getD j 0).testBit i || (m.getD i 0).testBit j || !kChg q a.op || kPure b.op || (kExt ops i a.op && kRead b.op))
def drawOk (q : Bool) (N : Nat) (ops : Array Oper) : Bool :=
  dstsOk N ops && (ops.toList.zipIdx.all fun p => p.1.after.all fun e => !Region.binds .any e || decide (e.on < p.2)) &&
  (let m := masks ops; ops.toList.zipIdx.all fun p => ops.toList.zipIdx.all fun r => p.2 == r.2 || pairOk q ops m p.2 r.2 p.1 r.1)
structure DrawOk (q : Bool) (N : Nat) (ops : Array Oper) : Prop where
  dst : ∀ (i : Nat) (o : Oper) (t : Tmp), ops[i]? = some o → o.dst = some t → t < N
  back : ∀ (i : Nat) (o : Oper) (e : Edge), ops[i]? = some o → e ∈ o.after → Region.binds .any e = true → e.on < i
  one : ∀ (i j : Nat) (a b : Oper) (t : Tmp), ops[i]? = some a → ops[j]? = some b → i ≠ j → a.dst = some t → b.dst ≠ some t
  look : ∀ (i j : Nat) (a b : Oper) (t : Tmp), ops[i]? = some a → ops[j]? = some b → i ≠ j → a.dst = some t → t ∈ b.looksAt ops → Pred ops i j ∨ Pred ops j i
  chg : ∀ (i j : Nat) (a b : Oper), ops[i]? = some a → ops[j]? = some b → i ≠ j → kChg q a.op = true → kPure b.op = false → (Pred ops i j ∨ Pred ops j i) ∨ (kExt ops i a.op = true ∧ kRead b.op = true)
theorem drawOk_spec {q : Bool} {N : Nat} {ops : Array Oper} (h : drawOk q N ops = true) : DrawOk q N ops := by
  unfold drawOk at h
  simp only [Bool.and_eq_true] at h
  obtain ⟨⟨h1, h2⟩, h3⟩ := h
  have zi : ∀ i o, ops[i]? = some o → (o, i) ∈ ops.toList.zipIdx := fun i o ho => List.mem_iff_getElem?.2 ⟨i, by simp [List.getElem?_zipIdx, ho]⟩
  have pair : ∀ i j a b, ops[i]? = some a → ops[j]? = some b → i ≠ j → pairOk q ops (masks ops) i j a b = true := fun i j a b ha hb hij => by
    have := List.all_eq_true.1 (List.all_eq_true.1 h3 _ (zi i a ha)) _ (zi j b hb)
    simp only [Bool.or_eq_true, beq_iff_eq] at this
    exact this.resolve_left hij
  refine ⟨fun i o t ho ht => ?_, fun i o e ho he hb => ?_, fun i j a b t ha hb hij ht => ?_, fun i j a b t ha hb hij ht hl => ?_, fun i j a b ha hb hij hc hp => ?_⟩
  · have := Array.all_eq_true_iff_forall_mem.1 h1 o (Array.mem_of_getElem? ho)
    rw [ht] at this
    simpa using this
  · have := List.all_eq_true.1 h2 _ (zi i o ho)
    have := Array.all_eq_true_iff_forall_mem.1 this e he
    simpa [hb] using this
  · have := pair i j a b ha hb hij
    unfold pairOk at this
    rw [ht] at this
    simp only [Bool.and_eq_true, bne_iff_ne] at this
    exact this.1.1
  · have := pair i j a b ha hb hij
    unfold pairOk at this
    rw [ht] at this
    simp only [Bool.and_eq_true, Bool.or_eq_true] at this
    rcases this.1.2 with (h | h) | h
    · exact .inl (masks_spec h)
    · exact .inr (masks_spec h)
    simp at h; exact absurd hl h
  have := pair i j a b ha hb hij
  unfold pairOk at this
  simp only [Bool.and_eq_true, Bool.or_eq_true] at this
  rcases this.2 with (((h | h) | h) | h) | h
  · exact .inl (.inl (masks_spec h))
  · exact .inl (.inr (masks_spec h))
  · rw [hc] at h; cases h
  · rw [hp] at h; cases h
  exact .inr h
theorem Pred.lt {ops : Array Oper} {q : Bool} {N : Nat} (hok : DrawOk q N ops) {i j : Nat} (h : Pred ops i j) : i < j := by
  induction h with
  | edge ho he hb => exact hok.back _ _ _ ho he hb
  | step ho he hb _ ih => exact Nat.lt_trans ih (hok.back _ _ _ ho he hb)
/-- The listed operations' forerunners are listed. -/
def Closed (ops : Array Oper) (L : Nat → Bool) : Prop := ∀ (j : Nat) (o : Oper) (e : Edge), ops[j]? = some o → L j = true → e ∈ o.after → Region.binds .any e = true → L e.on = true
theorem Pred.listed {ops : Array Oper} {L : Nat → Bool} (hc : Closed ops L) {i j : Nat} (h : Pred ops i j) : (∀ o e, ops[j]? = some o → e ∈ o.after → Region.binds .any e = true → L e.on = true) → L i = true := by
  induction h with
  | edge ho he hb => exact fun hr => hr _ _ ho he hb
  | step ho he hb _ ih => exact fun hr => ih fun o' e' ho' he' hb' => hc _ o' e' ho' (hr _ _ ho he hb) he' hb'
/-- What a slot holds when the operations in L (below k) are done. -/
def curV (ops : Array Oper) (L : Nat → Bool) (r : Nat → AV) (F : Fr) : Nat → Nat → AV
  | 0, t => look F t
  | k + 1, t => if L k = true ∧ (ops[k]?).bind (·.dst) = some t then r k else curV ops L r F k t
/-- The memory when the operations in L (below k) are done. -/
def curH (q : Bool) (ops : Array Oper) (L : Nat → Bool) (h : Nat → AHeap) (H : AHeap) : Nat → AHeap
  | 0 => H
  | k + 1 => if L k = true ∧ ((ops[k]?).map fun o => kChg q o.op) = some true then h (k + 1) else curH q ops L h H k
theorem curV_succ {ops : Array Oper} {L : Nat → Bool} {r : Nat → AV} {F : Fr} {t k : Nat} : curV ops L r F (k + 1) t = if L k = true ∧ (ops[k]?).bind (·.dst) = some t then r k else curV ops L r F k t := rfl
theorem curH_succ {q : Bool} {ops : Array Oper} {L : Nat → Bool} {h : Nat → AHeap} {H : AHeap} {k : Nat} : curH q ops L h H (k + 1) = if L k = true ∧ ((ops[k]?).map fun o => kChg q o.op) = some true then h (k + 1) else curH q ops L h H k := rfl
theorem curV_congr {ops : Array Oper} {L L' : Nat → Bool} {r : Nat → AV} {F : Fr} {t : Nat} : ∀ k, (∀ i, i < k → (ops[i]?).bind (·.dst) = some t → L i = L' i) → curV ops L r F k t = curV ops L' r F k t
  | 0, _ => rfl
  | k + 1, h => by
    unfold curV
    have ih := curV_congr (L := L) (L' := L') (r := r) (F := F) k (fun i hi => h i (by omega))
    by_cases hd : (ops[k]?).bind (·.dst) = some t
    · rw [h k (by omega) hd, ih]
    rw [if_neg (fun hh => hd hh.2), if_neg (fun hh => hd hh.2), ih]
theorem curH_congr {q : Bool} {ops : Array Oper} {L L' : Nat → Bool} {h : Nat → AHeap} {H : AHeap} : ∀ k, (∀ i, i < k → ((ops[i]?).map fun o => kChg q o.op) = some true → L i = L' i) → curH q ops L h H k = curH q ops L' h H k
  | 0, _ => rfl
  | k + 1, hh => by
    unfold curH
    have ih := curH_congr (L := L) (L' := L') (h := h) (H := H) k (fun i hi => hh i (by omega))
    by_cases hd : ((ops[k]?).map fun o => kChg q o.op) = some true
    · rw [hh k (by omega) hd, ih]
    rw [if_neg (fun x => hd x.2), if_neg (fun x => hd x.2), ih]
theorem curV_below {ops : Array Oper} {r : Nat → AV} {F : Fr} {t j : Nat} : ∀ k, j ≤ k → curV ops (fun i => decide (i < j)) r F k t = curV ops (fun _ => true) r F j t
  | 0, h => by
    have : j = 0 := by omega
    subst this; rfl
  | k + 1, h => by
    by_cases hj : j = k + 1
    · subst hj
      exact curV_congr _ (fun i hi _ => by simpa using hi)
    rw [curV_succ (k := k)]
    rw [if_neg (fun hh => by have := hh.1; simp at this; omega)]
    exact curV_below (j := j) k (by omega)
theorem curH_below {q : Bool} {ops : Array Oper} {h : Nat → AHeap} {H : AHeap} {j : Nat} : ∀ k, j ≤ k → curH q ops (fun i => decide (i < j)) h H k = curH q ops (fun _ => true) h H j
  | 0, hh => by
    have : j = 0 := by omega
    subst this; rfl
  | k + 1, hh => by
    by_cases hj : j = k + 1
    · subst hj
      exact curH_congr _ (fun i hi _ => by simpa using hi)
    rw [curH_succ (k := k)]
    rw [if_neg (fun hh => by have := hh.1; simp at this; omega)]
    exact curH_below (j := j) k (by omega)
theorem curV_text {P : Program} {q : Bool} {m : Nat} {ops : Array Oper} {F : Fr} {H : AHeap} {r : Nat → AV} {h : Nat → AHeap} {fr : Nat → Fr} (st : Steps' P q m ops 0 F H r h fr) (t : Nat) : ∀ k, k ≤ ops.size → curV ops (fun _ => true) r F k t = look (fr k) t
  | 0, _ => by rw [st.fr0]; rfl
  | k + 1, hk => by
    have ho : ops[k]? = some ops[k] := Array.getElem?_eq_getElem (by omega)
    have ih := curV_text st t k (by omega)
    obtain ⟨e1, -⟩ := st.step k _ (by omega) ho
    unfold curV
    have hb : (ops[k]?).bind (·.dst) = ops[k].dst := by rw [ho]; rfl
    rw [e1, ih, hb]
    cases hd : ops[k].dst with
    | none => simp [putF]
    | some d =>
      show (if (fun _ => true) k = true ∧ some d = some t then r k else look (fr k) t) = (bif d == t then r k else look (fr k) t)
      by_cases e : d = t
      · simp [e]
      have e' : (d == t) = false := by simp [e]
      simp [e, e']
theorem step_keeps {P : Program} {q : Bool} {m : Nat} {ops : Array Oper} {F : Fr} {H : AHeap} {r : Nat → AV} {h : Nat → AHeap} {fr : Nat → Fr} (st : Steps' P q m ops 0 F H r h fr) {k : Nat} {o : Oper} (ho : ops[k]? = some o) (hc : kChg q o.op = false) : h (k + 1) = h k := by
  obtain ⟨-, h2⟩ := st.step k o (by omega) ho
  rcases h2 with ⟨-, h2⟩ | ⟨-, -, h2⟩
  · unfold DoOp at h2
    cases hcal : calleeOf o.op (fr k) with
    | some p =>
      rw [hcal] at h2
      refine h2.2.1 ?_
      cases hop : o.op <;> rw [hop] at hcal hc <;> try (simp [calleeOf] at hcal; done)
      rename_i c
      obtain ⟨callee, args, ts⟩ := c
      cases callee <;> simp [calleeOf] at hcal
      simpa [kChg] using hc
    | none =>
      rw [hcal] at h2
      exact kChg_spec hc hcal h2.2
  exact h2
theorem curH_text {P : Program} {q : Bool} {m : Nat} {ops : Array Oper} {F : Fr} {H : AHeap} {r : Nat → AV} {h : Nat → AHeap} {fr : Nat → Fr} (st : Steps' P q m ops 0 F H r h fr) : ∀ k, k ≤ ops.size → curH q ops (fun _ => true) h H k = h k
  | 0, _ => by rw [st.h0]; rfl
  | k + 1, hk => by
    have ho : ops[k]? = some ops[k] := Array.getElem?_eq_getElem (by omega)
    unfold curH
    rw [ho]
    simp only [Option.map_some, Option.some.injEq, true_and]
    by_cases hc : kChg q ops[k].op = true
    · rw [if_pos hc]
    rw [if_neg hc, curH_text st k (by omega), step_keeps st ho (by simpa using hc)]
/-- How many operations are still to be listed. -/
def unl (l : List Bool) : Nat := l.countP (fun b => !b)
theorem unl_set {l : List Bool} {k : Nat} (hk : k < l.length) (hb : l[k]? = some false) : unl (l.set k true) + 1 = unl l := by
  induction l generalizing k with
  | nil => simp at hk
  | cons b bs ih =>
    cases k with
    | zero =>
      have : b = false := by simpa using hb
      subst this
      simp [unl]
    | succ k =>
      have := ih (k := k) (by simpa using hk) (by simpa using hb)
      cases b <;> simp [unl] at this ⊢ <;> omega
theorem kRead_chg {o : Op} (h : kChg q o = true) : kRead o = false := by
  cases o <;> first | rfl | (simp [kChg] at h; done) | skip
  rename_i c
  obtain ⟨callee, args, ts⟩ := c
  simp only [kChg] at h
  simp only [kRead]
  split at h <;> simp_all
theorem kRead_pure {o : Op} (h : kRead o = true) : kPure o = false := by
  cases o <;> first | rfl | (simp [kRead] at h; done) | skip
  rename_i c
  obtain ⟨callee, args, ts⟩ := c
  simp only [kRead] at h
  simp only [kPure]
  split at h <;> simp_all
theorem kRead_callee {o : Op} (h : kRead o = true) {F : Fr} : calleeOf o F = none := by
  cases o <;> first | rfl | (simp [kRead] at h; done) | skip
  rename_i c
  obtain ⟨callee, args, ts⟩ := c
  simp only [kRead] at h
  split at h
  · rfl
  cases h
theorem load_same {o : Op} (ho : kRead o = true) {F : Fr} {H1 H2 H' : AHeap} {x : AV} (hl : lateOk m o F) (h : aop P o F H1 = some (x, H')) (he : ∀ b, b < m → H2[b]? = H1[b]?) : aop P o F H2 = some (x, H2) := by
  cases o <;> first | (simp [kRead] at ho; done) | skip
  case load t a =>
    simp only [aop, aLoad] at h ⊢
    simp only [lateOk] at hl
    split at h
    · rename_i b o hab
      rw [hab] at hl
      simp only [belowV] at hl
      have e1 : ∀ n, ards H2 b o n = ards H1 b o n := fun n => by unfold ards; rw [he b hl]
      have e2 : ard H2 b o = ard H1 b o := by unfold ard; rw [he b hl]
      rw [e2]
      obtain ⟨g, hg, h⟩ := bind_some' h
      rw [hg]
      simp only [Option.bind_some]
      cases g
      · simp only [cond_false, Option.map_eq_some_iff, Prod.mk.injEq] at h ⊢
        obtain ⟨v, h1, rfl, _⟩ := h
        exact ⟨v, h1, rfl, trivial⟩
      simp only [cond_true] at h ⊢
      obtain ⟨n, hn, h⟩ := bind_some' h
      rw [hn]
      simp only [Option.bind_some]
      rw [e1]
      simp only [Option.map_eq_some_iff, Prod.mk.injEq] at h ⊢
      obtain ⟨v, h1, rfl, _⟩ := h
      exact ⟨v, h1, rfl, trivial⟩
    cases h
  case slice t a lo hi mx =>
    simp only [aop, Option.map_eq_some_iff, Prod.mk.injEq] at h ⊢
    obtain ⟨v, h1, rfl, _⟩ := h
    refine ⟨v, ?_, rfl, trivial⟩
    rw [← h1]
    simp only [lateOk] at hl
    generalize aev F a = y at *
    unfold aSlice
    cases y <;> try rfl
    rename_i a' n c
    cases a' with
    | none => rfl
    | some p =>
      obtain ⟨b, o⟩ := p
      simp only [belowV] at hl
      simp only [he b hl]
  case call c =>
    obtain ⟨callee, args, ts⟩ := c
    simp only [kRead] at ho
    split at ho
    · simp only [aop, aBuiltin] at h ⊢
      simp only [lateOk] at hl
      split at h
      all_goals first | (cases h; done) | skip
      all_goals first | (simp_all; done) | skip
      rename_i t x e1 e2 e3
      simp only [Option.map_eq_some_iff, Prod.mk.injEq] at h
      obtain ⟨v, h1, rfl, _⟩ := h
      simp only [Option.map_eq_some_iff, Prod.mk.injEq]
      refine ⟨v, ?_, rfl, trivial⟩
      rw [← h1]
      unfold aLen
      cases x <;> try rfl
      rename_i r
      cases r with
      | none => rfl
      | some b =>
        cases ha : args.toList with
        | nil => rw [ha] at e3; simp at e3
        | cons y ys =>
          rw [ha] at e3 hl
          simp only [List.map_cons, List.cons.injEq] at e3
          simp only [e3.1, lenV] at hl
          simp only [aEnts, he b hl]
    cases ho
theorem kNew_spec {o : Op} (ho : kNew o = true) {F : Fr} {H : AHeap} {r : AV × AHeap} (h : aop P o F H = some r) : ∃ l, r.2 = H ++ l := by
  cases o <;> first | (simp [kNew] at ho; done) | skip
  case alloc t =>
    simp only [aop, aAlloc, aNew, Option.map_eq_some_iff] at h
    obtain ⟨z, -, rfl⟩ := h; exact ⟨_, rfl⟩
  case box t x =>
    simp only [aop, aBox, aNew, Option.map_eq_some_iff] at h
    obtain ⟨z, -, rfl⟩ := h; exact ⟨_, rfl⟩
  case buildSlice t n ps =>
    simp only [aop, aBuildSlice] at h
    obtain ⟨_, -, h⟩ := bind_some' h
    obtain ⟨_, -, h⟩ := bind_some' h
    obtain ⟨_, -, h⟩ := bind_some' h
    obtain ⟨_, -, h⟩ := bind_some' h
    simp only [Option.map_eq_some_iff] at h
    obtain ⟨_, -, rfl⟩ := h; exact ⟨_, rfl⟩
  case makeSlice t l c =>
    simp only [aop, aMakeSlice] at h
    split at h
    · obtain ⟨_, -, h⟩ := bind_some' h
      obtain ⟨_, -, h⟩ := bind_some' h
      obtain ⟨_, -, h⟩ := bind_some' h
      obtain ⟨_, -, h⟩ := bind_some' h
      simp only [Option.map_eq_some_iff] at h
      obtain ⟨_, -, rfl⟩ := h; exact ⟨_, rfl⟩
    cases h
  case makeMap t x =>
    simp only [aop] at h
    split at h
    · simp only [Option.some.injEq] at h; subst h; exact ⟨_, rfl⟩
    split at h
    · simp only [Option.map_eq_some_iff] at h
      obtain ⟨_, -, rfl⟩ := h; exact ⟨_, rfl⟩
    cases h
theorem awrite_len {H : AHeap} {b o : Nat} {ys : List AV} {H' : AHeap} (h : awrite H b o ys = some H') : H'.length = H.length := by
  unfold awrite at h
  split at h
  · split at h
    · simp only [Option.some.injEq] at h; subst h; simp
    cases h
  cases h
theorem aStore_len {t : TypeId} {x y : AV} {H H' : AHeap} (h : aStore P t x y H = some H') : H'.length = H.length := by
  unfold aStore at h
  split at h
  · obtain ⟨_, -, h⟩ := bind_some' h
    exact awrite_len h
  cases h
theorem cond_or {α : Type} {c : Bool} {a b r : Option α} (h : (bif c then a else b) = r) : a = r ∨ b = r := by
  cases c
  · exact .inr h
  exact .inl h
theorem aAppend_len {t : TypeId} {s x : AV} {H : AHeap} {r : AV × AHeap} (h : aAppend P t s x H = some r) : H.length ≤ r.2.length := by
  unfold aAppend at h
  obtain ⟨_, -, h1⟩ := bind_some' h
  obtain ⟨_, -, h2⟩ := bind_some' h1
  obtain ⟨_, -, h3⟩ := bind_some' h2
  obtain ⟨_, -, h4⟩ := bind_some' h3
  obtain ⟨mx, -, h5⟩ := bind_some' h4
  obtain ⟨_, -, h6⟩ := bind_some' h5
  clear h h1 h2 h3 h4 h5
  have h := h6
  clear h6
  split at h
  · obtain ⟨_, -, h⟩ := bind_some' h
    cases hz : mx.1 == 0
    · rw [hz, cond_false] at h
      simp only [Option.map_eq_some_iff] at h
      obtain ⟨_, -, rfl⟩ := h
      simp
    rw [hz, cond_true] at h
    simp only [Option.some.injEq] at h; subst h; exact Nat.le_refl _
  · rename_i b o n cap
    obtain ⟨_, -, h⟩ := bind_some' h
    obtain ⟨_, -, h⟩ := bind_some' h
    rcases cond_or h with h | h
    · simp only [Option.some.injEq] at h; subst h; exact Nat.le_refl _
    rcases cond_or h with h | h
    · simp only [Option.some.injEq] at h; subst h; simp
    split at h
    · simp only [Option.map_eq_some_iff] at h
      obtain ⟨_, -, rfl⟩ := h
      simp
    cases h
  cases h
theorem aCopy_len {t : TypeId} {d s : AV} {H : AHeap} {r : AV × AHeap} (h : aCopy P t d s H = some r) : H.length ≤ r.2.length := by
  unfold aCopy at h
  obtain ⟨_, -, h1⟩ := bind_some' h
  obtain ⟨_, -, h2⟩ := bind_some' h1
  clear h h1
  have h := h2
  clear h2
  split at h
  · rename_i b o n c b' o' k c'
    cases hz : min k n == 0
    · rw [hz, cond_false] at h
      obtain ⟨_, -, h⟩ := bind_some' h
      simp only [Option.map_eq_some_iff] at h
      obtain ⟨_, h1, rfl⟩ := h
      rw [awrite_len h1]; exact Nat.le_refl _
    rw [hz, cond_true] at h
    simp only [Option.some.injEq] at h; subst h; exact Nat.le_refl _
  · simp only [Option.some.injEq] at h; subst h; exact Nat.le_refl _
  · simp only [Option.some.injEq] at h; subst h; exact Nat.le_refl _
  cases h
theorem aClear_len {t : TypeId} {d : AV} {H H' : AHeap} (h : aClear P t d H = some H') : H'.length = H.length := by
  unfold aClear at h
  obtain ⟨_, -, h1⟩ := bind_some' h
  obtain ⟨_, -, h2⟩ := bind_some' h1
  obtain ⟨-, h3⟩ := need_bind h2
  clear h h1 h2
  split at h3
  · simp at h3; subst h3; rfl
  · rename_i b o n c
    cases hz : n == 0
    · rw [hz, cond_false] at h3; exact awrite_len h3
    rw [hz, cond_true] at h3; simp at h3; subst h3; rfl
  cases h3
theorem aDelete_len {t : TypeId} {d k : AV} {H H' : AHeap} (h : aDelete P t d k H = some H') : H'.length = H.length := by
  unfold aDelete at h
  split at h
  · split at h
    · obtain ⟨_, -, h⟩ := bind_some' h
      obtain ⟨_, -, h⟩ := bind_some' h
      simp only [Option.map_eq_some_iff] at h
      obtain ⟨z, -, h⟩ := h
      subst h
      cases z <;> simp
    cases h
  cases h
theorem aMapUpdate_len {t : TypeId} {d k x : AV} {H H' : AHeap} (h : aMapUpdate P t d k x H = some H') : H'.length = H.length := by
  unfold aMapUpdate at h
  split at h
  · split at h
    · obtain ⟨_, -, h⟩ := bind_some' h
      obtain ⟨_, -, h⟩ := bind_some' h
      obtain ⟨z, -, h⟩ := bind_some' h
      cases z with
      | none => simp only [Option.some.injEq] at h; subst h; simp
      | some z =>
        simp only [Option.map_eq_some_iff] at h
        obtain ⟨_, -, rfl⟩ := h
        simp
    cases h
  cases h
theorem aop_len {o : Op} {F : Fr} {H : AHeap} {r : AV × AHeap} (h : aop P o F H = some r) : H.length ≤ r.2.length := by
  cases hk : kNew o with
  | true =>
    obtain ⟨l, hl⟩ := kNew_spec hk h
    rw [hl]; simp
  | false =>
    cases o <;> first | (have := kChg_spec (q := true) rfl rfl h; rw [this]; exact Nat.le_refl _) | (simp [kNew] at hk; done) | (simp [aop] at h; done) | skip
    case store t a x =>
      simp only [aop, Option.map_eq_some_iff] at h
      obtain ⟨_, h1, rfl⟩ := h
      rw [aStore_len h1]; exact Nat.le_refl _
    case mapUpdate t a k x =>
      simp only [aop, Option.map_eq_some_iff] at h
      obtain ⟨_, h1, rfl⟩ := h
      rw [aMapUpdate_len h1]; exact Nat.le_refl _
    case call c =>
      simp only [aop] at h
      split at h
      · simp only [aBuiltin] at h
        split at h
        · simp only [Option.map_eq_some_iff] at h; obtain ⟨_, -, rfl⟩ := h; exact Nat.le_refl _
        · obtain ⟨_, -, h⟩ := bind_some' h
          exact aAppend_len h
        · exact aCopy_len h
        · simp only [Option.map_eq_some_iff] at h; obtain ⟨_, h1, rfl⟩ := h; rw [aDelete_len h1]; exact Nat.le_refl _
        · simp only [Option.map_eq_some_iff] at h; obtain ⟨_, h1, rfl⟩ := h; rw [aClear_len h1]; exact Nat.le_refl _
        · simp only [Option.map_eq_some_iff] at h; obtain ⟨_, -, rfl⟩ := h; exact Nat.le_refl _
        · simp only [Option.map_eq_some_iff] at h; obtain ⟨_, -, rfl⟩ := h; exact Nat.le_refl _
        cases h
      cases h
theorem kNew_callee {o : Op} (h : kNew o = true) {F : Fr} : calleeOf o F = none := by
  cases o <;> first | rfl | (simp [kNew] at h)
theorem h_mono {F : Fr} {H : AHeap} {r : Nat → AV} {h : Nat → AHeap} {fr : Nat → Fr} (st : Steps' P q m ops 0 F H r h fr) : ∀ k, k ≤ ops.size → H.length ≤ (h k).length
  | 0, _ => by rw [st.h0]; exact Nat.le_refl _
  | k + 1, hk => by
    have ho : ops[k]? = some ops[k] := Array.getElem?_eq_getElem (by omega)
    have ih := h_mono st k (by omega)
    obtain ⟨-, h2⟩ := st.step k _ (by omega) ho
    rcases h2 with ⟨-, h2⟩ | ⟨-, -, h2⟩
    · unfold DoOp at h2
      cases hcal : calleeOf ops[k].op (fr k) with
      | some p => rw [hcal] at h2; exact Nat.le_trans ih h2.2.2.1.1
      | none => rw [hcal] at h2; exact Nat.le_trans ih (aop_len h2.2)
    rw [h2]; exact ih
def freshV (m : Nat) : AV → Prop
  | .sl (some (b, _)) _ _ => m ≤ b
  | _ => True
theorem aAppend_fresh {t : TypeId} {s x : AV} {H : AHeap} {r : AV × AHeap} (hs : freshV m s) (hm : m ≤ H.length) (h : aAppend P t s x H = some r) : freshV m r.1 ∧ ∀ b, b < m → r.2[b]? = H[b]? := by
  unfold aAppend at h
  obtain ⟨_, -, h1⟩ := bind_some' h
  obtain ⟨_, -, h2⟩ := bind_some' h1
  obtain ⟨_, -, h3⟩ := bind_some' h2
  obtain ⟨_, -, h4⟩ := bind_some' h3
  obtain ⟨mx, -, h5⟩ := bind_some' h4
  obtain ⟨_, -, h6⟩ := bind_some' h5
  clear h h1 h2 h3 h4 h5
  have h := h6
  clear h6
  split at h
  · obtain ⟨_, -, h⟩ := bind_some' h
    cases hz : mx.1 == 0
    · rw [hz, cond_false] at h
      simp only [Option.map_eq_some_iff] at h
      obtain ⟨_, -, rfl⟩ := h
      exact ⟨hm, fun b hb => List.getElem?_append_left (Nat.lt_of_lt_of_le hb hm)⟩
    rw [hz, cond_true] at h
    simp only [Option.some.injEq] at h; subst h; exact ⟨trivial, fun _ _ => rfl⟩
  · rename_i b o n cap
    obtain ⟨_, -, h⟩ := bind_some' h
    obtain ⟨_, -, h⟩ := bind_some' h
    rcases cond_or h with h | h
    · simp only [Option.some.injEq] at h; subst h; exact ⟨hs, fun _ _ => rfl⟩
    rcases cond_or h with h | h
    · simp only [Option.some.injEq] at h; subst h
      exact ⟨hm, fun b hb => List.getElem?_append_left (Nat.lt_of_lt_of_le hb hm)⟩
    split at h
    · simp only [Option.map_eq_some_iff] at h
      obtain ⟨_, -, rfl⟩ := h
      refine ⟨hm, fun b' hb => ?_⟩
      have hs' : m ≤ b := hs
      show (H.set b .dead ++ _)[b']? = _
      rw [List.getElem?_append_left (by rw [List.length_set]; omega), List.getElem?_set_ne (by omega)]
    cases h
  cases h
theorem fresh_at {F : Fr} {H : AHeap} {r : Nat → AV} {h : Nat → AHeap} {fr : Nat → Fr} (st : Steps' P q m ops 0 F H r h fr) (hml : ∀ k, k ≤ ops.size → m ≤ (h k).length) : ∀ (i : Nat) (t : Tmp), i ≤ ops.size → freshAt ops i t = true → freshV m (look (fr i) t)
  | 0, _, _, hf => by simp [freshAt] at hf
  | i + 1, t, hi, hf => by
    unfold freshAt at hf
    have ho : ops[i]? = some ops[i] := Array.getElem?_eq_getElem (by omega)
    rw [ho] at hf
    simp only at hf
    obtain ⟨e1, h2⟩ := st.step i _ (by omega) ho
    rw [e1]
    cases hd : ops[i].dst == some t with
    | false =>
      rw [hd, cond_false] at hf
      have ih := fresh_at st hml i t (by omega) hf
      unfold putF
      cases hdst : ops[i].dst with
      | none => simpa [hdst] using ih
      | some d =>
        rw [hdst] at hd
        have hne : (d == t) = false := by simpa using hd
        simp only [look, hne, cond_false]
        exact ih
    | true =>
      rw [hd, cond_true] at hf
      have hdst : ops[i].dst = some t := by simpa using hd
      rw [hdst]
      simp only [putF, look, beq_self_eq_true, cond_true]
      rcases h2 with ⟨-, h2⟩ | ⟨-, h2, -⟩
      · unfold DoOp at h2
        split at hf
        · rename_i t' n' ps hop
          rw [hop] at h2
          simp only [calleeOf] at h2
          have h3 := h2.2
          simp only [aop, aBuildSlice] at h3
          obtain ⟨_, -, h3⟩ := bind_some' h3
          obtain ⟨_, -, h3⟩ := bind_some' h3
          obtain ⟨_, -, h3⟩ := bind_some' h3
          obtain ⟨_, -, h3⟩ := bind_some' h3
          simp only [Option.map_eq_some_iff, Prod.mk.injEq] at h3
          obtain ⟨_, -, h4, -⟩ := h3
          rw [← h4]
          exact hml i (by omega)
        · rename_i c hop
          split at hf
          · rename_i s args hc1 hc2
            have ih := fresh_at st hml i s (by omega) hf
            rw [hop] at h2
            have hcal : calleeOf (.call c) (fr i) = none := by unfold calleeOf; simp only [hc1]
            rw [hcal] at h2
            have h3 := h2.2
            simp only [aop, hc1, hc2, aBuiltin, List.map_cons, aev] at h3
            split at h3
            all_goals first | (cases h3; done) | skip
            all_goals first | (simp_all; done) | skip
            rename_i e4 e5
            simp only [List.cons.injEq] at e5
            obtain ⟨_, -, h3⟩ := bind_some' h3
            rw [← e5.1] at h3
            exact (aAppend_fresh ih (hml i (by omega)) h3).1
          cases hf
        cases hf
      rw [h2]; trivial
theorem ext_step {F : Fr} {H : AHeap} {r : Nat → AV} {h : Nat → AHeap} {fr : Nat → Fr} (st : Steps' P q m ops 0 F H r h fr) (hml : ∀ k, k ≤ ops.size → m ≤ (h k).length) {i : Nat} {c : Oper} (ho : ops[i]? = some c) (hk : kExt ops i c.op = true) : ∀ b, b < m → (h (i + 1))[b]? = (h i)[b]? := by
  have hi : i < ops.size := (Array.getElem?_eq_some_iff.1 ho).1
  obtain ⟨-, h2⟩ := st.step i c (by omega) ho
  rcases h2 with ⟨-, h2⟩ | ⟨-, -, h2⟩
  · unfold DoOp at h2
    unfold kExt at hk
    cases hn : kNew c.op with
    | true =>
      rw [kNew_callee hn] at h2
      obtain ⟨l', hl'⟩ := kNew_spec hn h2.2
      simp only at hl'
      exact fun b hb => by rw [hl', List.getElem?_append_left (Nat.lt_of_lt_of_le hb (hml i (by omega)))]
    | false =>
      rw [hn, Bool.false_or] at hk
      split at hk
      · rename_i cc hop
        split at hk
        · cases hcal : calleeOf c.op (fr i) with
          | some p => rw [hcal] at h2; exact fun b hb => h2.2.2.1.2 b hb (Nat.lt_of_lt_of_le hb (hml i (by omega)))
          | none =>
            have hc1 : ∃ f, cc.callee = .value f := ⟨_, by assumption⟩
            obtain ⟨f, hc1⟩ := hc1
            rw [hcal] at h2
            have h3 := h2.2
            rw [hop] at h3
            simp only [aop, hc1] at h3
            cases h3
        · rename_i s args hc1 hc2
          have hcal : calleeOf c.op (fr i) = none := by rw [hop]; unfold calleeOf; simp only [hc1]
          rw [hcal] at h2
          have h3 := h2.2
          rw [hop] at h3
          simp only [aop, hc1, hc2, aBuiltin, List.map_cons, aev] at h3
          split at h3
          all_goals first | (cases h3; done) | skip
          all_goals first | (simp_all; done) | skip
          rename_i e4 e5
          simp only [List.cons.injEq] at e5
          obtain ⟨_, -, h3⟩ := bind_some' h3
          rw [← e5.1] at h3
          exact (aAppend_fresh (fresh_at st hml i s (by omega) hk) (hml i (by omega)) h3).2
        cases hk
      cases hk
  exact fun b _ => by rw [h2]
theorem h_keep {F : Fr} {H : AHeap} {r : Nat → AV} {h : Nat → AHeap} {fr : Nat → Fr} (st : Steps' P q m ops 0 F H r h fr) (hml : ∀ k, k ≤ ops.size → m ≤ (h k).length) : ∀ (d i0 : Nat), i0 + d ≤ ops.size → (∀ i c, i0 ≤ i → i < i0 + d → ops[i]? = some c → kChg q c.op = true → kExt ops i c.op = true) → ∀ b, b < m → (h (i0 + d))[b]? = (h i0)[b]?
  | 0, i0, _, _ => fun b _ => rfl
  | d + 1, i0, hd, hn => fun b hb => by
    have ih := h_keep st hml d i0 (by omega) (fun i c h1 h2 => hn i c h1 (by omega)) b hb
    have ho : ops[i0 + d]? = some ops[i0 + d] := Array.getElem?_eq_getElem (by omega)
    rw [show i0 + (d + 1) = i0 + d + 1 by omega]
    cases hc : kChg q ops[i0 + d].op with
    | false => rw [step_keeps st ho hc]; exact ih
    | true => rw [ext_step st hml ho (hn _ _ (by omega) (by omega) ho hc) b hb]; exact ih
theorem curH_is {L : Nat → Bool} {h : Nat → AHeap} {H : AHeap} (h0 : h 0 = H) : ∀ k, ∃ s, s ≤ k ∧ curH q ops L h H k = h s ∧ (s = 0 ∨ ∃ c, ops[s - 1]? = some c ∧ L (s - 1) = true ∧ kChg q c.op = true) ∧ ∀ i c, s ≤ i → i < k → ops[i]? = some c → kChg q c.op = true → L i = false
  | 0 => ⟨0, Nat.le_refl _, h0.symm, .inl rfl, fun i c h1 h2 => by omega⟩
  | k + 1 => by
    obtain ⟨s, s1, s2, s3, s4⟩ := curH_is (L := L) h0 k
    rw [curH_succ]
    by_cases hc : L k = true ∧ ((ops[k]?).map fun o => kChg q o.op) = some true
    · rw [if_pos hc]
      obtain ⟨c, h1, h2⟩ := Option.map_eq_some_iff.1 hc.2
      exact ⟨k + 1, Nat.le_refl _, rfl, .inr ⟨c, by simpa using h1, by simpa using hc.1, h2⟩, fun i c h1 h2 => by omega⟩
    rw [if_neg hc]
    refine ⟨s, by omega, s2, s3, fun i c h1 h2 hi hcc => ?_⟩
    by_cases e : i = k
    · subst e
      cases hL : L i with
      | false => rfl
      | true => exact absurd ⟨hL, by rw [hi]; simp [hcc]⟩ hc
    exact s4 i c h1 (by omega) hi hcc
/-- Whatever changes memory stands in order with all that is not pure. -/
def Strict (q : Bool) (ops : Array Oper) : Prop := ∀ (i j : Nat) (a b : Oper), ops[i]? = some a → ops[j]? = some b → i ≠ j → kChg q a.op = true → kPure b.op = false → Pred ops i j ∨ Pred ops j i
theorem drawn_aux {F0 : Fr} {H0 : AHeap} {r : Nat → AV} {h : Nat → AHeap} {fr : Nat → Fr} (hmz : m ≤ H0.length ∨ Strict q ops) (hok : DrawOk q N ops) (st : Steps' P q m ops 0 F0 H0 r h fr) (hQ : Q .normal (fr ops.size) (h ops.size)) {E0 : Env} :
    ∀ (fuel : Nat) (listed : Array Bool) (E : Env) (w : World) (a : Act), listed.size = ops.size → unl listed.toList = fuel → Closed ops (fun i => listed.getD i false) → Env.leN n E0 E → n ≤ E.n → a.tmps.size = N → a.defers = [] →
      (∀ t, Rel E (curV ops (fun i => listed.getD i false) r F0 ops.size t) (a.tmps.getD t undef)) → Emb E (curH q ops (fun i => listed.getD i false) h H0 ops.size) w → wpAny P .any ops (LiftQ N n Q E0) fuel listed a w := by
  intro fuel
  induction fuel with
  | zero =>
    intro listed E w a hs hu hc hl hn h2 h3 h4 h5
    have hall : ∀ i, i < ops.size → listed.getD i false = true := fun i hi => by
      have hi' : i < listed.toList.length := by simp; omega
      have := List.countP_eq_zero.1 hu listed.toList[i] (List.getElem_mem hi')
      simp at this
      simp [hs, hi, this]
    have hready : Region.ready .any ops listed = [] := by
      apply List.eq_nil_iff_forall_not_mem.2
      intro j hj
      obtain ⟨h0, o, ho, -⟩ := mem_ready.1 hj
      have hj' := (Array.getElem?_eq_some_iff.1 ho).1
      have := hall j hj'
      simp [hs, hj'] at h0 this
      rw [this] at h0; cases h0
    refine ⟨hready, E, fr ops.size, h ops.size, hQ, hl, h2, h3, fun t => ?_, ?_⟩
    · have := h4 t
      rwa [curV_congr (L' := fun _ => true) ops.size (fun i hi _ => hall i hi), curV_text st t ops.size (Nat.le_refl _)] at this
    rwa [curH_congr (L' := fun _ => true) ops.size (fun i hi _ => hall i hi), curH_text st ops.size (Nat.le_refl _)] at h5
  | succ fuel ih =>
    intro listed E w a hs hu hc hl hn h2 h3 h4 h5
    refine ⟨fun hr => ?_, fun j hj => ?_⟩
    · -- none is ready: all are listed
      exfalso
      have hall : ∀ i, i < ops.size → listed.getD i false = true := by
        intro i
        induction i using Nat.strongRecOn with
        | _ i ihi =>
          intro hi
          cases hli : listed.getD i false with
          | true => rfl
          | false =>
            exfalso
            have ho : ops[i]? = some ops[i] := Array.getElem?_eq_getElem hi
            have : i ∈ Region.ready .any ops listed := mem_ready.2 ⟨by simp [hs, hi] at hli ⊢; exact hli, _, ho, fun e he hb => by
              have hlt := hok.back i _ e ho he hb
              exact ihi e.on hlt (by omega)⟩
            rw [hr] at this; cases this
      have : unl listed.toList = 0 := List.countP_eq_zero.2 fun b hb => by
        obtain ⟨i, hi⟩ := List.mem_iff_getElem?.1 hb
        have hi' := getElem?_lt hi
        have := hall i (by simp at hi'; omega)
        simp at hi hi'
        rw [Array.getD_eq_getD_getElem?, hi] at this
        simpa using this
      omega
    obtain ⟨hj0, o, ho, hed⟩ := mem_ready.1 hj
    have hj' := (Array.getElem?_eq_some_iff.1 ho).1
    have hjl : listed.getD j false = false := by simp [hs, hj'] at hj0 ⊢; exact hj0
    have hedge : ∀ o' e, ops[j]? = some o' → e ∈ o'.after → Region.binds .any e = true → listed.getD e.on false = true := fun o' e ho' he hb => by
      rw [ho] at ho'; simp at ho'; subst ho'; exact hed e he hb
    have predL : ∀ i, Pred ops i j → listed.getD i false = true := fun i hp => Pred.listed hc hp hedge
    have notL : ∀ i, Pred ops j i → listed.getD i false = false := fun i hp => by
      cases hli : listed.getD i false with
      | false => rfl
      | true =>
        have := Pred.listed hc hp (fun o' e ho' he hb => hc i o' e ho' hli he hb)
        rw [hjl] at this; cases this
    have order : ∀ i, i ≠ j → (Pred ops i j ∨ Pred ops j i) → listed.getD i false = decide (i < j) := fun i hij hp => by
      rcases hp with hp | hp
      · rw [predL i hp]; have := hp.lt hok; simp [this]
      rw [notL i hp]; have := hp.lt hok; symm; simp; omega
    -- the slots that the operation looks at
    have slots : ∀ t ∈ o.looksAt ops, Rel E (look (fr j) t) (a.tmps.getD t undef) := fun t ht => by
      have := h4 t
      rw [curV_congr (L' := fun i => decide (i < j)) ops.size (fun i hi hd => by
        by_cases hij : i = j
        · subst hij; rw [hjl]; simp
        cases hoi : ops[i]? with
        | none => rw [hoi] at hd; cases hd
        | some b =>
          rw [hoi] at hd
          exact order i hij (hok.look i j b o t hoi ho hij (by simpa using hd) ht)), curV_below ops.size (by omega), curV_text st t j (by omega)] at this
      exact this
    have mem : kPure o.op = false → kRead o.op = false → curH q ops (fun i => listed.getD i false) h H0 ops.size = h j := fun hp hnr => by
      rw [curH_congr (L' := fun i => decide (i < j)) ops.size (fun i hi hd => by
        by_cases hij : i = j
        · subst hij; rw [hjl]; simp
        cases hoi : ops[i]? with
        | none => rw [hoi] at hd; cases hd
        | some b =>
          rw [hoi] at hd
          exact order i hij ((hok.chg i j b o hoi ho hij (by simpa using hd) hp).resolve_right fun hh => by rw [hnr] at hh; cases hh.2)), curH_below ops.size (by omega), curH_text st j (by omega)]
    have memS : kPure o.op = false → Strict q ops → curH q ops (fun i => listed.getD i false) h H0 ops.size = h j := fun hp hz => by
      rw [curH_congr (L' := fun i => decide (i < j)) ops.size (fun i hi hd => by
        by_cases hij : i = j
        · subst hij; rw [hjl]; simp
        cases hoi : ops[i]? with
        | none => rw [hoi] at hd; cases hd
        | some b =>
          rw [hoi] at hd
          exact order i hij (hz i j b o hoi ho hij (by simpa using hd) hp)), curH_below ops.size (by omega), curH_text st j (by omega)]
    have memR : m ≤ H0.length → kRead o.op = true → ∀ b, b < m → (curH q ops (fun i => listed.getD i false) h H0 ops.size)[b]? = (h j)[b]? := fun hm hrd b hb => by
      have hnp : kPure o.op = false := kRead_pure hrd
      obtain ⟨s, hs1, hs2, hs3, hs4⟩ := curH_is (q := q) (ops := ops) (L := fun i => listed.getD i false) (h := h) (H := H0) st.h0 ops.size
      have hnew : ∀ i c, ops[i]? = some c → kChg q c.op = true → i ≠ j → listed.getD i false ≠ decide (i < j) → kExt ops i c.op = true := fun i c hi hc' hij hne => by
        rcases hok.chg i j c o hi ho hij hc' hnp with h1 | h1
        · exact absurd (order i hij h1) hne
        exact h1.1
      rw [hs2]
      have hjc : kChg q o.op = false := by
        cases hh : kChg q o.op with
        | false => rfl
        | true => have := kRead_chg hh; rw [hrd] at this; cases this
      rcases Nat.le_total s j with hsj | hsj
      · have hl := h_keep st (fun k hk => Nat.le_trans hm (h_mono st k hk)) (j - s) s (by omega) (fun i c hi1 hi2 hi hc' => hnew i c hi hc' (by omega) (by
          rw [hs4 i c hi1 (by omega) hi hc']; simp; omega)) b hb
        rw [show s + (j - s) = j by omega] at hl
        exact hl.symm
      have hL : ∀ i c, j ≤ i → i < s → ops[i]? = some c → kChg q c.op = true → listed.getD i false = true := fun i c hi1 hi2 hi hc' => by
        rcases hs3 with h0 | ⟨c2, k1, k2, k3⟩
        · omega
        by_cases e : i = s - 1
        · rw [e]; exact k2
        have h2 : kRead c2.op = false := kRead_chg k3
        have h3 : kPure c2.op = false := by
          cases hp : kPure c2.op with
          | false => rfl
          | true => rw [kPure_chg hp] at k3; cases k3
        rcases hok.chg i (s - 1) c c2 hi k1 e hc' h3 with (h4 | h4) | h4
        · exact Pred.listed hc h4 fun o' e' ho' he' hb' => hc (s - 1) o' e' ho' k2 he' hb'
        · have := h4.lt hok; omega
        rw [h2] at h4; cases h4.2
      have hl := h_keep st (fun k hk => Nat.le_trans hm (h_mono st k hk)) (s - j) j (by omega) (fun i c hi1 hi2 hi hc' => by
        have hij : i ≠ j := fun e => by subst e; rw [ho] at hi; simp at hi; subst hi; rw [hjc] at hc'; cases hc'
        exact hnew i c hi hc' hij (by rw [hL i c hi1 (by omega) hi hc']; simp; omega)) b hb
      rw [show j + (s - j) = s by omega] at hl
      exact hl
    -- what comes next
    have get' : ∀ i, (listed.setIfInBounds j true).getD i false = if i = j then true else listed.getD i false := fun i => by
      by_cases e : i = j
      · subst e; simp [hs, hj']
      rw [if_neg e, getD_set_ne false (fun e' => e e'.symm)]
    have closed' : Closed ops (fun i => (listed.setIfInBounds j true).getD i false) := fun i o' e ho' hli he hb => by
      simp only [get'] at hli ⊢
      by_cases eij : i = j
      · subst eij
        split
        · rfl
        exact hedge o' e ho' he hb
      rw [if_neg eij] at hli
      split
      · rfl
      exact hc i o' e ho' hli he hb
    have unl' : unl (listed.setIfInBounds j true).toList = fuel := by
      have := unl_set (l := listed.toList) (k := j) (by simp; omega) (by
        rw [Array.getElem?_toList]
        rw [Array.getD_eq_getD_getElem?] at hjl
        cases hq : listed[j]? with
        | none => have := Array.getElem?_eq_none_iff.1 hq; omega
        | some b => rw [hq] at hjl; simp at hjl; rw [hjl])
      rw [Array.toList_setIfInBounds]
      omega
    have heap' : ∀ H', (kChg q o.op = true → H' = h (j + 1)) → (kChg q o.op = false → H' = curH q ops (fun i => listed.getD i false) h H0 ops.size) → curH q ops (fun i => (listed.setIfInBounds j true).getD i false) h H0 ops.size = H' := fun H' k1 k2 => by
      cases hcg : kChg q o.op with
      | false =>
        rw [k2 hcg]
        exact curH_congr _ fun i hi hd => by
          simp only [get']
          by_cases e : i = j
          · subst e; rw [ho] at hd; simp [hcg] at hd
          rw [if_neg e]
      | true =>
        rw [k1 hcg]
        have hnp : kPure o.op = false := by
          cases hp : kPure o.op with
          | false => rfl
          | true => have := kPure_chg (q := q) hp; rw [hcg] at this; cases this
        have hnr := kRead_chg hcg
        rw [curH_congr (L' := fun i => decide (i < j + 1)) ops.size (fun i hi hd => by
          simp only [get']
          by_cases e : i = j
          · subst e; simp
          rw [if_neg e]
          cases hoi : ops[i]? with
          | none => rw [hoi] at hd; cases hd
          | some b =>
            rw [hoi] at hd
            rw [order i e ((hok.chg i j b o hoi ho e (by simpa using hd) hnp).resolve_right fun hh => by rw [hnr] at hh; cases hh.2)]
            simp only [decide_eq_decide]
            omega), curH_below ops.size (by omega), curH_text st (j + 1) (by omega)]
    have next : ∀ (E' : Env) (w' : World) (v : Value), E.le E' → Rel E' (r j) v → Emb E' (curH q ops (fun i => (listed.setIfInBounds j true).getD i false) h H0 ops.size) w' →
        wpAny P .any ops (LiftQ N n Q E0) fuel (listed.setIfInBounds j true) (a.put o.dst v) w' := fun E' w' v hle hv hE' => by
      have hput : (a.put o.dst v).tmps.size = N ∧ (a.put o.dst v).defers = [] := by
        cases o.dst with
        | none => exact ⟨h2, h3⟩
        | some d => exact ⟨by simp [Act.put, h2], h3⟩
      refine ih _ E' w' _ (by simp [hs]) unl' closed' (hl.trans (hle.leN hn)) (Nat.le_trans hn hle.n) hput.1 hput.2 (fun t => ?_) hE'
      by_cases hd : o.dst = some t
      · -- the slot that has been written
        have htN := hok.dst j o t ho hd
        have e1 : curV ops (fun i => (listed.setIfInBounds j true).getD i false) r F0 ops.size t = r j := by
          have gen : ∀ k, j < k → k ≤ ops.size → curV ops (fun i => (listed.setIfInBounds j true).getD i false) r F0 k t = r j := by
            intro k
            induction k with
            | zero => intro h0; omega
            | succ k ihk =>
              intro hjk hk
              rw [curV_succ]
              by_cases e : k = j
              · subst e
                rw [if_pos ⟨by simp only [get']; simp, by rw [ho]; exact hd⟩]
              rw [if_neg (fun hh => by
                cases hok' : ops[k]? with
                | none => rw [hok'] at hh; cases hh.2
                | some b => rw [hok'] at hh; exact hok.one j k o b t ho hok' (fun e' => e e'.symm) hd (by simpa using hh.2))]
              exact ihk (by omega) (by omega)
          exact gen ops.size hj' (Nat.le_refl _)
        rw [e1, hd]
        simp only [Act.put]
        rw [Array.getD_eq_getD_getElem?, Array.getElem?_setIfInBounds_self_of_lt (by rw [h2]; exact htN)]
        exact hv
      have e1 : curV ops (fun i => (listed.setIfInBounds j true).getD i false) r F0 ops.size t = curV ops (fun i => listed.getD i false) r F0 ops.size t := curV_congr _ fun i hi hdi => by
        simp only [get']
        by_cases e : i = j
        · subst e; rw [ho] at hdi; exact absurd (by simpa using hdi) hd
        rw [if_neg e]
      rw [e1]
      have e2 : (a.put o.dst v).tmps.getD t undef = a.tmps.getD t undef := by
        cases hod : o.dst with
        | none => rfl
        | some d =>
          have : d ≠ t := fun e => hd (by rw [hod, e])
          simp only [Act.put, Array.getD_eq_getD_getElem?, Array.getElem?_setIfInBounds_ne this]
      rw [e2]
      exact (h4 t).mono hle
    obtain ⟨-, hstep⟩ := st.step j o (by omega) ho
    have hwant : ∀ b, gd ops (fr j) o = some b → Region.wanted o (yielded ops a.tmps) = b := fun b hb => gd_spec hb fun t ⟨g, hg1, hg2⟩ => slots t (by
      unfold Oper.looksAt
      rw [hg1]
      obtain ⟨g1, g2⟩ := g
      simp only at hg2 ⊢
      rw [hg2]
      simp)
    have hops : ∀ x ∈ o.op.operands, Rel E (aev (fr j) x) (a.eval x) := fun x hx => by
      cases x with
      | tmp t => exact slots t (List.mem_append_left _ (List.mem_filterMap.2 ⟨.tmp t, by simpa using hx, rfl⟩))
      | const v => exact rel_ofValue E v
      | global g => exact .any _
      | func f => exact RelL.fn (RelL.nil E)
    unfold wpOp
    rw [ho]
    simp only
    rcases hstep with ⟨hg, hdo⟩ | ⟨hg, hr0, hh0⟩
    · rw [if_pos (hwant true hg)]
      left
      unfold Oper.wp
      unfold DoOp at hdo
      cases hcal : calleeOf o.op (fr j) with
      | some p =>
        rw [hcal] at hdo
        obtain ⟨hokf, hqk, _, hcall⟩ := hdo
        have hnp : kPure o.op = false := by
          cases hp : kPure o.op with
          | false => rfl
          | true => rw [kPure_callee hp] at hcal; cases hcal
        have hnr : kRead o.op = false := by
          cases hr : kRead o.op with
          | false => rfl
          | true => rw [kRead_callee hr] at hcal; cases hcal
        obtain ⟨vs, hrun, hvs⟩ := run_callOp hops (f := p.1) (args := p.2) hcal hokf w
        rw [hrun, Oper.upon_enter]
        rw [mem hnp hnr] at h5
        refine (hcall E w vs h5 hvs).mono ?_
        rintro e w' ⟨E', v, H', x, rfl, ⟨rfl, rfl⟩, hle, hv, hE'⟩
        refine next E' w' v hle hv ?_
        rw [heap' (h (j + 1)) (fun _ => rfl) (fun hcf => by rw [mem hnp hnr]; exact step_keeps st ho hcf)]
        exact hE'
      | none =>
        rw [hcal] at hdo
        obtain ⟨hlate, hdo⟩ := hdo
        have fin : ∀ Hc H', aop P o.op (fr j) Hc = some (r j, H') → Emb E Hc w → curH q ops (fun i => (listed.setIfInBounds j true).getD i false) h H0 ops.size = H' → o.upon P a (wpAny P .any ops (LiftQ N n Q E0) fuel (listed.setIfInBounds j true)) (LiftQ N n Q E0) ((execOp a.eval o).run P w) := fun Hc H' ha hEc hH' => by
          obtain ⟨E', nx, w', hrun, hn', hle, hE'⟩ := snd_op hEc o hops ha
          rw [hrun]
          rcases hn' with ⟨rfl, hany⟩ | ⟨v, rfl, hv⟩
          · rw [Oper.upon_skip]
            exact next E' w' undef hle (by simp only at hany; rw [hany]; exact .any _) (by rw [hH']; exact hE')
          rw [Oper.upon_value]
          exact next E' w' v hle hv (by rw [hH']; exact hE')
        cases hp : kPure o.op with
        | true =>
          obtain ⟨-, p2⟩ := kPure_spec hp hdo
          exact fin _ _ (p2 _) h5 (heap' _ (fun hc' => by rw [kPure_chg hp] at hc'; cases hc') (fun _ => rfl))
        | false =>
          cases hrd : kRead o.op with
          | false =>
            rw [mem hp hrd] at h5
            exact fin _ _ hdo h5 (heap' _ (fun _ => rfl) (fun hcf => by rw [mem hp hrd]; exact step_keeps st ho hcf))
          | true =>
            rcases hmz with hm | hz
            · refine fin _ _ (load_same hrd hlate hdo fun b hb => ?_) h5 (heap' _ (fun hc' => by have := kRead_chg hc'; rw [hrd] at this; cases this) (fun _ => rfl))
              exact memR hm hrd b hb
            rw [memS hp hz] at h5
            exact fin _ _ hdo h5 (heap' _ (fun _ => rfl) (fun hcf => by rw [memS hp hz]; exact step_keeps st ho hcf))
    rw [if_neg (by rw [hwant false hg]; simp)]
    refine next E w undef (.refl E) (by rw [hr0]; exact rel_undef E) ?_
    rw [heap' (curH q ops (fun i => listed.getD i false) h H0 ops.size) (fun hc' => by
      have hnp : kPure o.op = false := by
        cases hp : kPure o.op with
        | false => rfl
        | true => rw [kPure_chg hp] at hc'; cases hc'
      rw [mem hnp (kRead_chg hc'), hh0]) (fun _ => rfl)]
    exact h5
theorem draw_any (q : Bool) {F : Fr} {H : AHeap} (hok : drawOk q N ops = true) (hmz : m ≤ H.length ∨ Strict q ops) (hh : AOpsD P q m ops ops.toList F H (fun F' H' => Q .normal F' H')) {E : Env} {w : World} {a : Act} (h1 : n ≤ E.n) (h2 : a.tmps.size = N) (h3 : a.defers = []) (h4 : FrRel E F a) (h5 : Emb E H w) :
    wpAny P .any ops (LiftQ N n Q E) ops.size (Array.replicate ops.size false) a w.drew := by
  obtain ⟨r, h, fr, st, hQ⟩ := AOpsD_trace ops.toList 0 rfl F H hh
  rw [Nat.zero_add, Array.length_toList] at hQ
  have hok' := drawOk_spec hok
  have hL : ∀ i, (Array.replicate ops.size false).getD i false = false := fun i => by
    rw [Array.getD_eq_getD_getElem?]
    cases hq : (Array.replicate ops.size false)[i]? with
    | none => rfl
    | some b => rw [Array.getElem?_replicate] at hq; split at hq <;> simp at hq; subst hq; rfl
  have v0 : ∀ k t, curV ops (fun i => (Array.replicate ops.size false).getD i false) r F k t = look F t := fun k t => by
    induction k with
    | zero => rfl
    | succ k ih => rw [curV_succ, if_neg (fun hh => by have := hh.1; rw [hL] at this; cases this), ih]
  have m0 : ∀ k, curH q ops (fun i => (Array.replicate ops.size false).getD i false) h H k = H := fun k => by
    induction k with
    | zero => rfl
    | succ k ih => rw [curH_succ, if_neg (fun hh => by have := hh.1; rw [hL] at this; cases this), ih]
  refine drawn_aux (E0 := E) hmz hok' st hQ ops.size _ E w.drew a (by simp) ?_ (fun j o e ho hl => by simp only [hL] at hl; cases hl) ((Env.le.refl E).leN h1) h1 h2 h3 (fun t => by rw [v0]; exact h4 t) (by rw [m0]; exact h5.drew)
  simp [unl, List.countP_replicate]
theorem AW_draw (q : Bool) {id : Nat} {F : Fr} {H : AHeap} (hm : P.follows .mixedOrders = true) (hok : drawOk q N ops = true) (hh : AOpsD P q H.length ops ops.toList F H (fun F' H' => Q .normal F' H')) : AW P N n (.region id ops true) Q F H := by
  intro E w a h1 h2 h3 h4 h5
  exact wp_region_any hm (draw_any q hok (.inl (Nat.le_refl _)) hh h1 h2 h3 h4 h5)
end

mutual
/-- Blocks counted anew. -/
def AV.mv (σ : Nat → Nat) : AV → AV
  | .any => .any
  | .int k n => .int k n
  | .bool b => .bool b
  | .str s => .str s
  | .ptr none => .ptr none
  | .ptr (some (b, o)) => .ptr (some (σ b, o))
  | .sl none n c => .sl none n c
  | .sl (some (b, o)) n c => .sl (some (σ b, o)) n c
  | .mp none => .mp none
  | .mp (some b) => .mp (some (σ b))
  | .fn f caps => .fn f (AV.mvs σ caps)
  | .nilfn => .nilfn
  | .agg cs => .agg (AV.mvs σ cs)
  | .tup vs => .tup (AV.mvs σ vs)
def AV.mvs (σ : Nat → Nat) : List AV → List AV
  | [] => []
  | x :: r => x.mv σ :: AV.mvs σ r
end
mutual
/-- All blocks are below n. -/
def AV.bel (n : Nat) : AV → Bool
  | .ptr (some (b, _)) => decide (b < n)
  | .sl (some (b, _)) _ _ => decide (b < n)
  | .mp (some b) => decide (b < n)
  | .fn _ caps => AV.bels n caps
  | .agg cs => AV.bels n cs
  | .tup vs => AV.bels n vs
  | _ => true
def AV.bels (n : Nat) : List AV → Bool
  | [] => true
  | x :: r => x.bel n && AV.bels n r
end
theorem AV.mvs_eq (σ : Nat → Nat) : ∀ xs : List AV, AV.mvs σ xs = xs.map (AV.mv σ)
  | [] => rfl
  | x :: r => by simp [AV.mvs, AV.mvs_eq σ r]
theorem AV.bels_eq (n : Nat) : ∀ xs : List AV, AV.bels n xs = xs.all (AV.bel n)
  | [] => rfl
  | x :: r => by simp [AV.bels, AV.bels_eq n r]
mutual
theorem mv_id {n : Nat} {σ : Nat → Nat} (h : ∀ b, b < n → σ b = b) : ∀ x : AV, x.bel n = true → x.mv σ = x
  | .any, _ => rfl
  | .int _ _, _ => rfl
  | .bool _, _ => rfl
  | .str _, _ => rfl
  | .ptr none, _ => rfl
  | .ptr (some (b, o)), hb => by simp [AV.bel] at hb; simp [AV.mv, h b hb]
  | .sl none _ _, _ => rfl
  | .sl (some (b, o)) _ _, hb => by simp [AV.bel] at hb; simp [AV.mv, h b hb]
  | .mp none, _ => rfl
  | .mp (some b), hb => by simp [AV.bel] at hb; simp [AV.mv, h b hb]
  | .nilfn, _ => rfl
  | .fn f caps, hb => by simp only [AV.bel] at hb; simp only [AV.mv, mvs_id h caps hb]
  | .agg cs, hb => by simp only [AV.bel] at hb; simp only [AV.mv, mvs_id h cs hb]
  | .tup cs, hb => by simp only [AV.bel] at hb; simp only [AV.mv, mvs_id h cs hb]
theorem mvs_id {n : Nat} {σ : Nat → Nat} (h : ∀ b, b < n → σ b = b) : ∀ xs : List AV, AV.bels n xs = true → AV.mvs σ xs = xs
  | [], _ => rfl
  | x :: r, hb => by
    simp only [AV.bels, Bool.and_eq_true] at hb
    simp only [AV.mvs, mv_id h x hb.1, mvs_id h r hb.2]
end
mutual
theorem rel_mv {E E' : Env} {σ : Nat → Nat} (hl : ∀ b, E'.loc b = E.loc (σ b)) (hn : ∀ b, σ b < E.n → b < E'.n) : ∀ (x : AV) (v : Value), Rel E (x.mv σ) v → Rel E' x v
  | .any, v, _ => .any v
  | .int _ _, v, h => by simp only [AV.mv] at h; cases h; exact .int _ _
  | .bool _, v, h => by simp only [AV.mv] at h; cases h; exact .bool _
  | .str _, v, h => by simp only [AV.mv] at h; cases h; exact .str _
  | .ptr none, v, h => by simp only [AV.mv] at h; cases h; exact .nilptr
  | .ptr (some (b, o)), v, h => by
    simp only [AV.mv] at h
    cases h with
    | ptr _ _ hb => rw [← hl]; exact .ptr b o (hn b hb)
  | .sl none _ _, v, h => by simp only [AV.mv] at h; cases h; exact .nilsl
  | .sl (some (b, o)) n c, v, h => by
    simp only [AV.mv] at h
    cases h with
    | nils _ _ hb hc => exact .nils b c (hn b hb) hc
    | sl _ _ _ _ q a hb h1 h2 h3 h4 h5 => exact .sl b o n c q a (hn b hb) h1 h2 h3 (by rw [hl]; exact h4) (by rw [hl]; exact h5)
  | .mp none, v, h => by simp only [AV.mv] at h; cases h; exact .nilmp
  | .mp (some b), v, h => by
    simp only [AV.mv] at h
    cases h with
    | mp _ hb => rw [← hl]; exact .mp b (hn b hb)
  | .nilfn, v, h => by simp only [AV.mv] at h; cases h; exact .nilfn
  | .fn f caps, v, h => by
    simp only [AV.mv] at h
    cases h with
    | fn _ _ cs h1 h2 =>
      have := relL_mv hl hn caps cs.toList ⟨by simpa using h1, fun i x v hx hv => h2 i x v hx (by simpa using hv)⟩
      have := this.fn (f := f)
      simpa using this
  | .agg xs, v, h => by
    simp only [AV.mv] at h
    obtain ⟨vs, rfl, hr⟩ := rel_agg_inv h
    exact (relL_mv hl hn xs vs hr).agg
  | .tup xs, v, h => by
    simp only [AV.mv] at h
    cases h with
    | tup _ cs h1 h2 =>
      have := (relL_mv hl hn xs cs.toList ⟨by simpa using h1, fun i x v hx hv => h2 i x v hx (by simpa using hv)⟩).tup
      simpa using this
theorem relL_mv {E E' : Env} {σ : Nat → Nat} (hl : ∀ b, E'.loc b = E.loc (σ b)) (hn : ∀ b, σ b < E.n → b < E'.n) : ∀ (xs : List AV) (vs : List Value), RelL E (AV.mvs σ xs) vs → RelL E' xs vs
  | [], vs, h => by
    have : vs = [] := List.length_eq_zero_iff.1 (by have := h.1; simpa [AV.mvs] using this.symm)
    subst this
    exact RelL.nil E'
  | x :: r, [], h => by have := h.1; simp [AV.mvs] at this
  | x :: r, v :: vs, h => by
    simp only [AV.mvs] at h
    obtain ⟨h1, h2⟩ := h.uncons
    exact .cons (rel_mv hl hn x v h1) (relL_mv hl hn r vs h2)
end
mutual
theorem rel_bel {E : Env} : ∀ (x : AV) (v : Value), Rel E x v → x.bel E.n = true
  | .any, v, _ => rfl
  | .int _ _, v, h => rfl
  | .bool _, v, h => rfl
  | .str _, v, h => rfl
  | .ptr none, v, h => rfl
  | .ptr (some (b, o)), v, h => by cases h with | ptr _ _ hb => simp [AV.bel, hb]
  | .sl none _ _, v, h => rfl
  | .sl (some (b, o)) n c, v, h => by cases h with | nils _ _ hb => simp [AV.bel, hb] | sl _ _ _ _ q a hb => simp [AV.bel, hb]
  | .mp none, v, h => rfl
  | .mp (some b), v, h => by cases h with | mp _ hb => simp [AV.bel, hb]
  | .nilfn, v, h => rfl
  | .fn f caps, v, h => by
    cases h with
    | fn _ _ cs h1 h2 =>
      simp only [AV.bel]
      exact relL_bel caps cs.toList ⟨by simpa using h1, fun i x v hx hv => h2 i x v hx (by simpa using hv)⟩
  | .agg xs, v, h => by
    obtain ⟨vs, rfl, hr⟩ := rel_agg_inv h
    simp only [AV.bel]
    exact relL_bel xs vs hr
  | .tup xs, v, h => by
    cases h with
    | tup _ cs h1 h2 =>
      simp only [AV.bel]
      exact relL_bel xs cs.toList ⟨by simpa using h1, fun i x v hx hv => h2 i x v hx (by simpa using hv)⟩
theorem relL_bel {E : Env} : ∀ (xs : List AV) (vs : List Value), RelL E xs vs → AV.bels E.n xs = true
  | [], vs, h => rfl
  | x :: r, [], h => by have := h.1; simp at this
  | x :: r, v :: vs, h => by
    obtain ⟨h1, h2⟩ := h.uncons
    simp only [AV.bels, Bool.and_eq_true]
    exact ⟨rel_bel x v h1, relL_bel r vs h2⟩
end
def ABlk.bel (n : Nat) : ABlk → Bool
  | .dead => true
  | .cells _ _ xs => AV.bels n xs
  | .map es => AV.bels n (es.map (·.1)) && AV.bels n (es.map (·.2))
  | .fmap es _ _ => AV.bels n (es.map (·.1)) && AV.bels n (es.map (·.2))
  | .iter m _ _ _ => decide (m < n)
def ABlk.mv (σ : Nat → Nat) : ABlk → ABlk
  | .dead => .dead
  | .cells o e xs => .cells o e (AV.mvs σ xs)
  | .map es => .map (es.map fun p => (p.1.mv σ, p.2.mv σ))
  | .fmap es bs ck => .fmap (es.map fun p => (p.1.mv σ, p.2.mv σ)) bs ck
  | .iter m bs sn ck => .iter (σ m) bs sn ck
/-- No block of the memory leads out of it. -/
def HBel (n : Nat) (H : AHeap) : Prop := ∀ (b : Nat) (x : ABlk), H[b]? = some x → x.bel n = true
theorem Emb.bel {E : Env} {H : AHeap} {w : World} (h : Emb E H w) : HBel H.length H := fun b x hx => by
  rw [← h.n]
  have hk := h.blk b x hx
  cases x with
  | dead => rfl
  | cells own es xs =>
    simp only [ABlk.bel]
    rw [AV.bels_eq, List.all_eq_true]
    intro y hy
    obtain ⟨j, hj⟩ := List.mem_iff_getElem?.1 hy
    obtain ⟨-, v, -, hr⟩ := hk.1 j y hj
    exact rel_bel y v hr
  | map es =>
    obtain ⟨-, -, ents, clock, -, h4, h5, -⟩ := hk
    simp only [ABlk.bel, Bool.and_eq_true]
    exact ⟨relL_bel _ _ h4, relL_bel _ _ h5⟩
  | fmap es bs ck =>
    obtain ⟨-, -, ents, -, h4, h5, -⟩ := hk
    simp only [ABlk.bel, Bool.and_eq_true]
    exact ⟨relL_bel _ _ h4, relL_bel _ _ h5⟩
  | iter m bs sn ck => exact decide_eq_true hk.2.2.1
theorem blk_mv {E E' : Env} {σ : Nat → Nat} (hB : E'.B = E.B) (hl : ∀ b, E'.loc b = E.loc (σ b)) (hn : ∀ b, σ b < E.n → b < E'.n) {w : World} {L : Loc} : ∀ {x : ABlk}, BlkOk E w L (x.mv σ) → BlkOk E' w L x
  | .dead, _ => trivial
  | .cells own es xs, h => by
    simp only [ABlk.mv] at h
    obtain ⟨h1, h2, h3, h4⟩ := h
    refine ⟨fun j y hj => ?_, fun ho => ?_, fun ho hlen => ?_, h4⟩
    · obtain ⟨a1, v, a2, a3⟩ := h1 j (y.mv σ) (by rw [AV.mvs_eq, List.getElem?_map, hj]; rfl)
      exact ⟨by cases y <;> simp [AV.mv, AV.one] at a1 ⊢, v, a2, rel_mv hl hn y v a3⟩
    · rw [hB]
      have := h2 ho
      rw [AV.mvs_eq, List.length_map] at this
      exact this
    rw [hB]
    exact h3 ho (by rw [AV.mvs_eq, List.length_map]; exact hlen)
  | .map es, h => by
    simp only [ABlk.mv] at h
    obtain ⟨h1, h2, ents, clock, h3, h4, h5, h6⟩ := h
    refine ⟨by rw [hB]; exact h1, h2, ents, clock, h3, relL_mv hl hn _ _ ?_, relL_mv hl hn _ _ ?_, h6⟩
    · rw [AV.mvs_eq]; simpa [Function.comp_def] using h4
    rw [AV.mvs_eq]; simpa [Function.comp_def] using h5
  | .fmap es bs ck, h => by
    simp only [ABlk.mv] at h
    obtain ⟨h1, h2, ents, h3, h4, h5, h6⟩ := h
    refine ⟨by rw [hB]; exact h1, h2, ents, h3, relL_mv hl hn _ _ ?_, relL_mv hl hn _ _ ?_, h6⟩
    · rw [AV.mvs_eq]; simpa [Function.comp_def] using h4
    rw [AV.mvs_eq]; simpa [Function.comp_def] using h5
  | .iter m bs sn ck, h => by
    simp only [ABlk.mv] at h
    obtain ⟨h1, h2, h3, h4, h5, h6, h7⟩ := h
    exact ⟨by rw [hB]; exact h1, h2, hn m h3, h4, h5, h6, by rw [hl m]; exact h7⟩
/-- A cell that says less: a slice whose capacity is not known, an empty slice instead of nil (m: how many blocks there are). -/
def Wc (m : Nat) (x y : AV) : Prop := x = y ∨ (∃ b c, x = .sl none 0 (some 0) ∧ y = .sl (some (b, 0)) 0 c ∧ b < m ∧ (c = none ∨ c = some 0)) ∨ ∃ p n c, x = .sl (some p) n c ∧ y = .sl (some p) n none
theorem Wc.rel {E : Env} {m : Nat} {x y : AV} {v : Value} (hm : m ≤ E.n) (h : Wc m x y) (hx : Rel E x v) : Rel E y v := by
  rcases h with rfl | ⟨b, c, rfl, rfl, hb, hc⟩ | ⟨p, n, c, rfl, rfl⟩
  · exact hx
  · cases hx; exact .nils _ _ (by omega) hc
  cases hx with
  | nils _ _ hb hc => exact .nils _ none hb (.inl rfl)
  | sl _ _ _ _ q a hb h1 h2 h3 h4 h5 => exact .sl _ _ _ none q a hb h1 h2 (.inl rfl) h4 h5
theorem Wc.one {m : Nat} {x y : AV} (h : Wc m x y) (hx : x.one = true) : y.one = true := by
  rcases h with rfl | ⟨b, c, rfl, rfl, hb, hc⟩ | ⟨p, n, c, rfl, rfl⟩
  · exact hx
  · rfl
  rfl
def Wcs (m : Nat) : List AV → List AV → Prop
  | [], [] => True
  | x :: xs, y :: ys => Wc m x y ∧ Wcs m xs ys
  | _, _ => False
theorem Wcs.get {m : Nat} : ∀ {xs ys : List AV}, Wcs m xs ys → xs.length = ys.length ∧ ∀ (i : Nat) (y : AV), ys[i]? = some y → ∃ x, xs[i]? = some x ∧ Wc m x y
  | [], [], _ => ⟨rfl, fun i y h => by simp at h⟩
  | x :: xs, y :: ys, h => by
    obtain ⟨h1, h2⟩ := Wcs.get h.2
    refine ⟨by simp [h1], fun i u hu => ?_⟩
    cases i with
    | zero => simp at hu; subst hu; exact ⟨x, rfl, h.1⟩
    | succ i => exact h2 i u (by simpa using hu)
  | [], _ :: _, h => h.elim
  | _ :: _, [], h => h.elim
mutual
/-- What says less. -/
def W (m : Nat) : AV → AV → Prop
  | .agg xs, y => y = .any ∨ (match y with | .agg ys => Ws m xs ys | _ => False)
  | .tup xs, y => y = .any ∨ (match y with | .tup ys => Ws m xs ys | _ => False)
  | x, y => y = .any ∨ Wc m x y
def Ws (m : Nat) : List AV → List AV → Prop
  | [], ys => (match ys with | [] => True | _ => False)
  | x :: xs, ys => (match ys with | y :: ys => W m x y ∧ Ws m xs ys | [] => False)
end
mutual
theorem W.refl {m : Nat} : ∀ (x : AV), W m x x
  | .agg xs => .inr (Ws.refl xs)
  | .tup xs => .inr (Ws.refl xs)
  | .any => .inl rfl
  | .int _ _ => .inr (.inl rfl)
  | .bool _ => .inr (.inl rfl)
  | .str _ => .inr (.inl rfl)
  | .ptr _ => .inr (.inl rfl)
  | .sl _ _ _ => .inr (.inl rfl)
  | .mp _ => .inr (.inl rfl)
  | .fn _ _ => .inr (.inl rfl)
  | .nilfn => .inr (.inl rfl)
theorem Ws.refl {m : Nat} : ∀ (xs : List AV), Ws m xs xs
  | [] => trivial
  | x :: xs => ⟨W.refl x, Ws.refl xs⟩
end
theorem W_any {m : Nat} : ∀ (x : AV), W m x .any
  | .agg _ | .tup _ | .any | .int _ _ | .bool _ | .str _ | .ptr _ | .sl _ _ _ | .mp _ | .fn _ _ | .nilfn => .inl rfl
theorem W_agg {m : Nat} {xs ys : List AV} : W m (.agg xs) (.agg ys) = Ws m xs ys := by
  show (AV.agg ys = .any ∨ Ws m xs ys) = _
  simp
theorem W_tup {m : Nat} {xs ys : List AV} : W m (.tup xs) (.tup ys) = Ws m xs ys := by
  show (AV.tup ys = .any ∨ Ws m xs ys) = _
  simp
theorem Ws_cons {m : Nat} {x y : AV} {xs ys : List AV} : Ws m (x :: xs) (y :: ys) = (W m x y ∧ Ws m xs ys) := rfl
theorem W_refl' {m : Nat} {x : AV} : W m x x = True := eq_true (W.refl x)
theorem Ws_refl' {m : Nat} {xs : List AV} : Ws m xs xs = True := eq_true (Ws.refl xs)
theorem W_any' {m : Nat} {x : AV} : W m x .any = True := eq_true (W_any x)
theorem W_nils {m b : Nat} {c : Option Nat} (hb : b < m) (hc : c = none ∨ c = some 0) : W m (.sl none 0 (some 0)) (.sl (some (b, 0)) 0 c) := .inr (.inr (.inl ⟨b, c, rfl, rfl, hb, hc⟩))
theorem W_cap {m n : Nat} {p : Nat × Nat} {c : Option Nat} : W m (.sl (some p) n c) (.sl (some p) n none) := .inr (.inr (.inr ⟨p, n, c, rfl, rfl⟩))
theorem Wc_nils {m b : Nat} {c : Option Nat} (hb : b < m) (hc : c = none ∨ c = some 0) : Wc m (.sl none 0 (some 0)) (.sl (some (b, 0)) 0 c) := .inr (.inl ⟨b, c, rfl, rfl, hb, hc⟩)
theorem Wc_cap {m n : Nat} {p : Nat × Nat} {c : Option Nat} : Wc m (.sl (some p) n c) (.sl (some p) n none) := .inr (.inr ⟨p, n, c, rfl, rfl⟩)
theorem Wc_refl' {m : Nat} {x : AV} : Wc m x x = True := eq_true (.inl rfl)
theorem Wcs_cons {m : Nat} {x y : AV} {xs ys : List AV} : Wcs m (x :: xs) (y :: ys) = (Wc m x y ∧ Wcs m xs ys) := rfl
theorem Wcs_nil {m : Nat} : Wcs m [] [] = True := rfl
mutual
theorem rel_W {E : Env} {m : Nat} (hm : m ≤ E.n) : ∀ (x y : AV) (v : Value), W m x y → Rel E x v → Rel E y v
  | .agg xs, y, v, h, hx => by
    rcases h with rfl | h
    · exact .any v
    cases y <;> first | exact h.elim | skip
    obtain ⟨vs, rfl, hr⟩ := rel_agg_inv hx
    exact (relL_W hm xs _ vs h hr).agg
  | .tup xs, y, v, h, hx => by
    rcases h with rfl | h
    · exact .any v
    cases y <;> first | exact h.elim | skip
    cases hx with
    | tup _ cs h1 h2 =>
      have := (relL_W hm xs _ cs.toList h ⟨by simpa using h1, fun i x v hx hv => h2 i x v hx (by simpa using hv)⟩).tup
      simpa using this
  | .any, y, v, h, hx => by rcases h with rfl | h; exact .any v; exact h.rel hm hx
  | .int _ _, y, v, h, hx => by rcases h with rfl | h; exact .any v; exact h.rel hm hx
  | .bool _, y, v, h, hx => by rcases h with rfl | h; exact .any v; exact h.rel hm hx
  | .str _, y, v, h, hx => by rcases h with rfl | h; exact .any v; exact h.rel hm hx
  | .ptr _, y, v, h, hx => by rcases h with rfl | h; exact .any v; exact h.rel hm hx
  | .sl _ _ _, y, v, h, hx => by rcases h with rfl | h; exact .any v; exact h.rel hm hx
  | .mp _, y, v, h, hx => by rcases h with rfl | h; exact .any v; exact h.rel hm hx
  | .fn _ _, y, v, h, hx => by rcases h with rfl | h; exact .any v; exact h.rel hm hx
  | .nilfn, y, v, h, hx => by rcases h with rfl | h; exact .any v; exact h.rel hm hx
theorem relL_W {E : Env} {m : Nat} (hm : m ≤ E.n) : ∀ (xs ys : List AV) (vs : List Value), Ws m xs ys → RelL E xs vs → RelL E ys vs
  | [], ys, vs, h, hr => by cases ys <;> first | exact hr | exact h.elim
  | x :: xs, ys, vs, h, hr => by
    cases ys with
    | nil => exact h.elim
    | cons y ys =>
      cases vs with
      | nil => have := hr.1; simp at this
      | cons v vs =>
        obtain ⟨h1, h2⟩ := hr.uncons
        exact .cons (rel_W hm x y v h.1 h1) (relL_W hm xs ys vs h.2 h2)
end
/-- A block that says less. -/
def BW (m : Nat) (a : Option ABlk) (x : ABlk) : Prop :=
  match a, x with
  | some (.cells o e xs), .cells o' e' ys => e = e' ∧ ((xs = [] ∧ ys = [] ∧ o' = false) ∨ (o = o' ∧ Wcs m xs ys) ∨ (o = o' ∧ ∃ zs, xs = ys ++ zs))
  | _, _ => False
theorem BW.ok {E : Env} {m : Nat} (hm : m ≤ E.n) {w : World} {L : Loc} {a : ABlk} {x : ABlk} (h : BW m (some a) x) (ha : BlkOk E w L a) : BlkOk E w L x := by
  unfold BW at h
  split at h
  · rename_i o e xs o' e' ys e1
    injection e1 with e1; subst e1
    obtain ⟨rfl, h⟩ := h
    obtain ⟨k1, k2, k3, k4⟩ := ha
    rcases h with ⟨rfl, rfl, rfl⟩ | ⟨rfl, h⟩ | ⟨rfl, zs, rfl⟩
    · exact ⟨fun j y hj => by simp at hj, (fun h => by cases h), fun _ h0 => by simp at h0, k4⟩
    rotate_left
    · refine ⟨fun j y hj => k1 j y (by rw [List.getElem?_append_left (getElem?_lt hj)]; exact hj), fun ho => ?_, fun ho hl => k3 ho (by rw [List.length_append]; omega), k4⟩
      obtain ⟨a1, a2, a3, a4, a5⟩ := k2 ho
      rw [List.length_append] at a4
      exact ⟨a1, a2, a3, by omega, a5⟩
    obtain ⟨q1, q2⟩ := h.get
    refine ⟨fun j y hj => ?_, fun ho => ?_, fun ho hl => k3 ho (by omega), k4⟩
    · obtain ⟨x, hx, hw⟩ := q2 j y hj
      obtain ⟨a1, v, a2, a3⟩ := k1 j x hx
      exact ⟨hw.one a1, v, a2, hw.rel hm a3⟩
    rw [← q1]; exact k2 ho
  exact h.elim
theorem BW.own {m : Nat} {a : Option ABlk} {x : ABlk} (h : BW m a x) (ho : x.owned = true) : ∃ y, a = some y ∧ y.owned = true := by
  unfold BW at h
  split at h
  · obtain ⟨rfl, h⟩ := h
    rcases h with ⟨rfl, rfl, rfl⟩ | ⟨rfl, h⟩ | ⟨rfl, h⟩
    · cases ho
    · exact ⟨_, rfl, ho⟩
    exact ⟨_, rfl, ho⟩
  exact h.elim
theorem BW.emp {m e : Nat} {o : Bool} : BW m (some (.cells o e [])) (.cells false e []) := ⟨rfl, .inl ⟨rfl, rfl, rfl⟩⟩
theorem BW.cells {m e : Nat} {o : Bool} {xs ys : List AV} (h : Wcs m xs ys) : BW m (some (.cells o e xs)) (.cells o e ys) := ⟨rfl, .inr (.inl ⟨rfl, h⟩)⟩
theorem BW.pre {m e : Nat} {o : Bool} {ys zs : List AV} : BW m (some (.cells o e (ys ++ zs))) (.cells o e ys) := ⟨rfl, .inr (.inr ⟨rfl, zs, rfl⟩)⟩
/-- The new blocks' old numbers: n + sel[0], n + sel[1], .. -/
def sig (n m : Nat) (sel : List Nat) (b : Nat) : Nat := if b < n then b else match sel[b - n]? with | some i => n + i | none => b + (n + m)
theorem Abs0.of {n : Nat} {H0 l1 l2 : AHeap} {F1 F2 : Fr} (hlen : H0.length = n) (hsc : HBel n H0) (sel : List Nat) (hnd : sel.Nodup)
    (hF : ∀ p ∈ F2, W (n + l1.length) (look F1 p.1) (p.2.mv (sig n l1.length sel))) (hl : l2.length = sel.length) (hH : ∀ (i b : Nat) (x : ABlk), sel[i]? = some b → l2[i]? = some x → x = .dead ∨ l1[b]? = some (x.mv (sig n l1.length sel)) ∨ BW (n + l1.length) (l1[b]?) (x.mv (sig n l1.length sel))) :
    Abs0 n (sig n l1.length sel) F1 (H0 ++ l1) F2 (H0 ++ l2) := by
  have small : ∀ b, b < n → sig n l1.length sel b = b := fun b hb => by simp [sig, hb]
  have inr : ∀ E E' : Env, E.n = (H0 ++ l1).length → E'.n = (H0 ++ l2).length → ∀ b, sig n l1.length sel b < E.n → b < E'.n := fun E E' e1 e2 b hb => by
    rw [e1] at hb
    rw [e2]
    simp only [List.length_append, hlen, hl] at hb ⊢
    unfold sig at hb
    split at hb
    · omega
    split at hb
    · rename_i h; have := getElem?_lt h; omega
    omega
  have new : ∀ (b : Nat) (x : ABlk), ¬ b < n → (H0 ++ l2)[b]? = some x → ∃ i, sel[b - n]? = some i ∧ sig n l1.length sel b = n + i ∧ l2[b - n]? = some x := fun b x hb hx => by
    rw [List.getElem?_append_right (by omega), hlen] at hx
    have := getElem?_lt hx
    have h1 : sel[b - n]? = some (sel[b - n]'(by omega)) := List.getElem?_eq_getElem _
    exact ⟨_, h1, by unfold sig; rw [if_neg hb, h1], hx⟩
  refine ⟨small, by simp [hlen], fun E E' e1 e2 e3 t v hv => ?_, fun E E' e1 e2 eB e3 w hw b x hx => ?_, fun b c x y hx hy ox oy hbc => ?_⟩
  · have hlook : look F2 t = .any ∨ ∃ p ∈ F2, p.1 = t ∧ look F2 t = p.2 := by
      clear hF
      induction F2 with
      | nil => exact .inl rfl
      | cons p F2 ih =>
        obtain ⟨s, y⟩ := p
        unfold look
        by_cases e : s = t
        · subst e; simp
        have : (s == t) = false := by simp [e]
        rw [this]
        simp only [cond_false]
        rcases ih with h | ⟨p, h1, h2, h3⟩
        · exact .inl h
        exact .inr ⟨p, by simp [h1], h2, h3⟩
    rcases hlook with h | ⟨p, h1, rfl, h3⟩
    · rw [h]; exact .any v
    rw [h3]
    exact rel_mv e3 (inr E E' e1 e2) _ v (rel_W (by rw [e1, List.length_append, hlen]; exact Nat.le_refl _) _ _ v (hF p h1) hv)
  · by_cases hb : b < n
    · rw [List.getElem?_append_left (by omega)] at hx
      have h1 := hw b x (by rw [List.getElem?_append_left (by omega)]; exact hx)
      have hbel := hsc b x hx
      have hmv : x.mv (sig n l1.length sel) = x := by
        cases x with
        | dead => rfl
        | cells o e xs => simp only [ABlk.bel] at hbel; simp only [ABlk.mv, mvs_id small xs hbel]
        | map es =>
          simp only [ABlk.bel, Bool.and_eq_true] at hbel
          simp only [ABlk.mv]
          congr 1
          obtain ⟨q1, q2⟩ := hbel
          rw [AV.bels_eq, List.all_eq_true] at q1 q2
          have : es.map (fun p => (p.1.mv (sig n l1.length sel), p.2.mv (sig n l1.length sel))) = es.map id := List.map_congr_left fun p hp => by
            rw [mv_id small p.1 (q1 _ (List.mem_map_of_mem hp)), mv_id small p.2 (q2 _ (List.mem_map_of_mem hp))]
            rfl
          rw [this, List.map_id]
        | fmap es bs ck =>
          simp only [ABlk.bel, Bool.and_eq_true] at hbel
          simp only [ABlk.mv]
          congr 1
          obtain ⟨q1, q2⟩ := hbel
          rw [AV.bels_eq, List.all_eq_true] at q1 q2
          have : es.map (fun p => (p.1.mv (sig n l1.length sel), p.2.mv (sig n l1.length sel))) = es.map id := List.map_congr_left fun p hp => by
            rw [mv_id small p.1 (q1 _ (List.mem_map_of_mem hp)), mv_id small p.2 (q2 _ (List.mem_map_of_mem hp))]
            rfl
          rw [this, List.map_id]
        | iter m bs sn ck => simp only [ABlk.bel, decide_eq_true_eq] at hbel; simp only [ABlk.mv, small m hbel]
      rw [e3 b, small b hb]
      exact blk_mv eB e3 (inr E E' e1 e2) (by rw [hmv]; exact h1)
    obtain ⟨i, h1, h2, h3⟩ := new b x hb hx
    rcases hH _ i x h1 h3 with rfl | h4 | h4
    · trivial
    · have h5 := hw (n + i) _ (by rw [List.getElem?_append_right (by omega), hlen, show n + i - n = i by omega]; exact h4)
      rw [e3 b, h2]
      exact blk_mv eB e3 (inr E E' e1 e2) h5
    cases ha : l1[i]? with
    | none => rw [ha] at h4; exact h4.elim
    | some a =>
    rw [ha] at h4
    have h5 := hw (n + i) a (by rw [List.getElem?_append_right (by omega), hlen, show n + i - n = i by omega]; exact ha)
    rw [e3 b, h2]
    exact blk_mv eB e3 (inr E E' e1 e2) (h4.ok (by rw [e1, List.length_append, hlen]; exact Nat.le_refl _) h5)
  have own : ∀ (b : Nat) (x : ABlk), (H0 ++ l2)[b]? = some x → x.owned = true → ∃ x', (H0 ++ l1)[sig n l1.length sel b]? = some x' ∧ x'.owned = true := fun b x hx ho => by
    by_cases hb : b < n
    · rw [small b hb, List.getElem?_append_left (by omega)]
      rw [List.getElem?_append_left (by omega)] at hx
      exact ⟨x, hx, ho⟩
    obtain ⟨i, h1, h2, h3⟩ := new b x hb hx
    rcases hH _ i x h1 h3 with rfl | h4 | h4
    · cases ho
    rotate_left
    · rw [h2, List.getElem?_append_right (by omega), hlen, show n + i - n = i by omega]
      exact h4.own (by cases x <;> exact ho)
    rw [h2, List.getElem?_append_right (by omega), hlen, show n + i - n = i by omega]
    exact ⟨_, h4, by cases x <;> exact ho⟩
  refine ⟨?_, own b x hx ox, own c y hy oy⟩
  by_cases hb : b < n <;> by_cases hc : c < n
  · rw [small b hb, small c hc]; exact hbc
  · obtain ⟨j, -, h2, -⟩ := new c y hc hy
    rw [small b hb, h2]; omega
  · obtain ⟨i, -, h2, -⟩ := new b x hb hx
    rw [small c hc, h2]; omega
  obtain ⟨i, h1, h2, -⟩ := new b x hb hx
  obtain ⟨j, h3, h4, -⟩ := new c y hc hy
  rw [h2, h4]
  intro e
  have hij : i = j := by omega
  subst hij
  have hb1 := getElem?_lt h1
  have := (List.getElem?_inj hb1 hnd).1 (h1.trans h3.symm)
  omega

theorem Abs.of {n : Nat} {H0 l1 l2 : AHeap} {F1 F2 : Fr} (G : AHeap) (hG : G.all phant = true) (hlen : H0.length = n) (hsc : HBel n H0) (sel : List Nat) (hnd : sel.Nodup)
    (hF : ∀ p ∈ F2, W (n + (l1 ++ G).length) (look F1 p.1) (p.2.mv (sig n (l1 ++ G).length sel))) (hl : l2.length = sel.length)
    (hH : ∀ (i b : Nat) (x : ABlk), sel[i]? = some b → l2[i]? = some x → x = .dead ∨ (l1 ++ G)[b]? = some (x.mv (sig n (l1 ++ G).length sel)) ∨ BW (n + (l1 ++ G).length) ((l1 ++ G)[b]?) (x.mv (sig n (l1 ++ G).length sel))) :
    Abs n (sig n (l1 ++ G).length sel) F1 (H0 ++ l1) F2 (H0 ++ l2) := ⟨G, hG, by rw [List.append_assoc]; exact Abs0.of hlen hsc sel hnd hF hl hH⟩
section
section
variable {P : Program} {N : Nat} {H : AHeap}
def argF : Nat → List AV → Fr
  | _, [] => []
  | i, x :: r => (i, x) :: argF (i + 1) r
theorem look_argF : ∀ (xs : List AV) (i t : Nat), look (argF i xs) t = if i ≤ t then (xs[t - i]?).getD .any else .any
  | [], i, t => by simp [argF, look]
  | x :: r, i, t => by
    unfold argF look
    by_cases e : i = t
    · subst e; simp
    have : (i == t) = false := by simp [e]
    rw [this, cond_false, look_argF r (i + 1) t]
    by_cases h : i + 1 ≤ t
    · rw [if_pos h, if_pos (by omega), show t - i = t - (i + 1) + 1 by omega, List.getElem?_cons_succ]
    rw [if_neg h, if_neg (by omega)]
/-- What a function hands back. -/
def aRes (P : Program) : List ResultVar → Fr → AHeap → Option (List AV)
  | [], _, _ => some []
  | .tmp t :: rs, F, H => (aRes P rs F H).map fun l => look F t :: l
  | .cell a t :: rs, F, H => (aLoad P t (look F a) H).bind fun x => (aRes P rs F H).map fun l => x.1 :: l
def one1 : List AV → AV
  | [x] => x
  | l => .tup l
def aResult (P : Program) (fn : Func) (F : Fr) (H : AHeap) : Option AV := (aRes P fn.results.toList F H).map one1
theorem run_loadAt_same {E : Env} {w : World} (h : Emb E H w) {t : TypeId} {x : AV} {v : Value} (hv : Rel E x v) {r : AV × AHeap} (hr : aLoad P t x H = some r) : ∃ u, (do loadVar t (← asAddr v)).run P w = .ok u w ∧ Rel E r.1 u := by
  unfold aLoad at hr
  split at hr
  · rename_i b o
    cases hv with
    | ptr _ _ hb =>
    obtain ⟨g, hg, hr⟩ := bind_some' hr
    cases g
    · simp only [cond_false, Option.map_eq_some_iff] at hr
      obtain ⟨y, hy, rfl⟩ := hr
      obtain ⟨-, u, hu, hru⟩ := ard_spec h hy
      exact ⟨u, by simp [asAddr, loadVar, run_isAgg hg, hu], hru⟩
    simp only [cond_true] at hr
    obtain ⟨n, hn, hr⟩ := bind_some' hr
    simp only [Option.map_eq_some_iff] at hr
    obtain ⟨l, hl, rfl⟩ := hr
    obtain ⟨h1, -, vs, h2, h3⟩ := ards_spec h hl
    have hrun := run_loadCells' (P := P) (w := w) (E.loc b).blk ((E.loc b).off + o) vs h3
    rw [← h2.1, h1] at hrun
    exact ⟨_, by simp [asAddr, loadVar, run_isAgg hg, run_sizeOf' hn, hrun], h2.agg⟩
  cases hr
theorem run_aRes {E : Env} {w : World} (h : Emb E H w) {F : Fr} {a : Act} (hF : FrRel E F a) (f : ResultVar → Sem Value) (f1 : ∀ t, f (.tmp t) = Pure.pure (a.tmps.getD t undef)) (f2 : ∀ b t, f (.cell b t) = do loadVar t (← asAddr (a.tmps.getD b undef))) : ∀ (rs : List ResultVar) (l : List AV), aRes P rs F H = some l →
    ∃ vs : List Value, (rs.mapM f).run P w = .ok vs w ∧ RelL E l vs
  | [], l, hl => by
    simp [aRes] at hl; subst hl
    exact ⟨[], by simp, RelL.nil E⟩
  | .tmp t :: rs, l, hl => by
    simp only [aRes, Option.map_eq_some_iff] at hl
    obtain ⟨l', hl', rfl⟩ := hl
    obtain ⟨vs, h1, h2⟩ := run_aRes h hF f f1 f2 rs l' hl'
    exact ⟨_ :: vs, by simp only [List.mapM_cons, f1, Sem.run_bind, Sem.run_pure, Result.andThen_ok, h1], .cons (hF t) h2⟩
  | .cell b t :: rs, l, hl => by
    simp only [aRes] at hl
    obtain ⟨q, hq, hl⟩ := bind_some' hl
    simp only [Option.map_eq_some_iff] at hl
    obtain ⟨l', hl', rfl⟩ := hl
    obtain ⟨vs, h1, h2⟩ := run_aRes h hF f f1 f2 rs l' hl'
    obtain ⟨u, hu, hru⟩ := run_loadAt_same h (hF b) hq
    exact ⟨u :: vs, by rw [List.mapM_cons, f2, Sem.run_bind, hu]; simp only [Sem.run_bind, Result.andThen_ok, Sem.run_pure, h1], .cons hru h2⟩
/-- At a function's end. -/
def AEnd (P : Program) (fn : Func) (n : Nat) (R : AV → AHeap → Prop) : Exit → Fr → AHeap → Prop
  | .normal, F, H | .ret, F, H => ∃ x1, aResult P fn F H = some x1 ∧ ∃ σ x2 H2, R x2 H2 ∧ Abs n σ [(0, x1)] H [(0, x2)] H2
  | _, _, _ => False
theorem run_results {E : Env} {w : World} (h : Emb E H w) {F : Fr} {a : Act} (hF : FrRel E F a) {fn : Func} {x : AV} (hx : aResult P fn F H = some x) : ∃ v, (results fn a.tmps).run P w = .ok v w ∧ Rel E x v := by
  unfold aResult at hx
  simp only [Option.map_eq_some_iff] at hx
  obtain ⟨l, hl, rfl⟩ := hx
  have fin : ∀ vs : List Value, RelL E l vs → Rel E (one1 l) (if h : vs.toArray.size = 1 then vs.toArray[0] else .tuple vs.toArray) := fun vs h2 => by
    match l, vs, h2 with
    | [], [], h2 => exact h2.tup
    | [x], [v], h2 => exact h2.uncons.1
    | x :: y :: r, v :: u :: s, h2 => exact h2.tup
  have gen : ∀ f : ResultVar → Sem Value, (∀ t, f (.tmp t) = Pure.pure (a.tmps.getD t undef)) → (∀ b t, f (.cell b t) = do loadVar t (← asAddr (a.tmps.getD b undef))) →
      ∃ v, (do let vs ← fn.results.mapM f; Pure.pure (if h : vs.size = 1 then vs[0] else .tuple vs) : Sem Value).run P w = .ok v w ∧ Rel E (one1 l) v := fun f f1 f2 => by
    obtain ⟨vs, h1, h2⟩ := run_aRes h hF f f1 f2 _ l hl
    refine ⟨_, ?_, fin vs h2⟩
    rw [Array.mapM_eq_mapM_toList]
    simp only [Sem.run_bind, Sem.run_map]
    rw [h1]
    simp
  unfold results
  refine gen _ ?_ ?_
  · intro t; rfl
  intro b t; rfl
theorem ACalls_of {f : FuncId} {fn : Func} {c : Code} {args : List AV} {R : AV → AHeap → Prop} (hf : P.funcs[f]? = some fn) (hb : fn.body = some c) (hN : fn.ntmps = N) (ha : args.length ≤ N)
    (h : HBel H.length H → AW P N H.length c (AEnd P fn H.length R) (argF 0 args) H) : ACalls P f args H R := by
  intro E w vs hE hv
  refine calls_of_wp hf hb (wp_mono (h hE.bel E w _ (by rw [hE.n]; exact Nat.le_refl _) (by have := hv.1; simp; omega) rfl (fun t => ?_) hE) ?_)
  · rw [look_argF]
    simp only [Nat.zero_le, if_true, Nat.sub_zero]
    cases hx : args[t]? with
    | none => exact .any _
    | some x =>
      obtain ⟨v, hv1, hv2⟩ := hv.get hx
      have hlt := getElem?_lt hv1
      simp only [Option.getD_some]
      rw [Array.getD_eq_getD_getElem?, Array.getElem?_append_left (by simpa using hlt)]
      simp [hv1, hv2]
  rintro e a w' ⟨E', F, H1, q, l, k2, k3, k4, k5⟩
  have fin : (∃ x1, aResult P fn F H1 = some x1 ∧ ∃ σ x2 H2, R x2 H2 ∧ Abs H.length σ [(0, x1)] H1 [(0, x2)] H2) → ∃ v, (results fn a.tmps).run P w' = .ok v w' ∧ ∃ E' v' H' x, Ending.returned v = .returned v' ∧ R x H' ∧ E.le E' ∧ Rel E' x v' ∧ Emb E' H' w' := by
    rintro ⟨x1, hx1, σ, x2, H2, hR, hab⟩
    obtain ⟨v, hv1, hv2⟩ := run_results k5 k4 hx1
    obtain ⟨E2, l2, f2, e2⟩ := hab.emb (a := ⟨#[v], []⟩) l.n (fun t => by
      unfold look
      cases t with
      | zero => simpa using hv2
      | succ t => simp [look]; exact .any _) k5
    refine ⟨v, hv1, E2, v, H2, x2, rfl, hR, ?_, ?_, e2⟩
    · have := l.trans l2
      exact ⟨this.B, this.w0, by rw [hE.n]; exact this.n, fun b hb => this.loc b (by rw [← hE.n]; exact hb)⟩
    have := f2 0
    simpa [look] using this
  cases e with
  | normal =>
    obtain ⟨v, h1, h2⟩ := fin q
    exact ⟨k3, v, h1, h2⟩
  | ret =>
    obtain ⟨v, h1, h2⟩ := fin q
    exact ⟨k3, v, h1, h2⟩
  | exit id => exact q.elim
  | goto id => exact q.elim
  | panic ch => exact q.elim
  | outgrown => exact q.elim
end
end

/-- An operation, what it writes, what guards it. -/
structure LOp where
  dst : Option Tmp
  op : Op
  g : Option (Option Tmp × Bool)
def lightOf (ds : List (Option Tmp)) (o : Oper) : LOp := ⟨o.dst, o.op, o.guard.map fun g => ((ds[g.1]?).getD none, g.2)⟩
def dsts (ops : Array Oper) : List (Option Tmp) := ops.toList.map Oper.dst
def gdL (F : Fr) : Option (Option Tmp × Bool) → Option Bool
  | none => some true
  | some (none, _) => none
  | some (some t, want) => (match look F t with | .bool b => some (b == want) | .tup [] => some false | _ => none)
def AOpsL (P : Program) : List LOp → Fr → AHeap → (Fr → AHeap → Prop) → Prop
  | [], F, H, K => K F H
  | o :: os, F, H, K =>
    match gdL F o.g with
    | some true => AOp P o.op F H fun x H' => AOpsL P os (putF o.dst x F) H' K
    | some false => AOpsL P os (putF o.dst (.tup []) F) H K
    | none => False
def AOpsDL (P : Program) (q : Bool) (m : Nat) : List LOp → Fr → AHeap → (Fr → AHeap → Prop) → Prop
  | [], F, H, K => K F H
  | o :: os, F, H, K =>
    match gdL F o.g with
    | some true => AOpD P q m o.op F H fun x H' => AOpsDL P q m os (putF o.dst x F) H' K
    | some false => AOpsDL P q m os (putF o.dst (.tup []) F) H K
    | none => False
section
variable {P : Program} {N n m : Nat} {q : Bool}
theorem gdL_eq (ops : Array Oper) (F : Fr) (o : Oper) : gd ops F o = gdL F (lightOf (dsts ops) o).g := by
  unfold gd lightOf
  cases h : o.guard with
  | none => rfl
  | some g =>
    have e : ((dsts ops)[g.1]?).getD none = (ops[g.1]?).bind (·.dst) := by
      unfold dsts
      rw [List.getElem?_map, Array.getElem?_toList]
      cases ops[g.1]? <;> rfl
    simp only [Option.map_some, e]
    cases h2 : (ops[g.1]?).bind (·.dst) with
    | none => rfl
    | some t => rfl
theorem AOp.mono {o : Op} {F : Fr} {H : AHeap} {K K' : AV → AHeap → Prop} (h : AOp P o F H K) (hk : ∀ x H', K x H' → K' x H') : AOp P o F H K' := by
  unfold AOp at h ⊢
  split at h
  · exact ⟨h.1, h.2.mono hk⟩
  obtain ⟨r, h1, h2⟩ := h; exact ⟨r, h1, hk _ _ h2⟩
theorem AOpD.mono {o : Op} {F : Fr} {H : AHeap} {K K' : AV → AHeap → Prop} (h : AOpD P q m o F H K) (hk : ∀ x H', K x H' → K' x H') : AOpD P q m o F H K' := by
  unfold AOpD at h ⊢
  split at h
  · obtain ⟨h1, x, H', h2, h2', h3, h4⟩ := h; exact ⟨h1, x, H', h2, h2', h3, hk _ _ h4⟩
  obtain ⟨h0, r, h1, h2⟩ := h; exact ⟨h0, r, h1, hk _ _ h2⟩
theorem AOps_of {ops : Array Oper} {K : Fr → AHeap → Prop} : ∀ (l : List Oper) (F : Fr) (H : AHeap), AOpsL P (l.map (lightOf (dsts ops))) F H K → AOps P ops l F H K
  | [], _, _, h => h
  | o :: os, F, H, h => by
    simp only [List.map_cons] at h
    unfold AOpsL at h
    unfold AOps
    rw [gdL_eq]
    cases hg : gdL F (lightOf (dsts ops) o).g with
    | none => rw [hg] at h; exact h
    | some b =>
      rw [hg] at h
      cases b
      · exact AOps_of os _ _ h
      exact AOp.mono h fun x H' hh => AOps_of os _ _ hh
theorem AOpsD_of {ops : Array Oper} {K : Fr → AHeap → Prop} : ∀ (l : List Oper) (F : Fr) (H : AHeap), AOpsDL P q m (l.map (lightOf (dsts ops))) F H K → AOpsD P q m ops l F H K
  | [], _, _, h => h
  | o :: os, F, H, h => by
    simp only [List.map_cons] at h
    unfold AOpsDL at h
    unfold AOpsD
    rw [gdL_eq]
    cases hg : gdL F (lightOf (dsts ops) o).g with
    | none => rw [hg] at h; exact h
    | some b =>
      rw [hg] at h
      cases b
      · exact AOpsD_of os _ _ h
      exact AOpD.mono h fun x H' hh => AOpsD_of os _ _ hh
/-- Code without its loops' rounds, by its text (all = true: all regions' conditions are met). -/
def AWr (P : Program) (N n : Nat) (q : Bool) : Code → (Exit → Fr → AHeap → Prop) → Fr → AHeap → Prop
  | .skip, Q, F, H => Q .normal F H
  | .label _, Q, F, H => Q .normal F H
  | .seq a b, Q, F, H => AWr P N n q a (AThen (fun F H => AWr P N n q b Q F H) Q) F H
  | .cond c a b, Q, F, H => ∃ t, aev F c = .bool t ∧ (t = true → AWr P N n q a Q F H) ∧ (t = false → AWr P N n q b Q F H)
  | .block id c, Q, F, H => AWr P N n q c (AInBlock id Q) F H
  | .exit id, Q, F, H => Q (.exit id) F H
  | .ret, Q, F, H => Q .ret F H
  | .region _ ops draw, Q, F, H => bif draw then AOpsDL P q H.length (ops.toList.map (lightOf (dsts ops))) F H (Q .normal) else AOpsL P (ops.toList.map (lightOf (dsts ops))) F H (Q .normal)
  | .loop c, Q, F, H => AW P N n (.loop c) Q F H
  | _, _, _, _ => False
theorem AOpsL.mono {K K' : Fr → AHeap → Prop} (hk : ∀ F H, K F H → K' F H) : ∀ (l : List LOp) (F : Fr) (H : AHeap), AOpsL P l F H K → AOpsL P l F H K'
  | [], F, H, h => hk F H h
  | o :: os, F, H, h => by
    unfold AOpsL at h ⊢
    cases hg : gdL F o.g with
    | none => rw [hg] at h; exact h
    | some b =>
      rw [hg] at h
      cases b
      · exact AOpsL.mono hk os _ _ h
      exact AOp.mono h fun x H' hh => AOpsL.mono hk os _ _ hh
theorem AOpsDL.mono {K K' : Fr → AHeap → Prop} (hk : ∀ F H, K F H → K' F H) : ∀ (l : List LOp) (F : Fr) (H : AHeap), AOpsDL P q m l F H K → AOpsDL P q m l F H K'
  | [], F, H, h => hk F H h
  | o :: os, F, H, h => by
    unfold AOpsDL at h ⊢
    cases hg : gdL F o.g with
    | none => rw [hg] at h; exact h
    | some b =>
      rw [hg] at h
      cases b
      · exact AOpsDL.mono hk os _ _ h
      exact AOpD.mono h fun x H' hh => AOpsDL.mono hk os _ _ hh
theorem AWr.mono : ∀ (c : Code) {Q Q' : Exit → Fr → AHeap → Prop} {F : Fr} {H : AHeap}, (∀ e F H, Q e F H → Q' e F H) → AWr P N n q c Q F H → AWr P N n q c Q' F H
  | .skip, _, _, _, _, hq, h => hq _ _ _ h
  | .label _, _, _, _, _, hq, h => hq _ _ _ h
  | .seq a b, _, _, _, _, hq, h => AWr.mono a (fun e F H hh => by cases e <;> first | exact AWr.mono b hq hh | exact hq _ _ _ hh) h
  | .cond c a b, _, _, _, _, hq, h => by
    obtain ⟨t, h1, h2, h3⟩ := h
    exact ⟨t, h1, fun e => AWr.mono a hq (h2 e), fun e => AWr.mono b hq (h3 e)⟩
  | .block id c, _, _, _, _, hq, h => AWr.mono c (fun e F H hh => by
      cases e with
      | exit id' =>
        simp only [AInBlock] at hh ⊢
        split
        · rename_i e; rw [if_pos e] at hh; exact hq _ _ _ hh
        rename_i e; rw [if_neg e] at hh; exact hq _ _ _ hh
      | _ => exact hq _ _ _ hh) h
  | .exit _, _, _, _, _, hq, h => hq _ _ _ h
  | .ret, _, _, _, _, hq, h => hq _ _ _ h
  | .region id ops draw, _, _, _, _, hq, h => by
    cases draw
    · exact AOpsL.mono (fun F H => hq _ F H) _ _ _ h
    exact AOpsDL.mono (fun F H => hq _ F H) _ _ _ h
  | .loop c, _, _, _, _, hq, h => AW.mono h hq
  | .rangeFunc .., _, _, _, _, _, h => h.elim
  | .scope _, _, _, _, _, _, h => h.elim
  | .goto _, _, _, _, _, _, h => h.elim
  | .refuse _, _, _, _, _, _, h => h.elim
/-- All regions of a piece of code are as the machine wants them. -/
def codeOk (N : Nat) (q : Bool) : Code → Bool
  | .seq a b => codeOk N q a && codeOk N q b
  | .cond _ a b => codeOk N q a && codeOk N q b
  | .block _ c => codeOk N q c
  | .loop c => codeOk N q c
  | .scope c => codeOk N q c
  | .region _ ops draw => bif draw then drawOk q N ops else dstsOk N ops
  | _ => true
theorem AW_of (hm : P.follows .mixedOrders = true) : ∀ (c : Code), codeOk N q c = true → ∀ (Q : Exit → Fr → AHeap → Prop) (F : Fr) (H : AHeap), AWr P N n q c Q F H → AW P N n c Q F H
  | .skip, _, _, _, _, h => AW_skip h
  | .label _, _, _, _, _, h => AW_label h
  | .seq a b, hc, Q, F, H, h => by
    simp only [codeOk, Bool.and_eq_true] at hc
    refine AW_seq (AW.mono (AW_of hm a hc.1 _ F H h) fun e F H hq => ?_)
    cases e with
    | normal => exact AW_of hm b hc.2 _ F H hq
    | _ => exact hq
  | .cond c a b, hc, Q, F, H, h => by
    simp only [codeOk, Bool.and_eq_true] at hc
    obtain ⟨t, h1, h2, h3⟩ := h
    exact AW_cond t h1 (fun e => AW_of hm a hc.1 _ F H (h2 e)) (fun e => AW_of hm b hc.2 _ F H (h3 e))
  | .block id c, hc, Q, F, H, h => AW_block (AW_of hm c hc _ F H h)
  | .exit _, _, _, _, _, h => AW_exit h
  | .ret, _, _, _, _, h => AW_ret h
  | .region id ops draw, hc, Q, F, H, h => by
    cases draw
    · exact AW_region hc (AOps_of _ _ _ h)
    exact AW_draw q hm hc (AOpsD_of _ _ _ h)
  | .loop c, _, _, _, _, h => h
  | .rangeFunc .., _, _, _, _, h => h.elim
  | .scope _, _, _, _, _, h => h.elim
  | .goto _, _, _, _, _, h => h.elim
  | .refuse _, _, _, _, _, h => h.elim
/-- What is still to be done: code, operations, the end of a block, an aim. -/
inductive It where
  | code (c : Code)
  | ops (l : List LOp)
  | opsD (m : Nat) (l : List LOp)
  | endB (id : Nat)
  | inv (J : Fr → AHeap → Prop)
/-- An exit on its way through what is still to be done. -/
def St (P : Program) (N n : Nat) (q : Bool) (Q : Exit → Fr → AHeap → Prop) : List It → Exit → Fr → AHeap → Prop
  | [], e, F, H => Q e F H
  | .code c :: r, e, F, H => (match e with | .normal => AWr P N n q c (St P N n q Q r) F H | e => St P N n q Q r e F H)
  | .ops l :: r, e, F, H => (match e with | .normal => AOpsL P l F H (fun F H => St P N n q Q r .normal F H) | e => St P N n q Q r e F H)
  | .opsD m l :: r, e, F, H => (match e with | .normal => AOpsDL P q m l F H (fun F H => St P N n q Q r .normal F H) | e => St P N n q Q r e F H)
  | .endB id :: r, e, F, H => (match e with | .exit id' => if id' = id then St P N n q Q r .normal F H else St P N n q Q r (.exit id') F H | e => St P N n q Q r e F H)
  | .inv J :: r, e, F, H => (match e with | .normal => J F H | e => St P N n q Q r e F H)
/-- The machine goes on. -/
def AGo (P : Program) (N n : Nat) (q : Bool) (Q : Exit → Fr → AHeap → Prop) (r : List It) (F : Fr) (H : AHeap) : Prop := St P N n q Q r .normal F H
def AExit (P : Program) (N n : Nat) (q : Bool) (Q : Exit → Fr → AHeap → Prop) (id : Nat) (r : List It) (F : Fr) (H : AHeap) : Prop := St P N n q Q r (.exit id) F H
def ARet (Q : Exit → Fr → AHeap → Prop) (F : Fr) (H : AHeap) : Prop := Q .ret F H
/-- The rest of a region (d: in a region that draws; how many blocks were there before it). -/
def itOf (d : Option Nat) (os : List LOp) : It :=
  match d with
  | some m => .opsD m os
  | none => .ops os
theorem itOf_none {os : List LOp} : itOf none os = .ops os := rfl
theorem itOf_some {m : Nat} {os : List LOp} : itOf (some m) os = .opsD m os := rfl
/-- An operation's result is laid down, and the machine goes on. -/
def AK (P : Program) (N n : Nat) (q : Bool) (Q : Exit → Fr → AHeap → Prop) (d : Option Nat) (x : Option (AV × AHeap)) (dst : Option Tmp) (os : List LOp) (r : List It) (F : Fr) : Prop :=
  match x with
  | some p => AGo P N n q Q (itOf d os :: r) (putF dst p.1 F) p.2
  | none => False
/-- A call. -/
def ACallK (P : Program) (N n : Nat) (q : Bool) (Q : Exit → Fr → AHeap → Prop) (d : Option Nat) (f : FuncId) (args : List AV) (dst : Option Tmp) (os : List LOp) (r : List It) (F : Fr) (H : AHeap) : Prop :=
  okFn P f = true ∧ match d with
    | some m => ∃ x H', (q = true → H' = H) ∧ (H.length ≤ H'.length ∧ ∀ b, b < m → b < H.length → H'[b]? = H[b]?) ∧ ACalls P f args H (fun y H1 => y = x ∧ H1 = H') ∧ AGo P N n q Q (.opsD m os :: r) (putF dst x F) H'
    | none => ACalls P f args H fun x H' => AGo P N n q Q (.ops os :: r) (putF dst x F) H'
def lateD (d : Option Nat) (o : Op) (F : Fr) : Prop :=
  match d with
  | some m => lateOk m o F
  | none => True
theorem late_none {o : Op} {F : Fr} : lateD none o F = True := rfl
theorem late_some {m : Nat} {o : Op} {F : Fr} : lateD (some m) o F = lateOk m o F := rfl
theorem late_and {b m : Nat} {p : Prop} (h : b < m) : (b < m ∧ p) = p := by simp [h]
/-- An operation that is wanted. -/
def ADo (P : Program) (N n : Nat) (q : Bool) (Q : Exit → Fr → AHeap → Prop) (d : Option Nat) (o : Op) (dst : Option Tmp) (os : List LOp) (r : List It) (F : Fr) (H : AHeap) : Prop :=
  match calleeOf o F with
  | some p => ACallK P N n q Q d p.1 p.2 dst os r F H
  | none => lateD d o F ∧ AK P N n q Q d (aop P o F H) dst os r F
/-- An operation and whether it is wanted. -/
def AGd (P : Program) (N n : Nat) (q : Bool) (Q : Exit → Fr → AHeap → Prop) (d : Option Nat) (b : Option Bool) (o : Op) (dst : Option Tmp) (os : List LOp) (r : List It) (F : Fr) (H : AHeap) : Prop :=
  match b with
  | some true => ADo P N n q Q d o dst os r F H
  | some false => AGo P N n q Q (itOf d os :: r) (putF dst (.tup []) F) H
  | none => False
def ACond (P : Program) (N n : Nat) (q : Bool) (Q : Exit → Fr → AHeap → Prop) (x : AV) (a b : Code) (r : List It) (F : Fr) (H : AHeap) : Prop :=
  ∃ t, x = .bool t ∧ (t = true → AGo P N n q Q (.code a :: r) F H) ∧ (t = false → AGo P N n q Q (.code b :: r) F H)
section
variable {Q : Exit → Fr → AHeap → Prop} {r : List It} {F : Fr} {H : AHeap}
theorem go_skip : AGo P N n q Q (.code .skip :: r) F H = AGo P N n q Q r F H := rfl
theorem go_label {l : Nat} : AGo P N n q Q (.code (.label l) :: r) F H = AGo P N n q Q r F H := rfl
theorem st_code (c : Code) : St P N n q Q (.code c :: r) = AThen (fun F H => AWr P N n q c (St P N n q Q r) F H) (St P N n q Q r) := by
  funext e F H; cases e <;> rfl
theorem go_seq {a b : Code} : AGo P N n q Q (.code (.seq a b) :: r) F H = AGo P N n q Q (.code a :: .code b :: r) F H := by
  show AWr P N n q a (AThen _ _) F H = AWr P N n q a (St P N n q Q (.code b :: r)) F H
  rw [st_code]
theorem go_block {id : Nat} {c : Code} : AGo P N n q Q (.code (.block id c) :: r) F H = AGo P N n q Q (.code c :: .endB id :: r) F H := by
  show AWr P N n q c (AInBlock id _) F H = AWr P N n q c (St P N n q Q (.endB id :: r)) F H
  congr 1
  funext e F H
  cases e <;> rfl
theorem go_endB {id : Nat} : AGo P N n q Q (.endB id :: r) F H = AGo P N n q Q r F H := rfl
theorem go_exit {id : Nat} : AGo P N n q Q (.code (.exit id) :: r) F H = AExit P N n q Q id r F H := rfl
theorem exit_code {id : Nat} {c : Code} : AExit P N n q Q id (.code c :: r) F H = AExit P N n q Q id r F H := rfl
theorem exit_endB {id id' : Nat} : AExit P N n q Q id (.endB id' :: r) F H = bif id == id' then AGo P N n q Q r F H else AExit P N n q Q id r F H := by
  show (if id = id' then _ else _) = _
  by_cases e : id = id'
  · subst e; simp; rfl
  have : (id == id') = false := by simp [e]
  rw [if_neg e, this]; rfl
theorem exit_inv {id : Nat} {J : Fr → AHeap → Prop} : AExit P N n q Q id (.inv J :: r) F H = AExit P N n q Q id r F H := rfl
theorem ret_any : ∀ r : List It, St P N n q Q r .ret F H = ARet Q F H
  | [] => rfl
  | .code _ :: r => ret_any r
  | .ops _ :: r => ret_any r
  | .opsD _ _ :: r => ret_any r
  | .endB _ :: r => ret_any r
  | .inv _ :: r => ret_any r
theorem go_ret : AGo P N n q Q (.code .ret :: r) F H = ARet Q F H := ret_any r
theorem go_cond {c : Operand} {a b : Code} : AGo P N n q Q (.code (.cond c a b) :: r) F H = ACond P N n q Q (aev F c) a b r F H := rfl
theorem cond_t {a b : Code} : ACond P N n q Q (.bool true) a b r F H = AGo P N n q Q (.code a :: r) F H := by simp [ACond]
theorem cond_f {a b : Code} : ACond P N n q Q (.bool false) a b r F H = AGo P N n q Q (.code b :: r) F H := by simp [ACond]
theorem cond_split {t : Bool} {a b : Code} (h1 : t = true → AGo P N n q Q (.code a :: r) F H) (h2 : t = false → AGo P N n q Q (.code b :: r) F H) : ACond P N n q Q (.bool t) a b r F H := ⟨t, rfl, h1, h2⟩
theorem go_region {id : Nat} {ops : Array Oper} : AGo P N n q Q (.code (.region id ops false) :: r) F H = AGo P N n q Q (.ops (ops.toList.map (lightOf (dsts ops))) :: r) F H := rfl
theorem go_regionD {id : Nat} {ops : Array Oper} : AGo P N n q Q (.code (.region id ops true) :: r) F H = AGo P N n q Q (.opsD H.length (ops.toList.map (lightOf (dsts ops))) :: r) F H := rfl
theorem go_ops_nil : AGo P N n q Q (.ops [] :: r) F H = AGo P N n q Q r F H := rfl
theorem go_opsD_nil : AGo P N n q Q (.opsD m [] :: r) F H = AGo P N n q Q r F H := rfl
theorem go_ops {o : LOp} {os : List LOp} : AGo P N n q Q (.ops (o :: os) :: r) F H = AGd P N n q Q none (gdL F o.g) o.op o.dst os r F H := by
  show AOpsL P (o :: os) F H _ = _
  unfold AOpsL AGd
  cases hg : gdL F o.g with
  | none => rfl
  | some b =>
    cases b with
    | false => rfl
    | true =>
      simp only
      unfold AOp ADo
      cases hc : calleeOf o.op F with
      | some p => rfl
      | none =>
        simp only
        unfold AK
        cases hx : aop P o.op F H with
        | none => simp
        | some p => simp [lateD]; rfl
theorem go_opsD {o : LOp} {os : List LOp} : AGo P N n q Q (.opsD m (o :: os) :: r) F H = AGd P N n q Q (some m) (gdL F o.g) o.op o.dst os r F H := by
  show AOpsDL P q m (o :: os) F H _ = _
  unfold AOpsDL AGd
  cases hg : gdL F o.g with
  | none => rfl
  | some b =>
    cases b with
    | false => rfl
    | true =>
      simp only
      unfold AOpD ADo
      cases hc : calleeOf o.op F with
      | some p => rfl
      | none =>
        simp only
        unfold AK
        cases hx : aop P o.op F H with
        | none => simp
        | some p => simp [lateD]; exact fun _ => Iff.rfl
variable {d : Option Nat} {dst : Option Tmp} {os : List LOp} {o : Op}
theorem gd_split {b : Bool} (h1 : b = true → ADo P N n q Q d o dst os r F H) (h2 : b = false → AGo P N n q Q (itOf d os :: r) (putF dst (.tup []) F) H) : AGd P N n q Q d (some b) o dst os r F H := by
  cases b
  · exact h2 rfl
  exact h1 rfl
theorem k_some {x : AV} {H' : AHeap} : AK P N n q Q d (some (x, H')) dst os r F = AGo P N n q Q (itOf d os :: r) (putF dst x F) H' := rfl
theorem k_none : AK P N n q Q d none dst os r F = False := rfl
theorem k_need_map {p : Prop} [Decidable p] {f : Unit → AV × AHeap} : AK P N n q Q d ((need p).map f) dst os r F = (p ∧ AK P N n q Q d (some (f ())) dst os r F) := by
  unfold need; by_cases h : p
  · simp [h]
  simp [h, k_none]
theorem k_need_bind {p : Prop} [Decidable p] {f : Unit → Option (AV × AHeap)} : AK P N n q Q d ((need p).bind f) dst os r F = (p ∧ AK P N n q Q d (f ()) dst os r F) := by
  unfold need; by_cases h : p
  · simp [h]
  simp [h, k_none]
theorem k_cond {b : Bool} {x y : Option (AV × AHeap)} : AK P N n q Q d (bif b then x else y) dst os r F = ((b = true → AK P N n q Q d x dst os r F) ∧ (b = false → AK P N n q Q d y dst os r F)) := by
  cases b <;> simp
theorem ite_need {α : Type} {p : Prop} [Decidable p] {x : α} : (if p then some x else none) = (need p).map fun _ => x := by
  unfold need; by_cases h : p <;> simp [h]
/-- A call by a contract. -/
theorem call_of {f : FuncId} {args : List AV} {R : AV → AHeap → Prop} (hok : okFn P f = true) (h : ACalls P f args H R) (k : ∀ x H', R x H' → AGo P N n q Q (.ops os :: r) (putF dst x F) H') : ACallK P N n q Q none f args dst os r F H :=
  ⟨hok, h.mono k⟩
/-- A loop by its text. -/
theorem go_loop {c : Code} (hm : P.follows .mixedOrders = true) (hc : codeOk N q c = true) (I : Nat → Fr → AHeap → Prop) (k0 : Nat) (h0 : ∃ σ F2 H2, I k0 F2 H2 ∧ Abs n σ F H F2 H2)
    (round : ∀ k F H, I k F H → ∀ J : Fr → AHeap → Prop, (∀ F' H', (∃ k', k' < k ∧ ∃ σ F2 H2, I k' F2 H2 ∧ Abs n σ F' H' F2 H2) → J F' H') → AGo P N n q Q (.code c :: .inv J :: r) F H) : AGo P N n q Q (.code (.loop c) :: r) F H := by
  refine AW_loop I k0 h0 fun k F H hi => AW_of hm c hc _ F H ?_
  have := round k F H hi _ (fun _ _ h => h)
  have e : St P N n q Q (.inv (fun F' H' => ∃ k', k' < k ∧ ∃ σ F2 H2, I k' F2 H2 ∧ Abs n σ F' H' F2 H2) :: r) = AThen (fun F' H' => ∃ k', k' < k ∧ ∃ σ F2 H2, I k' F2 H2 ∧ Abs n σ F' H' F2 H2) (St P N n q Q r) := by
    funext e F H; cases e <;> rfl
  rw [← e]
  exact this
/-- A function's call by its text. -/
theorem ACalls_run {f : FuncId} {fn : Func} {args : List AV} {R : AV → AHeap → Prop} (hm : P.follows .mixedOrders = true) (hf : P.funcs[f]? = some fn) (q : Bool) (N : Nat) (hN : fn.ntmps = N) (ha : args.length ≤ N)
    (hc : (fn.body.map (codeOk N q)) = some true) (h : HBel H.length H → ∀ Q, (∀ F H', AEnd P fn H.length R .ret F H' → ARet Q F H') → (∀ F H', AEnd P fn H.length R .normal F H' → Q .normal F H') → ∀ c, fn.body = some c → AGo P N H.length q Q [.code c] (argF 0 args) H) : ACalls P f args H R := by
  cases hb : fn.body with
  | none => rw [hb] at hc; cases hc
  | some c =>
    rw [hb] at hc
    simp at hc
    exact ACalls_of hf hb hN ha fun hbel => AW_of hm c hc _ _ _ (h hbel (AEnd P fn H.length R) (fun _ _ k => k) (fun _ _ k => k) c hb)
end
end
section
variable {α : Type} {H l : List α} {x y : α}
theorem get_new0 : (H ++ l)[H.length]? = l[0]? := by rw [List.getElem?_append_right (Nat.le_refl _), Nat.sub_self]
theorem get_newk {k : Nat} : (H ++ l)[H.length + k]? = l[k]? := by rw [List.getElem?_append_right (by omega)]; congr 1; omega
theorem set_new0 : (H ++ l).set H.length x = H ++ l.set 0 x := by rw [List.set_append_right _ _ (Nat.le_refl _), Nat.sub_self]
theorem set_newk {k : Nat} : (H ++ l).set (H.length + k) x = H ++ l.set k x := by
  rw [List.set_append_right _ _ (by omega)]; congr 2; omega
theorem get_old {b : Nat} (h : H[b]? = some x) (l : List α) : (H ++ l)[b]? = some x := by rw [List.getElem?_append_left (getElem?_lt h)]; exact h
theorem len_app1 : (H ++ [x]).length = H.length + 1 := by simp
theorem len_lit : (H ++ l).length = H.length + l.length := by simp
end
theorem wrap_in {x : Int} (h1 : -9223372036854775808 ≤ x) (h2 : x ≤ 9223372036854775807) : IntKind.i64.wrap x = x := IntWalk.i64_in _ ⟨h1, h2⟩
theorem sig_lt {n m : Nat} {sel : List Nat} {b : Nat} (h : b < n) : sig n m sel b = b := by simp [sig, h]
theorem sig_new0 {n m : Nat} {sel : List Nat} : sig n m sel n = match sel[0]? with | some i => n + i | none => n + (n + m) := by
  unfold sig; rw [if_neg (by omega), Nat.sub_self] <;> rfl
theorem sig_newk {n m k : Nat} {sel : List Nat} : sig n m sel (n + k) = match sel[k]? with | some i => n + i | none => n + k + (n + m) := by
  unfold sig; rw [if_neg (by omega), Nat.add_sub_cancel_left] <;> rfl
/-- At a function's end: what it hands back, and the memory. -/
theorem end_of {P : Program} {fn : Func} {H l1 l2 : AHeap} {R : AV → AHeap → Prop} {F : Fr} {e : Exit} (he : e = .ret ∨ e = .normal) (hbel : HBel H.length H) {x1 x2 : AV} (hx : aResult P fn F (H ++ l1) = some x1) (sel : List Nat) (hnd : sel.Nodup) (hR : R x2 (H ++ l2))
    (hv : x1 = x2.mv (sig H.length l1.length sel)) (hl : l2.length = sel.length) (hH : ∀ (i b : Nat) (x : ABlk), sel[i]? = some b → l2[i]? = some x → x = .dead ∨ l1[b]? = some (x.mv (sig H.length l1.length sel))) : AEnd P fn H.length R e F (H ++ l1) := by
  have h := Abs0.abs <| Abs0.of (n := H.length) (H0 := H) (l1 := l1) (l2 := l2) (F1 := [(0, x1)]) (F2 := [(0, x2)]) rfl hbel sel hnd (fun p hp => by simp at hp; subst hp; simp [look, hv, W.refl]) hl (fun i b x h1 h2 => (hH i b x h1 h2).imp id .inl)
  rcases he with rfl | rfl
  · exact ⟨x1, hx, _, x2, _, hR, h⟩
  exact ⟨x1, hx, _, x2, _, hR, h⟩
/-- At the end of a function that hands back plain values and leaves the memory as it was. -/
theorem end_plain {P : Program} {fn : Func} {H l1 : AHeap} {R : AV → AHeap → Prop} {F : Fr} {e : Exit} (he : e = .ret ∨ e = .normal) (hbel : HBel H.length H) {x : AV} (hx : aResult P fn F (H ++ l1) = some x) (hp : x.bel 0 = true) (hR : R x H) : AEnd P fn H.length R e F (H ++ l1) :=
  end_of (l2 := []) he hbel hx [] (by simp) (by simpa using hR) (mv_id (n := 0) (fun b hb => absurd hb (Nat.not_lt_zero b)) x hp).symm rfl (fun i b x h => by simp at h)
theorem ret_of {P : Program} {fn : Func} {F : Fr} {H : AHeap} {l : List ResultVar} {x : AV} (h1 : fn.results = l.toArray) (h2 : (aRes P l F H).map one1 = some x) : aResult P fn F H = some x := by
  unfold aResult; rw [h1]; exact h2
theorem get_app {α : Type} {H l : List α} {x : α} {b : Nat} (h : H[b]? = some x) : (H ++ l)[b]? = some x := get_old h l
theorem need_true : need True = some () := rfl
theorem succ_beq0 {n : Nat} : (n + 1 == 0) = false := rfl
theorem rng0 : List.range 0 = [] := rfl
theorem rng1 : List.range 1 = [0] := rfl
theorem rng2 : List.range 2 = [0, 1] := rfl
theorem rng3 : List.range 3 = [0, 1, 2] := rfl
theorem rng4 : List.range 4 = [0, 1, 2, 3] := rfl
theorem rng5 : List.range 5 = [0, 1, 2, 3, 4] := rfl
theorem rng6 : List.range 6 = [0, 1, 2, 3, 4, 5] := rfl
theorem rng7 : List.range 7 = [0, 1, 2, 3, 4, 5, 6] := rfl
theorem rng8 : List.range 8 = [0, 1, 2, 3, 4, 5, 6, 7] := rfl
theorem rng9 : List.range 9 = [0, 1, 2, 3, 4, 5, 6, 7, 8] := rfl
theorem rng10 : List.range 10 = [0, 1, 2, 3, 4, 5, 6, 7, 8, 9] := rfl
theorem rng11 : List.range 11 = [0, 1, 2, 3, 4, 5, 6, 7, 8, 9, 10] := rfl
theorem rng12 : List.range 12 = [0, 1, 2, 3, 4, 5, 6, 7, 8, 9, 10, 11] := rfl
theorem rng16 : List.range 16 = [0, 1, 2, 3, 4, 5, 6, 7, 8, 9, 10, 11, 12, 13, 14, 15] := rfl
/-- A block of numbers, of marks. -/
def ints (k : IntKind) (xs : List Int) : List AV := xs.map (AV.int k)
theorem ints_get {k : IntKind} {xs : List Int} {j : Nat} (h : j < xs.length) : (ints k xs)[j]? = some (.int k (gi xs j)) := by
  simp [ints, gi, h, List.getD_eq_getElem?_getD]
theorem ints_len {k : IntKind} {xs : List Int} : (ints k xs).length = xs.length := by simp [ints]
theorem ints_set {k : IntKind} {xs : List Int} {j : Nat} {v : Int} : (ints k xs).set j (.int k v) = ints k (xs.set j v) := by simp [ints, List.map_set]
theorem ints_rep {k : IntKind} {n : Nat} {v : Int} : List.replicate n (.int k v) = ints k (List.replicate n v) := by simp [ints]
def bools (xs : List Bool) : List AV := xs.map AV.bool
theorem bools_len {xs : List Bool} : (bools xs).length = xs.length := by simp [bools]
theorem bools_set {xs : List Bool} {j : Nat} {v : Bool} : (bools xs).set j (.bool v) = bools (xs.set j v) := by simp [bools, List.map_set]
theorem bools_rep {n : Nat} {v : Bool} : List.replicate n (.bool v) = bools (List.replicate n v) := by simp [bools]
theorem mvs_ints {σ : Nat → Nat} {k : IntKind} : ∀ {xs : List Int}, AV.mvs σ (ints k xs) = ints k xs
  | [] => rfl
  | x :: r => by show AV.mv σ (.int k x) :: AV.mvs σ (ints k r) = _; rw [mvs_ints (xs := r)]; rfl
theorem mvs_bools {σ : Nat → Nat} : ∀ {xs : List Bool}, AV.mvs σ (bools xs) = bools xs
  | [] => rfl
  | x :: r => by show AV.mv σ (.bool x) :: AV.mvs σ (bools r) = _; rw [mvs_bools (xs := r)]; rfl
theorem mvs_append {σ : Nat → Nat} : ∀ {xs ys : List AV}, AV.mvs σ (xs ++ ys) = AV.mvs σ xs ++ AV.mvs σ ys
  | [], _ => rfl
  | x :: r, ys => by show AV.mv σ x :: AV.mvs σ (r ++ ys) = _; rw [mvs_append (xs := r)]; rfl
/-- Pairs of numbers, cell by cell. -/
def prs (l : List (Int × Int)) : List AV := l.flatMap fun p => [.int .i64 p.1, .int .i64 p.2]
theorem prs_nil : prs [] = [] := rfl
theorem prs_cons {p : Int × Int} {l : List (Int × Int)} : prs (p :: l) = .int .i64 p.1 :: .int .i64 p.2 :: prs l := rfl
theorem prs_append {l m : List (Int × Int)} : prs (l ++ m) = prs l ++ prs m := by simp [prs]
theorem prs_len : ∀ {l : List (Int × Int)}, (prs l).length = l.length * 2
  | [] => rfl
  | p :: l => by rw [prs_cons]; simp only [List.length_cons, prs_len (l := l)]; omega
theorem mvs_prs {σ : Nat → Nat} : ∀ {l : List (Int × Int)}, AV.mvs σ (prs l) = prs l
  | [] => rfl
  | p :: l => by
    rw [prs_cons]
    show AV.mv σ _ :: AV.mv σ _ :: AV.mvs σ (prs l) = _
    rw [mvs_prs (l := l)]; rfl
theorem prs_at : ∀ {l : List (Int × Int)} {j : Nat} (_h : j < l.length), (prs l).drop (j * 2) = .int .i64 (g1 l j) :: .int .i64 (g2 l j) :: (prs l).drop ((j + 1) * 2)
  | [], j, h => by simp at h
  | p :: l, 0, _ => by rw [prs_cons]; simp [g1, g2]
  | p :: l, j + 1, h => by
    rw [prs_cons, show (j + 1) * 2 = j * 2 + 1 + 1 by omega, List.drop_succ_cons, List.drop_succ_cons, prs_at (l := l) (by simpa using h), show (j + 1 + 1) * 2 = (j + 1) * 2 + 1 + 1 by omega, List.drop_succ_cons, List.drop_succ_cons]
    rfl
theorem prs_load {l : List (Int × Int)} {j : Nat} (h : j < l.length) : ((prs l).drop (j * 2)).take 2 = [.int .i64 (g1 l j), .int .i64 (g2 l j)] := by rw [prs_at h]; rfl
def absF (m : Nat) (σ : Nat → Nat) (F1 : Fr) : Fr → Prop
  | [] => True
  | p :: r => W m (look F1 p.1) (p.2.mv σ) ∧ absF m σ F1 r
def absH (m : Nat) (σ : Nat → Nat) (l1 : AHeap) : List Nat → AHeap → Prop
  | i :: s, x :: l2 => (x = .dead ∨ l1[i]? = some (x.mv σ) ∨ BW m (l1[i]?) (x.mv σ)) ∧ absH m σ l1 s l2
  | [], [] => True
  | _, _ => False
theorem absF_mem {m : Nat} {σ : Nat → Nat} {F1 : Fr} : ∀ {F2 : Fr}, absF m σ F1 F2 → ∀ p ∈ F2, W m (look F1 p.1) (p.2.mv σ)
  | _ :: _, h, p, hp => by
    rcases List.mem_cons.1 hp with rfl | hp
    · exact h.1
    exact absF_mem h.2 p hp
theorem absH_get {m : Nat} {σ : Nat → Nat} {l1 : AHeap} : ∀ {sel : List Nat} {l2 : AHeap}, absH m σ l1 sel l2 → l2.length = sel.length ∧ ∀ (i b : Nat) (x : ABlk), sel[i]? = some b → l2[i]? = some x → x = .dead ∨ l1[b]? = some (x.mv σ) ∨ BW m (l1[b]?) (x.mv σ)
  | [], [], _ => ⟨rfl, fun i b x h => by simp at h⟩
  | s :: sel, y :: l2, h => by
    obtain ⟨h1, h2⟩ := absH_get h.2
    refine ⟨by simp [h1], fun i b x hs hl => ?_⟩
    cases i with
    | zero => simp at hs hl; subst hs hl; exact h.1
    | succ i => exact h2 i b x (by simpa using hs) (by simpa using hl)
  | [], _ :: _, h => h.elim
  | _ :: _, [], h => h.elim
/-- A state that is seen as another one (G: blocks that nothing lies in). -/
theorem Abs.byG {H0 l1 l2 : AHeap} {F1 F2 : Fr} (hsc : HBel H0.length H0) (G : AHeap) (hG : G.all phant = true) (sel : List Nat) (hnd : sel.Nodup) (h : absF (H0.length + (l1 ++ G).length) (sig H0.length (l1 ++ G).length sel) F1 F2 ∧ absH (H0.length + (l1 ++ G).length) (sig H0.length (l1 ++ G).length sel) (l1 ++ G) sel l2) : Abs H0.length (sig H0.length (l1 ++ G).length sel) F1 (H0 ++ l1) F2 (H0 ++ l2) :=
  Abs.of G hG rfl hsc sel hnd (absF_mem h.1) (absH_get h.2).1 (absH_get h.2).2
theorem Abs.by {H0 l1 l2 : AHeap} {F1 F2 : Fr} (hsc : HBel H0.length H0) (sel : List Nat) (hnd : sel.Nodup) (h : absF (H0.length + l1.length) (sig H0.length l1.length sel) F1 F2 ∧ absH (H0.length + l1.length) (sig H0.length l1.length sel) l1 sel l2) : Abs H0.length (sig H0.length l1.length sel) F1 (H0 ++ l1) F2 (H0 ++ l2) := by
  have := Abs.byG (l1 := l1) (l2 := l2) (F1 := F1) (F2 := F2) hsc [] rfl sel hnd (by simpa using h)
  simpa using this
/-- At a function's end, with new blocks. -/
theorem end_byG {P : Program} {fn : Func} {H l1 l2 : AHeap} {R : AV → AHeap → Prop} {F : Fr} {e : Exit} (he : e = .ret ∨ e = .normal) (hbel : HBel H.length H) {x1 : AV} (x2 : AV) (hx : aResult P fn F (H ++ l1) = some x1) (G : AHeap) (hG : G.all phant = true) (sel : List Nat) (hnd : sel.Nodup) (hR : R x2 (H ++ l2))
    (h : W (H.length + (l1 ++ G).length) x1 (x2.mv (sig H.length (l1 ++ G).length sel)) ∧ absH (H.length + (l1 ++ G).length) (sig H.length (l1 ++ G).length sel) (l1 ++ G) sel l2) : AEnd P fn H.length R e F (H ++ l1) := by
  have h1 := Abs.of (n := H.length) (H0 := H) (l1 := l1) (l2 := l2) (F1 := [(0, x1)]) (F2 := [(0, x2)]) G hG rfl hbel sel hnd (fun p hp => by simp at hp; subst hp; exact h.1) (absH_get h.2).1 (absH_get h.2).2
  rcases he with rfl | rfl
  · exact ⟨x1, hx, _, x2, _, hR, h1⟩
  exact ⟨x1, hx, _, x2, _, hR, h1⟩
theorem end_by {P : Program} {fn : Func} {H l1 l2 : AHeap} {R : AV → AHeap → Prop} {F : Fr} {e : Exit} (he : e = .ret ∨ e = .normal) (hbel : HBel H.length H) {x1 : AV} (x2 : AV) (hx : aResult P fn F (H ++ l1) = some x1) (sel : List Nat) (hnd : sel.Nodup) (hR : R x2 (H ++ l2))
    (h : x1 = x2.mv (sig H.length l1.length sel) ∧ absH (H.length + l1.length) (sig H.length l1.length sel) l1 sel l2) : AEnd P fn H.length R e F (H ++ l1) :=
  end_byG he hbel x2 hx [] rfl sel hnd hR ⟨by rw [List.append_nil, h.1]; exact W.refl _, by rw [List.append_nil]; exact h.2⟩
/-- At the end of a function that hands back plain values and has made no block. -/
theorem end_plain0 {P : Program} {fn : Func} {H : AHeap} {R : AV → AHeap → Prop} {F : Fr} {e : Exit} (he : e = .ret ∨ e = .normal) (hbel : HBel H.length H) {x : AV} (hx : aResult P fn F H = some x) (hp : x.bel 0 = true) (hR : R x H) : AEnd P fn H.length R e F H := by
  have h := end_plain (P := P) (fn := fn) (l1 := []) (F := F) (R := R) he hbel (x := x) (by simpa using hx) hp hR
  simpa using h
theorem Abs.by0 {H0 : AHeap} {F1 F2 : Fr} (hsc : HBel H0.length H0) (h : absF H0.length (sig H0.length 0 []) F1 F2) : Abs H0.length (sig H0.length 0 []) F1 H0 F2 H0 := by
  have := Abs.by (l1 := []) (l2 := []) (F1 := F1) (F2 := F2) hsc [] (by simp) ⟨h, trivial⟩
  simpa using this
/-- A call by a contract that says what it hands back and what it leaves. -/
theorem call_v {P : Program} {N n : Nat} {q : Bool} {Q : Exit → Fr → AHeap → Prop} {dst : Option Tmp} {os : List LOp} {r : List It} {F : Fr} {H H1 : AHeap} {f : FuncId} {args : List AV} {x : AV} (hok : okFn P f = true) (h : ACalls P f args H fun v H' => v = x ∧ H' = H1) (k : AGo P N n q Q (.ops os :: r) (putF dst x F) H1) : ACallK P N n q Q none f args dst os r F H :=
  call_of hok h fun v H' ⟨h1, h2⟩ => by subst h1 h2; exact k
theorem call_d {P : Program} {N n m : Nat} {q : Bool} {Q : Exit → Fr → AHeap → Prop} {dst : Option Tmp} {os : List LOp} {r : List It} {F : Fr} {H : AHeap} {f : FuncId} {args : List AV} {x : AV} (hok : okFn P f = true) (h : ACalls P f args H fun y H1 => y = x ∧ H1 = H) (k : AGo P N n q Q (.opsD m os :: r) (putF dst x F) H) : ACallK P N n q Q (some m) f args dst os r F H :=
  ⟨hok, x, H, fun _ => rfl, ⟨Nat.le_refl _, fun _ _ _ => rfl⟩, h, k⟩
/-- A call that makes blocks, in a region that draws (q = false). -/
theorem call_x {P : Program} {N n m : Nat} {Q : Exit → Fr → AHeap → Prop} {dst : Option Tmp} {os : List LOp} {r : List It} {F : Fr} {H l : AHeap} {f : FuncId} {args : List AV} {x : AV} (hok : okFn P f = true) (_ : True) (h : ACalls P f args H fun y H1 => y = x ∧ H1 = H ++ l) (k : AGo P N n false Q (.opsD m os :: r) (putF dst x F) (H ++ l)) : ACallK P N n false Q (some m) f args dst os r F H :=
  ⟨hok, x, H ++ l, (fun h => by cases h), ⟨by simp, fun b _ hb => List.getElem?_append_left hb⟩, h, k⟩
section
variable {E : Env} {H : AHeap} {w w' : World}
theorem Emb.ownLt (h : Emb E H w) {b : Nat} {x : ABlk} (hx : H[b]? = some x) (ho : x.owned = true) : (E.loc b).blk < w.heap.size := by
  have hk := h.blk b x hx
  cases x with
  | dead => cases ho
  | cells own e ys => exact (hk.2.1 ho).2.1
  | map es => exact hk.2.1
  | fmap es bs ck => exact hk.2.1
  | iter m bs sn ck => exact hk.2.1
/-- New blocks of the world leave the abstract memory as it was. -/
theorem Emb.up (h : Emb E H w) (hb : Below w.heap.size w w') : Emb E H w' where
  n := h.n
  below := h.below.trans (hb.mono h.base)
  base := Nat.le_trans h.base hb.size
  blk b x hx := (h.blk b x hx).mono (Env.le.refl E) hb.size (fun ho => hb.block _ (h.ownLt hx ho)) (fun hB => hb.block _ (Nat.lt_of_lt_of_le hB h.base))
  inj := h.inj
/-- A new row of the world becomes a new block. -/
theorem Emb.row (h : Emb E H w) (hb : Below w.heap.size w w') {base n sz : Nat} {e : TypeId} {v : Value} {vs : List Value} {xs : List AV} (hown : w'.ownsRow base e sz v n vs) (hB : w.heap.size ≤ base) (hn : 0 < n) (hr : RelL E xs vs) (ho : ∀ x ∈ xs, x.one = true) :
    ∃ E', E.le E' ∧ Rel E' (.sl (some (H.length, 0)) n none) v ∧ Emb E' (H ++ [.cells true sz xs]) w' := by
  have hs := Seg.of_own (own_base hown (Nat.le_trans h.base hB))
  obtain ⟨g, off, cap, rfl, h1, h2, h3, h4, h5⟩ := blk_of_seg hr ho hs hn
  have hg : base ≤ g := by
    rcases hown.2 with ⟨hv, -⟩ | ⟨g', cap', cur, hv, hb', -⟩
    · cases hv
    injection hv with hv; injection hv with hv; injection hv with hv; omega
  have hle := E.le_push ⟨g, off, cap * sz, sz⟩
  refine ⟨E.push ⟨g, off, cap * sz, sz⟩, hle, ?_, h.grow (row := none) ⟨hb.os, hb.tape, hb.output, hb.size, fun k hk _ => hb.block k hk⟩ (fun k hk => by cases hk) rfl (fun c x hx => .inr ⟨hx, fun _ => by simp⟩) _ _ (h5 _ hle) (fun c x hx ho => ?_)⟩
  · have e1 : (E.push ⟨g, off, cap * sz, sz⟩).loc H.length = ⟨g, off, cap * sz, sz⟩ := by rw [← h.n]; exact Env.push_new _ _
    refine .sl _ _ _ _ _ _ (by simp [Env.push, h.n]) h3 h4 (.inl rfl) (.inr (by rw [e1]; rfl)) ?_
    rw [e1]; simp
  have := h.ownLt hx ho
  show (E.loc c).blk ≠ g
  omega
theorem rel_int {k : IntKind} {n : Int} {v : Value} (h : Rel E (.int k n) v) : v = .int k n := by cases h; rfl
theorem rels_cons {x : AV} {xs : List AV} {vs : List Value} (h : RelL E (x :: xs) vs) : ∃ v us, vs = v :: us ∧ Rel E x v ∧ RelL E xs us := by
  cases vs with
  | nil => have := h.1; simp at this
  | cons v us => exact ⟨v, us, rfl, h.uncons⟩
theorem rels_nil {vs : List Value} (h : RelL E [] vs) : vs = [] := by
  have := h.1
  exact List.eq_nil_of_length_eq_zero (by simpa using this.symm)
end
open Go.ChangeShapes Go.WideShapes

/-- The types of a type's cells: numbers, marks, slices. -/
def leafs (P : Program) : Nat → TypeId → Option (List TypeId)
  | 0, _ => none
  | n + 1, t =>
    match P.underlying t with
    | some (.int _) => some [t]
    | some .bool => some [t]
    | some (.slice e) => (leafs P n e).bind fun l => if l.length = P.cellsOf e ∧ 0 < l.length then some [t] else none
    | some (.struct fs) => (fs.toList.foldl (fun acc f => acc.bind fun (l : List TypeId) => (leafs P n f.type).bind fun m => if f.offset = l.length ∧ m.length = P.cellsOf f.type then some (l ++ m) else none) (some [])).bind fun l => if l.length = P.cellsOf t then some l else none
    | _ => none
/-- A cell's value is of a leaf type. -/
def LTy (P : Program) (H : AHeap) : Nat → TypeId → AV → Prop
  | 0, _, _ => False
  | n + 1, t, x =>
    match P.underlying t with
    | some .bool => ∃ b, x = .bool b
    | some (.int k) => ∃ z, x = .int k z ∧ (Lit.int k z).wf = true
    | some (.slice e) => ∃ (b : Nat) (rows : List (List AV)) (ls : List TypeId), x = .sl (some (b, 0)) rows.length none ∧ leafs P n e = some ls ∧ rows.length ≤ maxLen ∧ H[b]? = some (.cells false ls.length rows.flatten) ∧
        ∀ r : List AV, r ∈ rows → r.length = ls.length ∧ ∀ (j : Nat) (l : TypeId) (y : AV), ls[j]? = some l → r[j]? = some y → LTy P H n l y
    | _ => False
theorem LTy.app {P : Program} {H : AHeap} (l' : AHeap) : ∀ {n : Nat} {t : TypeId} {x : AV}, LTy P H n t x → LTy P (H ++ l') n t x
  | 0, _, _, h => by simp [LTy] at h
  | n + 1, t, x, h => by
    unfold LTy at h ⊢
    split at h
    · exact h
    · exact h
    · obtain ⟨b, rows, ls, h1, h2, h2', h3, h4⟩ := h
      exact ⟨b, rows, ls, h1, h2, h2', get_app h3, fun r hr => ⟨(h4 r hr).1, fun j l y hj hy => ((h4 r hr).2 j l y hj hy).app l'⟩⟩
    exact h
/-- A row of cells is of the types ls. -/
def RTy (P : Program) (H : AHeap) (n : Nat) (ls : List TypeId) (r : List AV) : Prop := r.length = ls.length ∧ ∀ (j : Nat) (l : TypeId) (y : AV), ls[j]? = some l → r[j]? = some y → LTy P H n l y
theorem RTy.app {P : Program} {H : AHeap} (l' : AHeap) {n : Nat} {ls : List TypeId} {r : List AV} (h : RTy P H n ls r) : RTy P (H ++ l') n ls r := ⟨h.1, fun j l y a b => (h.2 j l y a b).app l'⟩
/-- A value is of type t. -/
def ATy (P : Program) (H : AHeap) (n : Nat) (t : TypeId) (x : AV) : Prop := ∃ ls xs, leafs P n t = some ls ∧ RTy P H n ls xs ∧ ((tAgg P t = some true ∧ x = .agg xs) ∨ (tAgg P t = some false ∧ xs = [x]))
theorem ATy.app {P : Program} {H : AHeap} (l' : AHeap) {n : Nat} {t : TypeId} {x : AV} (h : ATy P H n t x) : ATy P (H ++ l') n t x := by
  obtain ⟨ls, xs, h1, h2, h3⟩ := h
  exact ⟨ls, xs, h1, h2.app l', h3⟩
section
variable {K : Type} {enc : TypeId × Value → K} {P : Program} {w : World} {base : Nat} {held : Bool}
/-- Cells that are read at the types ls. -/
def Reads (enc : TypeId × Value → K) (P : Program) (w : World) (base : Nat) (held : Bool) (ls : List TypeId) (cs : List Value) : Prop :=
  cs.length = ls.length ∧ ∀ (j : Nat) (l : TypeId) (v : Value), ls[j]? = some l → cs[j]? = some v → ∃ fuel y, DataW.trod enc P w base (fun _ => true) held fuel l [v] = some y
theorem Reads.append {ls ms : List TypeId} {cs ds : List Value} (h : Reads enc P w base held ls cs) (k : Reads enc P w base held ms ds) : Reads enc P w base held (ls ++ ms) (cs ++ ds) := by
  refine ⟨by simp [h.1, k.1], fun j l v hl hv => ?_⟩
  by_cases hj : j < ls.length
  · rw [List.getElem?_append_left hj] at hl
    rw [List.getElem?_append_left (by rw [h.1]; exact hj)] at hv
    exact h.2 j l v hl hv
  rw [List.getElem?_append_right (by omega)] at hl
  rw [List.getElem?_append_right (by rw [h.1]; omega), h.1] at hv
  exact k.2 _ l v hl hv
theorem leafs_reads : ∀ (n : Nat) (t : TypeId) (ls : List TypeId), leafs P n t = some ls → ∀ (fuel : Nat) (cs : List Value) (y : DataW K × List MemPlace), DataW.trod enc P w base (fun _ => true) held fuel t cs = some y → Reads enc P w base held ls cs
  | 0, _, _, h => by simp [leafs] at h
  | n + 1, t, ls, h => by
    intro fuel cs y hy
    unfold leafs at h
    split at h
    · rename_i k ht
      simp at h; subst h
      obtain ⟨z, rfl, -, -⟩ := DataW.trod_int ht hy
      exact ⟨rfl, fun j l v hl hv => by cases j with
        | zero => simp at hl hv; subst hl hv; exact ⟨fuel, y, hy⟩
        | succ j => simp at hl⟩
    · rename_i ht
      simp at h; subst h
      obtain ⟨z, rfl, -⟩ := DataW.trod_bool ht hy
      exact ⟨rfl, fun j l v hl hv => by cases j with
        | zero => simp at hl hv; subst hl hv; exact ⟨fuel, y, hy⟩
        | succ j => simp at hl⟩
    · rename_i e ht
      obtain ⟨l, -, h⟩ := bind_some' h
      split at h
      · simp at h; subst h
        have h1 : ∃ v, cs = [v] := by
          rcases DataW.trod_slice ht hy with ⟨rfl, -⟩ | ⟨a, len, cap, _, _, _, -, rfl, -⟩
          · exact ⟨_, rfl⟩
          exact ⟨_, rfl⟩
        obtain ⟨v, rfl⟩ := h1
        exact ⟨rfl, fun j l v hl hv => by cases j with
          | zero => simp at hl hv; subst hl hv; exact ⟨fuel, y, hy⟩
          | succ j => simp at hl⟩
      cases h
    · rename_i fs ht
      obtain ⟨L, hL, h⟩ := bind_some' h
      split at h
      · rename_i hlen
        simp at h; subst h
        obtain ⟨xs, m, -, -, hcl, hxl, hf⟩ := DataW.trod_struct ht hy
        have gen : ∀ (l : List Field) (done : List TypeId), (∀ f ∈ l, ∃ i : Nat, fs[i]? = some f) → done.length ≤ cs.length → Reads enc P w base held done (cs.take done.length) →
            l.foldl (fun acc f => acc.bind fun (l : List TypeId) => (leafs P n f.type).bind fun m => if f.offset = l.length ∧ m.length = P.cellsOf f.type then some (l ++ m) else none) (some done) = some L → Reads enc P w base held L (cs.take L.length) := by
          intro l
          induction l with
          | nil => intro done _ _ hd h; simp at h; subst h; exact hd
          | cons f l ih =>
            intro done hmem hle hd h
            simp only [List.foldl_cons, Option.bind_some] at h
            cases hm : leafs P n f.type with
            | none =>
              rw [hm] at h
              simp only [Option.bind_none] at h
              exfalso
              clear ih hd hmem hL
              induction l with
              | nil => simp at h
              | cons f' l ih => simp only [List.foldl_cons, Option.bind_none] at h; exact ih h
            | some ms =>
              rw [hm] at h
              simp only [Option.bind_some] at h
              by_cases hc : f.offset = done.length ∧ ms.length = P.cellsOf f.type
              · rw [if_pos hc] at h
                obtain ⟨i, hi⟩ := hmem f (by simp)
                have h1 := hf i f hi
                have hxi : ∃ z, xs[i]? = some z := by
                  have : i < xs.length := by
                    have a := (Array.getElem?_eq_some_iff.1 hi).1
                    have b := hxl
                    omega
                  exact ⟨_, List.getElem?_eq_getElem this⟩
                obtain ⟨z, hz⟩ := hxi
                rw [hz] at h1
                have hr := leafs_reads n f.type ms hm m _ z h1
                have hrl := hr.1
                rw [List.length_take, List.length_drop] at hrl
                have e1 : cs.take (done ++ ms).length = cs.take done.length ++ (cs.drop f.offset).take (P.cellsOf f.type) := by
                  rw [List.length_append, hc.1, ← hc.2, List.take_add]
                refine ih (done ++ ms) (fun f' hf' => hmem f' (by simp [hf'])) (by rw [List.length_append]; omega) ?_ h
                rw [e1]
                exact hd.append hr
              rw [if_neg hc] at h
              exfalso
              clear ih hd hmem hL
              induction l with
              | nil => simp at h
              | cons f' l ih => simp only [List.foldl_cons, Option.bind_none] at h; exact ih h
        have := gen fs.toList [] (fun f hf => by
          obtain ⟨i, hi⟩ := List.getElem?_of_mem hf
          exact ⟨i, by simpa using hi⟩) (by simp) ⟨by simp, fun j l v hl => by simp at hl⟩ hL
        rwa [List.take_of_length_le (by omega)] at this
      cases h
    cases h
/-- The abstract memory says nothing of what is above: all blocks are the caller's. -/
structure Top (E : Env) (H : AHeap) (w : World) : Prop where
  emb : Emb E H w
  B : E.B = w.heap.size
  w0 : E.w0 = w
theorem Top.push {E : Env} {H : AHeap} (h : Top E H w) {a : Addr} {len cap es : Nat} {xs : List AV} (hsp : 0 < cap → a.spot = none) (hes : 0 < es) (hlen : xs.length = len * es) (hlc : len ≤ cap) (hcm : cap ≤ maxLen)
    (hx : ∀ (j : Nat) (x : AV), xs[j]? = some x → x.one = true ∧ ∃ v, w.cell? ⟨a.block, a.off + j, none⟩ = some v ∧ Rel E x v) (hb : 0 < xs.length → a.block < w.heap.size) :
    ∃ E', E.le E' ∧ Top E' (H ++ [.cells false es xs]) w ∧ Rel E' (.sl (some (H.length, 0)) len none) (.slice (some a) len cap) := by
  have hle := E.le_push ⟨a.block, a.off, cap * es, es⟩
  have hn := h.emb.n
  have e1 : (E.push ⟨a.block, a.off, cap * es, es⟩).loc H.length = ⟨a.block, a.off, cap * es, es⟩ := by rw [← hn]; exact Env.push_new _ _
  refine ⟨E.push ⟨a.block, a.off, cap * es, es⟩, hle, ⟨⟨by simp [Env.push, hn], h.emb.below, h.emb.base, fun b x hbx => ?_, fun b c x y hbx hcy ox oy hbc => ?_⟩, h.B, h.w0⟩, ?_⟩
  · by_cases hbl : b < H.length
    · rw [List.getElem?_append_left hbl] at hbx
      rw [Env.push_old _ _ (by omega)]
      exact (h.emb.blk b x hbx).mono hle (Nat.le_refl _) (fun _ => rfl) (fun _ => rfl)
    have hbe : b = H.length := by have := getElem?_lt hbx; simp at this; omega
    subst hbe
    rw [List.getElem?_append_right (Nat.le_refl _), Nat.sub_self] at hbx
    simp at hbx; subst hbx
    rw [e1]
    refine ⟨fun j x hj => ?_, (fun h => by cases h), fun _ h0 => ?_, rfl⟩
    · obtain ⟨h1, v, h2, h3⟩ := hx j x hj
      exact ⟨h1, v, h2, h3.mono hle⟩
    show a.block < E.B
    rw [h.B]; exact hb h0
  · by_cases hbl : b < H.length
    · by_cases hcl : c < H.length
      · rw [List.getElem?_append_left hbl] at hbx
        rw [List.getElem?_append_left hcl] at hcy
        rw [Env.push_old _ _ (by omega), Env.push_old _ _ (by omega)]
        exact h.emb.inj b c x y hbx hcy ox oy hbc
      have hbe : c = H.length := by have := getElem?_lt hcy; simp at this; omega
      subst hbe
      rw [List.getElem?_append_right (Nat.le_refl _), Nat.sub_self] at hcy
      simp at hcy; subst hcy; cases oy
    have hbe : b = H.length := by have := getElem?_lt hbx; simp at this; omega
    subst hbe
    rw [List.getElem?_append_right (Nat.le_refl _), Nat.sub_self] at hbx
    simp at hbx; subst hbx; cases ox
  refine .sl _ _ _ _ _ _ (by simp [Env.push, hn]) hlc hcm (.inl rfl) ?_ ?_
  · rcases Nat.eq_zero_or_pos cap with h0 | h0
    · exact .inl h0
    right
    rw [e1]
    obtain ⟨b, o, s⟩ := a
    simp only at hsp
    rw [hsp h0]; rfl
  rw [e1]; simp
def leafP (P : Program) (t : TypeId) : Bool := match P.underlying t with
  | some (.int _) | some .bool | some (.slice _) => true
  | _ => false
theorem foldl_none {α β : Type} (f : Option β → α → Option β) (hf : ∀ a, f none a = none) : ∀ l : List α, l.foldl f none = none
  | [] => rfl
  | a :: l => by rw [List.foldl_cons, hf]; exact foldl_none f hf l
theorem leafs_fold {n : Nat} : ∀ (l : List Field) (done L : List TypeId), l.foldl (fun acc f => acc.bind fun (l : List TypeId) => (leafs P n f.type).bind fun m => if f.offset = l.length ∧ m.length = P.cellsOf f.type then some (l ++ m) else none) (some done) = some L →
    ∀ x ∈ L, x ∈ done ∨ ∃ f ∈ l, ∃ m, leafs P n f.type = some m ∧ x ∈ m
  | [], done, L, h, x, hx => by simp at h; subst h; exact .inl hx
  | f :: l, done, L, h, x, hx => by
    simp only [List.foldl_cons, Option.bind_some] at h
    cases hm : leafs P n f.type with
    | none => rw [hm, Option.bind_none, foldl_none _ (fun _ => rfl)] at h; cases h
    | some m =>
      rw [hm, Option.bind_some] at h
      split at h
      · rcases leafs_fold l _ L h x hx with h1 | ⟨f', h1, h2⟩
        · rcases List.mem_append.1 h1 with h1 | h1
          · exact .inl h1
          exact .inr ⟨f, by simp, m, hm, h1⟩
        exact .inr ⟨f', by simp [h1], h2⟩
      rw [foldl_none _ (fun _ => rfl)] at h; cases h
theorem leafs_mono : ∀ (n : Nat) (t : TypeId) (ls : List TypeId), leafs P n t = some ls → leafs P (n + 1) t = some ls
  | 0, _, _, h => by simp [leafs] at h
  | n + 1, t, ls, h => by
    unfold leafs at h ⊢
    split at h
    · exact h
    · exact h
    · obtain ⟨l, h1, h2⟩ := bind_some' h
      rw [leafs_mono n _ l h1]
      exact h2
    · rename_i fs ht
      obtain ⟨L, h1, h2⟩ := bind_some' h
      have gen : ∀ (l : List Field) (done : List TypeId), l.foldl (fun acc f => acc.bind fun (l : List TypeId) => (leafs P n f.type).bind fun m => if f.offset = l.length ∧ m.length = P.cellsOf f.type then some (l ++ m) else none) (some done) = some L →
          l.foldl (fun acc f => acc.bind fun (l : List TypeId) => (leafs P (n + 1) f.type).bind fun m => if f.offset = l.length ∧ m.length = P.cellsOf f.type then some (l ++ m) else none) (some done) = some L := by
        intro l
        induction l with
        | nil => exact fun _ h => h
        | cons f l ih =>
          intro done h
          simp only [List.foldl_cons, Option.bind_some] at h ⊢
          cases hm : leafs P n f.type with
          | none => rw [hm, Option.bind_none, foldl_none _ (fun _ => rfl)] at h; cases h
          | some m =>
            rw [hm, Option.bind_some] at h
            rw [leafs_mono n _ m hm, Option.bind_some]
            split at h
            · rename_i hc; rw [if_pos hc]; exact ih _ h
            rw [foldl_none _ (fun _ => rfl)] at h; cases h
      rw [gen _ _ h1]
      exact h2
    cases h
theorem leafs_self : ∀ (n : Nat) (t : TypeId) (ls : List TypeId), leafs P n t = some ls → ∀ l ∈ ls, leafP P l = true ∧ leafs P n l = some [l]
  | 0, _, _, h => by simp [leafs] at h
  | n + 1, t, ls, h => by
    have h0 := h
    unfold leafs at h
    split at h
    · rename_i k ht
      simp at h; subst h
      exact fun l hl => by simp at hl; subst hl; exact ⟨by unfold leafP; rw [ht], h0⟩
    · rename_i ht
      simp at h; subst h
      exact fun l hl => by simp at hl; subst hl; exact ⟨by unfold leafP; rw [ht], h0⟩
    · rename_i e ht
      obtain ⟨l, h1, h2⟩ := bind_some' h
      split at h2
      · simp at h2; subst h2
        exact fun l hl => by simp at hl; subst hl; exact ⟨by unfold leafP; rw [ht], h0⟩
      cases h2
    · rename_i fs ht
      obtain ⟨L, h1, h2⟩ := bind_some' h
      split at h2
      · simp at h2; subst h2
        intro l hl
        rcases leafs_fold _ _ _ h1 l hl with h3 | ⟨f, -, m, h4, h5⟩
        · simp at h3
        obtain ⟨k1, k2⟩ := leafs_self n f.type m h4 l h5
        exact ⟨k1, leafs_mono n l _ k2⟩
      cases h2
    cases h
/-- What opening a cell gives. -/
def OpenAt (K : Type) (enc : TypeId × Value → K) (P : Program) (w : World) (base : Nat) (held : Bool) (n : Nat) : Prop :=
  ∀ (t : TypeId) (v : Value) (fuel : Nat) (y : DataW K × List MemPlace), leafP P t = true → leafs P n t = some [t] → DataW.trod enc P w base (fun _ => true) held fuel t [v] = some y → ∀ (E : Env) (H : AHeap), Top E H w →
    ∃ (E' : Env) (l : AHeap) (x : AV), E.le E' ∧ Top E' (H ++ l) w ∧ Rel E' x v ∧ x.one = true ∧ LTy P (H ++ l) n t x
theorem open_row {n : Nat} (IH : OpenAt K enc P w base held n) : ∀ (ls : List TypeId) (cs : List Value), (∀ l ∈ ls, leafP P l = true ∧ leafs P n l = some [l]) → Reads enc P w base held ls cs → ∀ (E : Env) (H : AHeap), Top E H w →
    ∃ (E' : Env) (l : AHeap) (xs : List AV), E.le E' ∧ Top E' (H ++ l) w ∧ RelL E' xs cs ∧ (∀ x ∈ xs, x.one = true) ∧ RTy P (H ++ l) n ls xs
  | [], cs, _, hr, E, H, hT => by
    have : cs = [] := List.eq_nil_of_length_eq_zero hr.1
    subst this
    exact ⟨E, [], [], .refl E, by simpa using hT, .nil E, fun x hx => by simp at hx, rfl, fun j l y h => by simp at h⟩
  | t :: ls, cs, hl, hr, E, H, hT => by
    cases cs with
    | nil => have := hr.1; simp at this
    | cons v cs =>
      obtain ⟨fuel, y, hy⟩ := hr.2 0 t v rfl rfl
      obtain ⟨E1, l1, x, e1, t1, r1, o1, y1⟩ := IH t v fuel y (hl t (by simp)).1 (hl t (by simp)).2 hy E H hT
      obtain ⟨E2, l2, xs, e2, t2, r2, o2, y2⟩ := open_row IH ls cs (fun l h => hl l (by simp [h])) ⟨by have := hr.1; simpa using this, fun j l u h1 h2 => hr.2 (j + 1) l u (by simpa using h1) (by simpa using h2)⟩ E1 (H ++ l1) t1
      refine ⟨E2, l1 ++ l2, x :: xs, e1.trans e2, by simpa using t2, .cons (r1.mono e2) r2, fun z hz => ?_, by simp [y2.1], fun j l u h1 h2 => ?_⟩
      · rcases List.mem_cons.1 hz with rfl | hz
        · exact o1
        exact o2 z hz
      cases j with
      | zero =>
        simp at h1 h2; subst h1 h2
        have := y1.app l2
        simpa using this
      | succ j => 
        have := y2.2 j l u (by simpa using h1) (by simpa using h2)
        simpa using this
theorem flat_len {es : Nat} : ∀ (rows : List (List AV)), (∀ r : List AV, r ∈ rows → r.length = es) → rows.flatten.length = rows.length * es
  | [], _ => by simp
  | r :: rows, h => by
    have := flat_len rows (fun r' h' => h r' (by simp [h']))
    have := h r (by simp)
    simp only [List.flatten_cons, List.length_append, List.length_cons, Nat.add_mul, Nat.one_mul]
    omega
theorem open_leaf : ∀ (n : Nat), OpenAt K enc P w base held n
  | 0 => fun _ _ _ _ _ h => by simp [leafs] at h
  | n + 1 => fun t v fuel y hp h hy E H hT => by
    unfold leafs at h
    split at h
    · rename_i k ht
      obtain ⟨z, hz, -, hw⟩ := DataW.trod_int ht hy
      simp at hz; subst hz
      exact ⟨E, [], .int k z, .refl E, by simpa using hT, .int k z, rfl, by unfold LTy; rw [ht]; exact ⟨z, rfl, hw⟩⟩
    · rename_i ht
      obtain ⟨z, hz, -⟩ := DataW.trod_bool ht hy
      simp at hz; subst hz
      exact ⟨E, [], .bool z, .refl E, by simpa using hT, .bool z, rfl, by unfold LTy; rw [ht]; exact ⟨z, rfl⟩⟩
    · rename_i e ht
      obtain ⟨ls, hls, h⟩ := bind_some' h
      split at h
      · rename_i hc
        rcases DataW.trod_slice ht hy with ⟨hv, -⟩ | ⟨a, len, cap, elems, rest, m, -, hv, -, hb, hlc, hcm, hel, hei, hsp, -⟩
        · simp at hv; subst hv
          refine ⟨E.push ⟨0, 0, 0, ls.length⟩, [.cells false ls.length []], .sl (some (H.length, 0)) 0 none, E.le_push _, ⟨hT.emb.phantom rfl, hT.B, hT.w0⟩, .nils _ _ (by rw [← hT.emb.n]; exact Nat.lt_succ_self _) (.inl rfl), rfl, ?_⟩
          unfold LTy; rw [ht]
          exact ⟨H.length, [], ls, rfl, hls, by simp, by simp, fun r h => by simp at h⟩
        simp at hv; subst hv
        obtain ⟨hrl, hri⟩ := hsp rfl
        have hrow : ∀ i, i < len → ∃ cs, w.cells? base (a.add (i * P.cellsOf e)) (P.cellsOf e) = some cs ∧ Reads enc P w base held ls cs := fun i hi => by
          have h1 := hei i hi
          have hi' : i < elems.length := by omega
          rw [List.getElem?_eq_getElem hi'] at h1
          obtain ⟨cs, h2, h3⟩ := Option.bind_eq_some_iff.1 h1
          exact ⟨cs, h2, leafs_reads n e ls hls _ _ _ h3⟩
        have hspot : 0 < cap → a.spot = none := fun h0 => by
          have hz : ∃ cs, w.cells? base (a.add (0 * P.cellsOf e)) (P.cellsOf e) = some cs := by
            rcases Nat.eq_zero_or_pos len with hl0 | hl0
            · have h1 := hri 0 (by omega)
              have hi' : 0 < rest.length := by omega
              rw [List.getElem?_eq_getElem hi', hl0, Nat.zero_add] at h1
              obtain ⟨cs, h2, -⟩ := Option.bind_eq_some_iff.1 h1
              exact ⟨cs, h2⟩
            obtain ⟨cs, h2, -⟩ := hrow 0 hl0
            exact ⟨cs, h2⟩
          obtain ⟨cs, hz⟩ := hz
          obtain ⟨-, hcl, hc0⟩ := World.cells?_some hz
          have := hc0 0 (by omega)
          rw [List.getElem?_eq_getElem (by omega)] at this
          have hs := World.cell?_spot this
          simpa [Addr.add] using hs
        have hrowlt : ∀ i, i < len → a.block < w.heap.size := fun i hi => by
          obtain ⟨cs, h2, -⟩ := hrow i hi
          have := World.cells?_block h2 (by omega)
          rwa [block_add] at this
        -- all rows, one behind the other
        have all : ∀ k, k ≤ len → ∃ (E' : Env) (l : AHeap) (rows : List (List AV)), E.le E' ∧ Top E' (H ++ l) w ∧ rows.length = k ∧ (∀ r : List AV, r ∈ rows → RTy P (H ++ l) n ls r) ∧
            ∀ (j : Nat) (x : AV), rows.flatten[j]? = some x → x.one = true ∧ ∃ v, w.cell? ⟨a.block, a.off + j, none⟩ = some v ∧ Rel E' x v := by
          intro k
          induction k with
          | zero => exact fun _ => ⟨E, [], [], .refl E, by simpa using hT, rfl, fun r hr => by simp at hr, fun j x h => by simp at h⟩
          | succ k ih =>
            intro hk
            obtain ⟨E1, l1, rows, e1, t1, r1, r2, r3⟩ := ih (by omega)
            obtain ⟨cs, c1, c2⟩ := hrow k (by omega)
            obtain ⟨E2, l2, xs, e2, t2, x1, x2, x3⟩ := open_row (open_leaf n) ls cs (fun l hl => leafs_self n e ls hls l hl) c2 E1 (H ++ l1) t1
            obtain ⟨-, hcl, hcc⟩ := World.cells?_some c1
            have hfl : rows.flatten.length = k * ls.length := by rw [flat_len rows (fun r hr => (r2 r hr).1), r1]
            refine ⟨E2, l1 ++ l2, rows ++ [xs], e1.trans e2, by simpa using t2, by simp [r1], fun r hr => ?_, fun j x hj => ?_⟩
            · rcases List.mem_append.1 hr with hr | hr
              · have := (r2 r hr).app l2
                simpa using this
              simp at hr; subst hr
              simpa using x3
            rw [List.flatten_append] at hj
            simp only [List.flatten_cons, List.flatten_nil, List.append_nil] at hj
            by_cases hjl : j < rows.flatten.length
            · rw [List.getElem?_append_left hjl] at hj
              obtain ⟨q1, v, q2, q3⟩ := r3 j x hj
              exact ⟨q1, v, q2, q3.mono e2⟩
            rw [List.getElem?_append_right (by omega)] at hj
            have hjx := getElem?_lt hj
            have hxl : xs.length = cs.length := x1.1
            have hcj := hcc (j - rows.flatten.length) (by omega)
            obtain ⟨v, hv, hr⟩ := x1.get hj
            refine ⟨x2 x (List.mem_of_getElem? hj), v, ?_, hr⟩
            rw [hv, hfl] at hcj
            have hs := hspot (by omega)
            obtain ⟨ab, ao, sp⟩ := a
            simp only at hs
            subst hs
            rw [← hc.1] at hcj
            have ea : (({ block := ab, off := ao, spot := none } : Addr).add (k * ls.length)).add (j - k * ls.length) = ⟨ab, ao + j, none⟩ := by
              have : ∀ (m : Nat), ({ block := ab, off := ao, spot := none } : Addr).add m = ⟨ab, ao + m, none⟩ := fun m => add_addr ab ao m
              rw [this, add_addr]
              congr 1; omega
            rw [ea] at hcj
            exact hcj
        obtain ⟨E1, l1, rows, e1, t1, r1, r2, r3⟩ := all len (Nat.le_refl _)
        have hfl : rows.flatten.length = len * ls.length := by rw [flat_len rows (fun r hr => (r2 r hr).1), r1]
        obtain ⟨E2, e2, t2, hrel⟩ := t1.push (a := a) (len := len) (cap := cap) (es := ls.length) (xs := rows.flatten) hspot hc.2 hfl hlc hcm r3 (fun h0 => hrowlt 0 (by
          rcases Nat.eq_zero_or_pos len with hl0 | hl0
          · rw [hfl, hl0] at h0; simp at h0
          exact hl0))
        refine ⟨E2, l1 ++ [.cells false ls.length rows.flatten], .sl (some ((H ++ l1).length, 0)) len none, e1.trans e2, by simpa using t2, hrel, rfl, ?_⟩
        unfold LTy
        rw [ht]
        refine ⟨(H ++ l1).length, rows, ls, by rw [r1], hls, by omega, ?_, fun r hr => ?_⟩
        · rw [← List.append_assoc, List.getElem?_append_right (Nat.le_refl _), Nat.sub_self]; rfl
        have := (r2 r hr).app [.cells false ls.length rows.flatten]
        rw [List.append_assoc] at this
        exact this
      cases h
    · rename_i fs ht
      unfold leafP at hp; rw [ht] at hp; cases hp
    cases h
theorem tAgg_leaf {t : TypeId} (h : leafP P t = true) : tAgg P t = some false := by
  unfold leafP at h
  unfold tAgg
  split at h <;> first | (rename_i h1; rw [h1]) | cases h
/-- An argument opened. -/
theorem open_arg {r : Reach} {b0 : Nat} {n : Nat} {t : TypeId} {v : Value} {d : DataW K} {p : List MemPlace} {ls : List TypeId} (hl : leafs P n t = some ls) (hok : Value.okWide P w r b0 t v) (h : DataW.Trod enc P w base (fun _ => true) held t v d p) {E : Env} {H : AHeap} (hT : Top E H w) :
    ∃ (E' : Env) (l : AHeap) (x : AV), E.le E' ∧ Top E' (H ++ l) w ∧ Rel E' x v ∧ ATy P (H ++ l) n t x := by
  obtain ⟨fuel, hf⟩ := h
  cases n with
  | zero => simp [leafs] at hl
  | succ n =>
    have hl0 := hl
    have leaf : ∀ (hp : leafP P t = true) (hs : leafs P (n + 1) t = some [t]) (hv : v.cells.toList = [v]), ∃ (E' : Env) (l : AHeap) (x : AV), E.le E' ∧ Top E' (H ++ l) w ∧ Rel E' x v ∧ ATy P (H ++ l) (n + 1) t x := fun hp hs hv => by
      rw [hv] at hf
      obtain ⟨E', l, x, e1, t1, r1, o1, y1⟩ := open_leaf (n + 1) t v fuel _ hp hs hf E H hT
      exact ⟨E', l, x, e1, t1, r1, [t], [x], hs, ⟨rfl, fun j l y hj hy => by cases j with
        | zero => simp at hj hy; subst hj hy; exact y1
        | succ j => simp at hj⟩, .inr ⟨tAgg_leaf hp, rfl⟩⟩
    unfold leafs at hl
    split at hl
    · rename_i k ht
      simp at hl; subst hl
      obtain ⟨z, rfl⟩ := okWide_int ht hok
      exact leaf (by unfold leafP; rw [ht]) hl0 rfl
    · rename_i ht
      simp at hl; subst hl
      obtain ⟨z, rfl⟩ := okWide_bool ht hok
      exact leaf (by unfold leafP; rw [ht]) hl0 rfl
    · rename_i e ht
      obtain ⟨l, h1, h2⟩ := bind_some' hl
      split at h2
      · simp at h2; subst h2
        obtain ⟨a, b, c, rfl⟩ := okWide_slice ht hok
        exact leaf (by unfold leafP; rw [ht]) hl0 rfl
      cases h2
    · rename_i fs ht
      obtain ⟨cs, rfl, hsz⟩ := okWide_struct ht hok
      have hr := leafs_reads (n + 1) t ls hl0 fuel _ _ hf
      obtain ⟨E', l, xs, e1, t1, r1, o1, y1⟩ := open_row (open_leaf (n + 1)) ls _ (fun l hl => leafs_self _ _ _ hl0 l hl) hr E H hT
      refine ⟨E', l, .agg xs, e1, t1, ?_, ls, xs, hl0, y1, .inl ⟨by unfold tAgg; rw [ht], rfl⟩⟩
      have := RelL.agg r1
      simpa [Value.cells] using this
    cases hl
theorem open_args {r : Reach} {b0 n : Nat} : ∀ (ts : List TypeId) (vs : List Value) (ds : List (DataW K)) (p : List MemPlace), DataW.TrodAll enc P w base (fun _ => true) held ts vs ds p →
    (∀ (j : Nat) (t : TypeId) (v : Value), ts[j]? = some t → vs[j]? = some v → Value.okWide P w r b0 t v) → (ts.all fun t => (leafs P n t).isSome) = true → ∀ (E : Env) (H : AHeap), Top E H w →
    ∃ (E' : Env) (l : AHeap) (xs : List AV), E.le E' ∧ Top E' (H ++ l) w ∧ RelL E' xs vs ∧ xs.length = ts.length ∧ ∀ (j : Nat) (t : TypeId) (x : AV), ts[j]? = some t → xs[j]? = some x → ATy P (H ++ l) n t x
  | [], [], [], _, _, _, _, E, H, hT => ⟨E, [], [], .refl E, by simpa using hT, .nil E, rfl, fun j t x h => by simp at h⟩
  | t :: ts, v :: vs, d :: ds, _, h, hok, hl, E, H, hT => by
    obtain ⟨p, q, h1, h2, -⟩ := h
    simp only [List.all_cons, Bool.and_eq_true] at hl
    obtain ⟨ls, hls⟩ := Option.isSome_iff_exists.1 hl.1
    obtain ⟨E1, l1, x, e1, t1, r1, y1⟩ := open_arg hls (hok 0 t v rfl rfl) h1 hT
    obtain ⟨E2, l2, xs, e2, t2, r2, n2, y2⟩ := open_args ts vs ds q h2 (fun j t v a b => hok (j + 1) t v (by simpa using a) (by simpa using b)) hl.2 E1 (H ++ l1) t1
    refine ⟨E2, l1 ++ l2, x :: xs, e1.trans e2, by simpa using t2, .cons (r1.mono e2) r2, by simp [n2], fun j t' x' a b => ?_⟩
    cases j with
    | zero =>
      simp at a b; subst a b
      have := y1.app l2
      simpa using this
    | succ j =>
      have := y2 j t' x' (by simpa using a) (by simpa using b)
      simpa using this
  | [], _ :: _, _, _, h, _, _, _, _, _ => by simp [DataW.TrodAll] at h
  | [], [], _ :: _, _, h, _, _, _, _, _ => by simp [DataW.TrodAll] at h
  | _ :: _, [], _, _, h, _, _, _, _, _ => by simp [DataW.TrodAll] at h
  | _ :: _, _ :: _, [], _, h, _, _, _, _, _ => by simp [DataW.TrodAll] at h
/-- At the top: a law by its contract at arguments of the types. -/
theorem calls_top {r : Reach} {b0 n : Nat} {f : FuncId} {ts : List TypeId} {vs : List Value} {ds : List (DataW K)} {p : List MemPlace} (hA : DataW.TrodAll enc P w base (fun _ => true) held ts vs ds p)
    (hok : ∀ (j : Nat) (t : TypeId) (v : Value), ts[j]? = some t → vs[j]? = some v → Value.okWide P w r b0 t v) (hl : (ts.all fun t => (leafs P n t).isSome) = true)
    (hc : ∀ (H : AHeap) (xs : List AV), xs.length = ts.length → (∀ (j : Nat) (t : TypeId) (x : AV), ts[j]? = some t → xs[j]? = some x → ATy P H n t x) → ACalls P f xs H (fun v H' => v = .bool true ∧ H' = H)) :
    Calls P f vs.toArray w fun e w' => e = .returned (.bool true) ∧ Below w.heap.size w w' := by
  have hT0 : Top ⟨w.heap.size, w, 0, fun _ => ⟨0, 0, 0, 0⟩⟩ [] w := ⟨⟨rfl, .refl _ _, Nat.le_refl _, fun b x h => by simp at h, fun b c x y h => by simp at h⟩, rfl, rfl⟩
  obtain ⟨E, l, xs, -, hT, hr, hn, hy⟩ := open_args ts vs ds p hA hok hl _ [] hT0
  refine (hc ([] ++ l) xs hn hy E w vs hT.emb hr).mono fun e w' ⟨E', v, H', x, he, ⟨hx, _⟩, hle, hrel, hemb⟩ => ⟨?_, ?_⟩
  · subst hx; cases hrel; exact he
  have := hemb.below
  rw [hle.B, hle.w0, hT.B, hT.w0] at this
  exact this
end
section
variable {P : Program} {H : AHeap} {n : Nat}
/-- A slice of pairs that are the whole of a block. -/
def IsP (H : AHeap) (s : AV) (l : List (Int × Int)) : Prop := (l = [] ∧ s = .sl none 0 (some 0)) ∨ ∃ b own cap, s = .sl (some (b, 0)) l.length cap ∧ H[b]? = some (.cells own 2 (prs l))
theorem IsP.app {s : AV} {l : List (Int × Int)} (h : IsP H s l) (l' : AHeap) : IsP (H ++ l') s l := by
  rcases h with h | ⟨b, own, cap, h1, h2⟩
  · exact .inl h
  exact .inr ⟨b, own, cap, h1, get_app h2⟩
/-- A slice of numbers that are the whole of a block. -/
def IsI (H : AHeap) (k : IntKind) (s : AV) (l : List Int) : Prop := (l = [] ∧ s = .sl none 0 (some 0)) ∨ ∃ b own cap, s = .sl (some (b, 0)) l.length cap ∧ H[b]? = some (.cells own 1 (ints k l))
theorem IsI.app {k : IntKind} {s : AV} {l : List Int} (h : IsI H k s l) (l' : AHeap) : IsI (H ++ l') k s l := by
  rcases h with h | ⟨b, own, cap, h1, h2⟩
  · exact .inl h
  exact .inr ⟨b, own, cap, h1, get_app h2⟩
theorem RTy.cons {t : TypeId} {ls : List TypeId} {r : List AV} (h : RTy P H n (t :: ls) r) : ∃ y r', r = y :: r' ∧ LTy P H n t y ∧ RTy P H n ls r' := by
  cases r with
  | nil => have := h.1; simp at this
  | cons y r => exact ⟨y, r, rfl, h.2 0 t y rfl rfl, by have := h.1; simpa using this, fun j l u a b => h.2 (j + 1) l u (by simpa using a) (by simpa using b)⟩
theorem RTy.nil {r : List AV} (h : RTy P H n [] r) : r = [] := List.eq_nil_of_length_eq_zero h.1
theorem LTy.int {t : TypeId} {k : IntKind} {x : AV} (ht : P.underlying t = some (.int k)) (h : LTy P H (n + 1) t x) : ∃ z, x = .int k z ∧ (Lit.int k z).wf = true := by
  unfold LTy at h; rw [ht] at h; exact h
theorem LTy.bool {t : TypeId} {x : AV} (ht : P.underlying t = some .bool) (h : LTy P H (n + 1) t x) : ∃ b, x = .bool b := by
  unfold LTy at h; rw [ht] at h; exact h
theorem LTy.slice {t e : TypeId} {x : AV} {ls : List TypeId} (ht : P.underlying t = some (.slice e)) (hl : leafs P n e = some ls) (h : LTy P H (n + 1) t x) :
    ∃ (b : Nat) (rows : List (List AV)), x = .sl (some (b, 0)) rows.length none ∧ rows.length ≤ maxLen ∧ H[b]? = some (.cells false ls.length rows.flatten) ∧ ∀ r : List AV, r ∈ rows → RTy P H n ls r := by
  unfold LTy at h; rw [ht] at h
  obtain ⟨b, rows, ls', h1, h2, h3, h4, h5⟩ := h
  rw [hl] at h2; simp at h2; subst h2
  exact ⟨b, rows, h1, h3, h4, h5⟩
theorem ATy.agg {t : TypeId} {x : AV} {ls : List TypeId} (hl : leafs P n t = some ls) (ha : tAgg P t = some true) (h : ATy P H n t x) : ∃ xs, x = .agg xs ∧ RTy P H n ls xs := by
  obtain ⟨ls', xs, h1, h2, h3⟩ := h
  rw [hl] at h1; simp at h1; subst h1
  rcases h3 with ⟨-, h3⟩ | ⟨h3, -⟩
  · exact ⟨xs, h3, h2⟩
  rw [ha] at h3; cases h3
theorem ATy.one {t : TypeId} {x : AV} (hl : leafs P n t = some [t]) (ha : tAgg P t = some false) (h : ATy P H n t x) : LTy P H n t x := by
  obtain ⟨ls', xs, h1, h2, h3⟩ := h
  rw [hl] at h1; simp at h1; subst h1
  rcases h3 with ⟨h3, -⟩ | ⟨-, h3⟩
  · rw [ha] at h3; cases h3
  subst h3; exact h2.2 0 t x rfl rfl
theorem rows_ints {k : IntKind} {t : TypeId} (ht : P.underlying t = some (.int k)) : ∀ rows : List (List AV), (∀ r : List AV, r ∈ rows → RTy P H (n + 1) [t] r) → ∃ l : List Int, l.length = rows.length ∧ rows.flatten = ints k l ∧ ∀ z ∈ l, (Lit.int k z).wf = true
  | [], _ => ⟨[], rfl, rfl, fun z h => by simp at h⟩
  | r :: rows, h => by
    obtain ⟨l, h1, h2, h3⟩ := rows_ints ht rows fun r' hr => h r' (by simp [hr])
    obtain ⟨y, r', rfl, hy, hr⟩ := (h r (by simp)).cons
    obtain rfl := hr.nil
    obtain ⟨z, rfl, hz⟩ := hy.int ht
    exact ⟨z :: l, by simp [h1], by simp [h2, ints], fun z' h' => by
      rcases List.mem_cons.1 h' with rfl | h'
      · exact hz
      exact h3 _ h'⟩
theorem LTy.ints {t e : TypeId} {k : IntKind} {x : AV} (ht : P.underlying t = some (.slice e)) (he : P.underlying e = some (.int k)) (hl : leafs P (n + 1) e = some [e]) (h : LTy P H (n + 2) t x) : ∃ l : List Int, IsI H k x l ∧ l.length ≤ maxLen ∧ ∀ z ∈ l, (Lit.int k z).wf = true := by
  obtain ⟨b, rows, rfl, h1, h2, h3⟩ := h.slice ht hl
  obtain ⟨l, k1, k2, k3⟩ := rows_ints he rows h3
  exact ⟨l, .inr ⟨b, false, none, by rw [k1], by rw [← k2]; exact h2⟩, by omega, k3⟩
end
/-- Values in few words. -/
abbrev iV (x : Int) : AV := .int .i64 x
theorem amset0 : type_of% (And.intro (@Int.natCast_zero) <| And.intro (@gt_iff_lt.{0}) <| And.intro (@ge_iff_le.{0}) <| And.intro (@go_skip) <| And.intro (@go_label) <| And.intro (@go_seq) <| And.intro (@go_block) <| And.intro (@go_endB) <| And.intro (@go_exit) <| And.intro (@exit_code) <| And.intro (@exit_endB) <| And.intro (@exit_inv) <| And.intro (@go_ret) <| And.intro (@go_cond) <| And.intro (@cond_t) <| And.intro (@cond_f) <| And.intro (@go_region) <| And.intro (@go_regionD) <| And.intro (@go_ops_nil) <| And.intro (@go_opsD_nil) <| And.intro (@go_ops) <| And.intro (@go_opsD) <| And.intro (@Option.getD_some.{0}) <| (@itOf_none)) :=
  And.intro (@Int.natCast_zero) <| And.intro (@gt_iff_lt.{0}) <| And.intro (@ge_iff_le.{0}) <| And.intro (@go_skip) <| And.intro (@go_label) <| And.intro (@go_seq) <| And.intro (@go_block) <| And.intro (@go_endB) <| And.intro (@go_exit) <| And.intro (@exit_code) <| And.intro (@exit_endB) <| And.intro (@exit_inv) <| And.intro (@go_ret) <| And.intro (@go_cond) <| And.intro (@cond_t) <| And.intro (@cond_f) <| And.intro (@go_region) <| And.intro (@go_regionD) <| And.intro (@go_ops_nil) <| And.intro (@go_opsD_nil) <| And.intro (@go_ops) <| And.intro (@go_opsD) <| And.intro (@Option.getD_some.{0}) <| (@itOf_none)
theorem amset1 : type_of% (And.intro (@itOf_some) <| And.intro (@late_none) <| And.intro (@late_some) <| And.intro (@late_and) <| And.intro (@k_some) <| And.intro (@k_none) <| And.intro (@k_need_map) <| And.intro (@k_need_bind) <| And.intro (@k_cond) <| And.intro (@bne_self_eq_false.{0}) <| And.intro (@Nat.add_sub_cancel) <| And.intro (@need_true) <| And.intro (@succ_beq0) <| And.intro (@if_true.{1}) <| And.intro (@if_false.{1}) <| And.intro (@ite_need) <| And.intro (@Int.toNat_natCast) <| And.intro (@get_new0) <| And.intro (@get_newk) <| And.intro (@set_new0) <| And.intro (@set_newk) <| And.intro (@len_lit) <| And.intro (@len_app1) <| (@cond_true.{1})) :=
  And.intro (@itOf_some) <| And.intro (@late_none) <| And.intro (@late_some) <| And.intro (@late_and) <| And.intro (@k_some) <| And.intro (@k_none) <| And.intro (@k_need_map) <| And.intro (@k_need_bind) <| And.intro (@k_cond) <| And.intro (@bne_self_eq_false.{0}) <| And.intro (@Nat.add_sub_cancel) <| And.intro (@need_true) <| And.intro (@succ_beq0) <| And.intro (@if_true.{1}) <| And.intro (@if_false.{1}) <| And.intro (@ite_need) <| And.intro (@Int.toNat_natCast) <| And.intro (@get_new0) <| And.intro (@get_newk) <| And.intro (@set_new0) <| And.intro (@set_newk) <| And.intro (@len_lit) <| And.intro (@len_app1) <| (@cond_true.{1})
theorem amset2 : type_of% (And.intro (@cond_false.{1}) <| And.intro (@List.map_cons.{0, 0}) <| And.intro (@List.map_nil.{0, 0}) <| And.intro (@Option.map_some.{0, 0}) <| And.intro (@Option.map_none.{0, 0}) <| And.intro (@Option.bind_some.{0, 0}) <| And.intro (@Option.bind_none.{0, 0}) <| And.intro (@Option.map_map.{0, 0, 0}) <| And.intro (@Option.map_bind.{0, 0, 0}) <| And.intro (@Option.bind_map.{0, 0, 0}) <| And.intro (@Function.comp_apply.{1, 1, 1}) <| And.intro (@List.cons_append.{0}) <| And.intro (@List.nil_append.{0}) <| And.intro (@List.append_assoc.{0}) <| And.intro (@List.append_nil.{0}) <| And.intro (@List.length_cons.{0}) <| And.intro (@List.length_nil.{0}) <| And.intro (@Nat.zero_add) <| And.intro (@Nat.add_zero) <| And.intro (@List.getElem?_cons_zero.{0}) <| And.intro (@List.getElem?_cons_succ.{0}) <| And.intro (@List.set_cons_zero.{0}) <| And.intro (@List.set_cons_succ.{0}) <| (@List.all_cons.{0})) :=
  And.intro (@cond_false.{1}) <| And.intro (@List.map_cons.{0, 0}) <| And.intro (@List.map_nil.{0, 0}) <| And.intro (@Option.map_some.{0, 0}) <| And.intro (@Option.map_none.{0, 0}) <| And.intro (@Option.bind_some.{0, 0}) <| And.intro (@Option.bind_none.{0, 0}) <| And.intro (@Option.map_map.{0, 0, 0}) <| And.intro (@Option.map_bind.{0, 0, 0}) <| And.intro (@Option.bind_map.{0, 0, 0}) <| And.intro (@Function.comp_apply.{1, 1, 1}) <| And.intro (@List.cons_append.{0}) <| And.intro (@List.nil_append.{0}) <| And.intro (@List.append_assoc.{0}) <| And.intro (@List.append_nil.{0}) <| And.intro (@List.length_cons.{0}) <| And.intro (@List.length_nil.{0}) <| And.intro (@Nat.zero_add) <| And.intro (@Nat.add_zero) <| And.intro (@List.getElem?_cons_zero.{0}) <| And.intro (@List.getElem?_cons_succ.{0}) <| And.intro (@List.set_cons_zero.{0}) <| And.intro (@List.set_cons_succ.{0}) <| (@List.all_cons.{0})
theorem amset3 : type_of% (And.intro (@List.all_nil.{0}) <| And.intro (@Bool.and_true) <| And.intro (@Bool.true_and) <| And.intro (@Bool.and_self) <| And.intro (@List.drop_zero.{0}) <| And.intro (@List.drop_succ_cons.{0}) <| And.intro (@List.take_succ_cons.{0}) <| And.intro (@List.take_zero.{0}) <| And.intro (@List.drop_nil.{0}) <| And.intro (@List.take_nil.{0}) <| And.intro (@beq_self_eq_true.{0}) <| And.intro (@true_and) <| And.intro (@and_true) <| And.intro (@Nat.lt_add_one) <| And.intro (@decide_true) <| And.intro (@decide_false) <| And.intro (@Bool.not_true) <| And.intro (@Bool.not_false) <| And.intro (@Bool.or_true) <| And.intro (@Bool.or_false) <| And.intro (@Bool.false_or) <| And.intro (@Bool.true_or) <| And.intro (@beq_true) <| (@beq_false)) :=
  And.intro (@List.all_nil.{0}) <| And.intro (@Bool.and_true) <| And.intro (@Bool.true_and) <| And.intro (@Bool.and_self) <| And.intro (@List.drop_zero.{0}) <| And.intro (@List.drop_succ_cons.{0}) <| And.intro (@List.take_succ_cons.{0}) <| And.intro (@List.take_zero.{0}) <| And.intro (@List.drop_nil.{0}) <| And.intro (@List.take_nil.{0}) <| And.intro (@beq_self_eq_true.{0}) <| And.intro (@true_and) <| And.intro (@and_true) <| And.intro (@Nat.lt_add_one) <| And.intro (@decide_true) <| And.intro (@decide_false) <| And.intro (@Bool.not_true) <| And.intro (@Bool.not_false) <| And.intro (@Bool.or_true) <| And.intro (@Bool.or_false) <| And.intro (@Bool.false_or) <| And.intro (@Bool.true_or) <| And.intro (@beq_true) <| (@beq_false)
theorem amset4 : type_of% (And.intro (@wrap_in) <| And.intro (@rng0) <| And.intro (@rng1) <| And.intro (@rng2) <| And.intro (@rng3) <| And.intro (@rng4) <| And.intro (@rng5) <| And.intro (@rng6) <| And.intro (@rng7) <| And.intro (@rng8) <| And.intro (@rng9) <| And.intro (@rng10) <| And.intro (@rng11) <| And.intro (@rng12) <| And.intro (@rng16) <| And.intro (@ints_len) <| And.intro (@ints_set) <| And.intro (@ints_rep) <| And.intro (@bools_len) <| And.intro (@bools_set) <| And.intro (@bools_rep) <| And.intro (@prs_len) <| And.intro (@List.length_append.{0}) <| (@Option.getD_none.{0})) :=
  And.intro (@wrap_in) <| And.intro (@rng0) <| And.intro (@rng1) <| And.intro (@rng2) <| And.intro (@rng3) <| And.intro (@rng4) <| And.intro (@rng5) <| And.intro (@rng6) <| And.intro (@rng7) <| And.intro (@rng8) <| And.intro (@rng9) <| And.intro (@rng10) <| And.intro (@rng11) <| And.intro (@rng12) <| And.intro (@rng16) <| And.intro (@ints_len) <| And.intro (@ints_set) <| And.intro (@ints_rep) <| And.intro (@bools_len) <| And.intro (@bools_set) <| And.intro (@bools_rep) <| And.intro (@prs_len) <| And.intro (@List.length_append.{0}) <| (@Option.getD_none.{0})
theorem amset5 : type_of% (And.intro (@List.length_set.{0}) <| And.intro (@List.length_replicate.{0}) <| And.intro (@List.getD_cons_zero.{0}) <| And.intro (@List.getD_cons_succ.{0}) <| And.intro (@Nat.mul_one) <| And.intro (@Nat.one_mul) <| And.intro (@Nat.zero_mul) <| (@Nat.mul_zero)) :=
  And.intro (@List.length_set.{0}) <| And.intro (@List.length_replicate.{0}) <| And.intro (@List.getD_cons_zero.{0}) <| And.intro (@List.getD_cons_succ.{0}) <| And.intro (@Nat.mul_one) <| And.intro (@Nat.one_mul) <| And.intro (@Nat.zero_mul) <| (@Nat.mul_zero)
theorem amdef0 : type_of% (And.intro (@AGd.eq_1) <| And.intro (@AGd.eq_2) <| And.intro (@gdL.eq_1) <| And.intro (@gdL.eq_2) <| And.intro (@gdL.eq_3) <| And.intro (@lightOf.eq_1) <| And.intro (@dsts.eq_1) <| And.intro (@ADo.eq_1) <| And.intro (@lenV.eq_1) <| And.intro (@lenV.eq_2) <| And.intro (@aev.eq_1) <| And.intro (@aev.eq_2) <| And.intro (@aev.eq_3) <| And.intro (@aev.eq_4) <| And.intro (@look.eq_1) <| And.intro (@look.eq_2) <| And.intro (@putF.eq_1) <| And.intro (@putF.eq_2) <| And.intro (@AV.cells.eq_1) <| And.intro (@AV.cells.eq_2) <| And.intro (@AV.flat.eq_1) <| And.intro (@AV.flat.eq_2) <| And.intro (@AV.flat.eq_3) <| (@AV.flat.eq_4)) :=
  And.intro (@AGd.eq_1) <| And.intro (@AGd.eq_2) <| And.intro (@gdL.eq_1) <| And.intro (@gdL.eq_2) <| And.intro (@gdL.eq_3) <| And.intro (@lightOf.eq_1) <| And.intro (@dsts.eq_1) <| And.intro (@ADo.eq_1) <| And.intro (@lenV.eq_1) <| And.intro (@lenV.eq_2) <| And.intro (@aev.eq_1) <| And.intro (@aev.eq_2) <| And.intro (@aev.eq_3) <| And.intro (@aev.eq_4) <| And.intro (@look.eq_1) <| And.intro (@look.eq_2) <| And.intro (@putF.eq_1) <| And.intro (@putF.eq_2) <| And.intro (@AV.cells.eq_1) <| And.intro (@AV.cells.eq_2) <| And.intro (@AV.flat.eq_1) <| And.intro (@AV.flat.eq_2) <| And.intro (@AV.flat.eq_3) <| (@AV.flat.eq_4)
theorem amdef1 : type_of% (And.intro (@aAlloc.eq_1) <| And.intro (@aNew.eq_1) <| And.intro (@aBox.eq_1) <| And.intro (@aBuild.eq_1) <| And.intro (@afill.eq_1) <| And.intro (@afill.eq_2) <| And.intro (@splice.eq_1) <| And.intro (@splice.eq_2) <| And.intro (@aBuildSlice.eq_1) <| And.intro (@arep.eq_1) <| And.intro (@arep.eq_2) <| And.intro (@aLoad.eq_1) <| And.intro (@aLoad.eq_2) <| And.intro (@ard.eq_1) <| And.intro (@ards.eq_1) <| And.intro (@aStore.eq_1) <| And.intro (@aStore.eq_2) <| And.intro (@awrite.eq_1) <| And.intro (@aFieldAddr.eq_1) <| And.intro (@aFieldAddr.eq_2) <| And.intro (@aField.eq_1) <| And.intro (@aField.eq_2) <| And.intro (@aIndexAddr.eq_1) <| (@aIndexAddr.eq_2)) :=
  And.intro (@aAlloc.eq_1) <| And.intro (@aNew.eq_1) <| And.intro (@aBox.eq_1) <| And.intro (@aBuild.eq_1) <| And.intro (@afill.eq_1) <| And.intro (@afill.eq_2) <| And.intro (@splice.eq_1) <| And.intro (@splice.eq_2) <| And.intro (@aBuildSlice.eq_1) <| And.intro (@arep.eq_1) <| And.intro (@arep.eq_2) <| And.intro (@aLoad.eq_1) <| And.intro (@aLoad.eq_2) <| And.intro (@ard.eq_1) <| And.intro (@ards.eq_1) <| And.intro (@aStore.eq_1) <| And.intro (@aStore.eq_2) <| And.intro (@awrite.eq_1) <| And.intro (@aFieldAddr.eq_1) <| And.intro (@aFieldAddr.eq_2) <| And.intro (@aField.eq_1) <| And.intro (@aField.eq_2) <| And.intro (@aIndexAddr.eq_1) <| (@aIndexAddr.eq_2)
theorem amdef2 : type_of% (And.intro (@aIndexAddr.eq_3) <| And.intro (@aIndex.eq_1) <| And.intro (@aIndex.eq_2) <| And.intro (@aExtract.eq_1) <| And.intro (@aExtract.eq_2) <| And.intro (@aBound.eq_1) <| And.intro (@aBound.eq_2) <| And.intro (@aBound.eq_3) <| And.intro (@aSlice.eq_1) <| And.intro (@aSlice.eq_2) <| And.intro (@aSlice.eq_3) <| And.intro (@aInt.eq_1) <| And.intro (@aInt.eq_2) <| And.intro (@aInt.eq_3) <| And.intro (@aInt.eq_4) <| And.intro (@aInt.eq_5) <| And.intro (@aInt.eq_6) <| And.intro (@aInt.eq_7) <| And.intro (@aInt.eq_8) <| And.intro (@aInt.eq_9) <| And.intro (@aInt.eq_10) <| And.intro (@aInt.eq_11) <| And.intro (@aInt.eq_12) <| (@aInt.eq_13)) :=
  And.intro (@aIndexAddr.eq_3) <| And.intro (@aIndex.eq_1) <| And.intro (@aIndex.eq_2) <| And.intro (@aExtract.eq_1) <| And.intro (@aExtract.eq_2) <| And.intro (@aBound.eq_1) <| And.intro (@aBound.eq_2) <| And.intro (@aBound.eq_3) <| And.intro (@aSlice.eq_1) <| And.intro (@aSlice.eq_2) <| And.intro (@aSlice.eq_3) <| And.intro (@aInt.eq_1) <| And.intro (@aInt.eq_2) <| And.intro (@aInt.eq_3) <| And.intro (@aInt.eq_4) <| And.intro (@aInt.eq_5) <| And.intro (@aInt.eq_6) <| And.intro (@aInt.eq_7) <| And.intro (@aInt.eq_8) <| And.intro (@aInt.eq_9) <| And.intro (@aInt.eq_10) <| And.intro (@aInt.eq_11) <| And.intro (@aInt.eq_12) <| (@aInt.eq_13)
theorem amdef3 : type_of% (And.intro (@aInt.eq_14) <| And.intro (@aInt.eq_15) <| And.intro (@aInt.eq_16) <| And.intro (@aInt.eq_17) <| And.intro (@aUn.eq_1) <| And.intro (@aUn.eq_2) <| And.intro (@aUn.eq_3) <| And.intro (@aLen.eq_1) <| And.intro (@aLen.eq_2) <| And.intro (@aLen.eq_3) <| And.intro (@aLen.eq_4) <| And.intro (@aElems.eq_1) <| And.intro (@aElems.eq_2) <| And.intro (@aElems.eq_3) <| And.intro (@aCopy.eq_1) <| And.intro (@aMin2.eq_1) <| And.intro (@aMin2.eq_2) <| And.intro (@aMax2.eq_1) <| And.intro (@aMax2.eq_2) <| And.intro (@aFold.eq_1) <| And.intro (@aFold.eq_2) <| And.intro (@aBuiltin.eq_1) <| And.intro (@aBuiltin.eq_2) <| (@aBuiltin.eq_3)) :=
  And.intro (@aInt.eq_14) <| And.intro (@aInt.eq_15) <| And.intro (@aInt.eq_16) <| And.intro (@aInt.eq_17) <| And.intro (@aUn.eq_1) <| And.intro (@aUn.eq_2) <| And.intro (@aUn.eq_3) <| And.intro (@aLen.eq_1) <| And.intro (@aLen.eq_2) <| And.intro (@aLen.eq_3) <| And.intro (@aLen.eq_4) <| And.intro (@aElems.eq_1) <| And.intro (@aElems.eq_2) <| And.intro (@aElems.eq_3) <| And.intro (@aCopy.eq_1) <| And.intro (@aMin2.eq_1) <| And.intro (@aMin2.eq_2) <| And.intro (@aMax2.eq_1) <| And.intro (@aMax2.eq_2) <| And.intro (@aFold.eq_1) <| And.intro (@aFold.eq_2) <| And.intro (@aBuiltin.eq_1) <| And.intro (@aBuiltin.eq_2) <| (@aBuiltin.eq_3)
theorem amdef4 : type_of% (And.intro (@aBuiltin.eq_4) <| And.intro (@aBuiltin.eq_5) <| And.intro (@aBuiltin.eq_6) <| And.intro (@aBuiltin.eq_7) <| And.intro (@aBuiltin.eq_8) <| And.intro (@aClear.eq_1) <| And.intro (@aMakeSlice.eq_1) <| And.intro (@aMakeSlice.eq_2) <| And.intro (@aMapUpdate.eq_1) <| And.intro (@aMapUpdate.eq_2) <| And.intro (@aDelete.eq_1) <| And.intro (@aDelete.eq_2) <| And.intro (@aLookup.eq_1) <| And.intro (@argF.eq_1) <| And.intro (@argF.eq_2) <| And.intro (@isSh.eq_1) <| And.intro (@isSh.eq_2) <| And.intro (@isSh.eq_3) <| And.intro (@aRes.eq_1) <| And.intro (@aRes.eq_2) <| And.intro (@aRes.eq_3) <| And.intro (@one1.eq_1) <| And.intro (@one1.eq_2) <| (@or_false)) :=
  And.intro (@aBuiltin.eq_4) <| And.intro (@aBuiltin.eq_5) <| And.intro (@aBuiltin.eq_6) <| And.intro (@aBuiltin.eq_7) <| And.intro (@aBuiltin.eq_8) <| And.intro (@aClear.eq_1) <| And.intro (@aMakeSlice.eq_1) <| And.intro (@aMakeSlice.eq_2) <| And.intro (@aMapUpdate.eq_1) <| And.intro (@aMapUpdate.eq_2) <| And.intro (@aDelete.eq_1) <| And.intro (@aDelete.eq_2) <| And.intro (@aLookup.eq_1) <| And.intro (@argF.eq_1) <| And.intro (@argF.eq_2) <| And.intro (@isSh.eq_1) <| And.intro (@isSh.eq_2) <| And.intro (@isSh.eq_3) <| And.intro (@aRes.eq_1) <| And.intro (@aRes.eq_2) <| And.intro (@aRes.eq_3) <| And.intro (@one1.eq_1) <| And.intro (@one1.eq_2) <| (@or_false)
theorem amdef5 : type_of% (And.intro (@or_true) <| (@true_or)) :=
  And.intro (@or_true) <| (@true_or)
theorem amdef : type_of% (And.intro (@amdef0) <| And.intro (@amdef1) <| And.intro (@amdef2) <| And.intro (@amdef3) <| And.intro (@amdef4) <| (@amdef5)) :=
  And.intro (@amdef0) <| And.intro (@amdef1) <| And.intro (@amdef2) <| And.intro (@amdef3) <| And.intro (@amdef4) <| (@amdef5)
theorem boolset0 : type_of% (And.intro (@Bool.not_eq_true') <| And.intro (@Bool.not_eq_false') <| And.intro (@decide_eq_true_eq) <| And.intro (@decide_eq_false_iff_not) <| And.intro (@beq_iff_eq Int _ _) <| And.intro (@bne_iff_ne Int _ _) <| And.intro (@Bool.not_eq_true) <| And.intro (@Bool.not_eq_false) <| And.intro (@beq_eq_false_iff_ne Int _ _) <| And.intro (@bne_eq_false_iff_eq Int _ _) <| And.intro (@Classical.not_not) <| And.intro (@Bool.and_eq_true) <| (@Bool.and_eq_false_imp)) :=
  And.intro (@Bool.not_eq_true') <| And.intro (@Bool.not_eq_false') <| And.intro (@decide_eq_true_eq) <| And.intro (@decide_eq_false_iff_not) <| And.intro (@beq_iff_eq Int _ _) <| And.intro (@bne_iff_ne Int _ _) <| And.intro (@Bool.not_eq_true) <| And.intro (@Bool.not_eq_false) <| And.intro (@beq_eq_false_iff_ne Int _ _) <| And.intro (@bne_eq_false_iff_eq Int _ _) <| And.intro (@Classical.not_not) <| And.intro (@Bool.and_eq_true) <| (@Bool.and_eq_false_imp)
theorem boolset : type_of% ((@boolset0)) :=
  (@boolset0)
theorem amset : type_of% (And.intro (@amset0) <| And.intro (@amset1) <| And.intro (@amset2) <| And.intro (@amset3) <| And.intro (@amset4) <| And.intro (@amset5) <| (@amdef)) :=
  And.intro (@amset0) <| And.intro (@amset1) <| And.intro (@amset2) <| And.intro (@amset3) <| And.intro (@amset4) <| And.intro (@amset5) <| (@amdef)
/-- Two facts in one. -/
theorem jn {a b : Prop} (x : a) (y : b) : a ∧ b := ⟨x, y⟩
/-- A function's result, read by the machine's rules. -/
theorem resT {P : Program} {fn : Func} {F : Fr} {H : AHeap} {l : List ResultVar} {x : AV} (h1 : fn.results = l.toArray) (h2 : (aRes P l F H).map one1 = some x := by simp -implicitDefEqProofs (disch := omega) only [simprocAttr, amset, tyset, Function.comp_apply, one1, lenV, calleeOf, lateOk, belowV, aop, AV.ofValue, AV.ofCell, AV.cells, AV.flat, AV.one, arep, aBin, aAppend, aConv]) : aResult P fn F H = some x := ret_of h1 h2
theorem resTf {r : Prop} (f : r) {P : Program} {fn : Func} {F : Fr} {H : AHeap} {l : List ResultVar} {x : AV} (h1 : fn.results = l.toArray) (h2 : r → (aRes P l F H).map one1 = some x := by intro hs; simp -implicitDefEqProofs (disch := omega) only [hs, simprocAttr, amset, tyset, Function.comp_apply, one1, lenV, calleeOf, lateOk, belowV, aop, AV.ofValue, AV.ofCell, AV.cells, AV.flat, AV.one, arep, aBin, aAppend, aConv]) : aResult P fn F H = some x := ret_of h1 (h2 f)
/-- A state seen as another one. -/
theorem absT {p : Prop} (h : p := by
  simp -implicitDefEqProofs (disch := omega) only [absF, absH, W_refl', W_any', W_agg, W_tup, Ws_cons, Ws_refl', Wc_refl', Wcs_cons, Wcs_nil, look, List.cons_append, List.nil_append, List.append_nil, List.length_cons, List.length_nil, Nat.zero_add, Nat.reduceAdd, AV.mv, AV.mvs, ABlk.mv, sig_new0, sig_newk, sig_lt, List.getElem?_cons_zero, List.getElem?_cons_succ, mvs_ints, mvs_bools, mvs_prs, mvs_append, cond_true, cond_false, beq_self_eq_true, Nat.reduceBEq, true_and, and_true, or_true, true_or, and_self, decide_true, Nat.add_zero, reduceCtorEq, false_or, or_false]
  repeat' (first | exact True.intro | exact Nat.add_lt_add_left (by decide) _ | exact Nat.lt_add_of_pos_right (by decide) | refine W_nils ?_ (Or.inr rfl) | refine W_nils ?_ (Or.inl rfl) | refine Wc_nils ?_ (Or.inr rfl) | refine Wc_nils ?_ (Or.inl rfl) | exact W_cap | rfl | refine And.intro ?_ ?_ | exact Or.inl rfl | exact Or.inr rfl | exact Or.inr (Or.inl rfl) | exact Or.inr (Or.inr BW.emp) | exact Or.inr BW.emp | exact BW.emp | exact Or.inr (Or.inr BW.pre) | exact Or.inr BW.pre | exact BW.pre | refine Or.inr (BW.cells ?_) | refine BW.cells ?_ | refine Or.inr (Or.inr (BW.cells ?_)) | exact Wc_cap)) : p := h
theorem absTf {p r : Prop} (f : r) (h : r → p := by
  intro hs
  simp -implicitDefEqProofs (disch := omega) only [hs, absF, absH, W_refl', W_any', W_agg, W_tup, Ws_cons, Ws_refl', Wc_refl', Wcs_cons, Wcs_nil, look, List.cons_append, List.nil_append, List.append_nil, List.length_cons, List.length_nil, Nat.zero_add, Nat.reduceAdd, AV.mv, AV.mvs, ABlk.mv, sig_new0, sig_newk, sig_lt, List.getElem?_cons_zero, List.getElem?_cons_succ, mvs_ints, mvs_bools, mvs_prs, mvs_append, cond_true, cond_false, beq_self_eq_true, Nat.reduceBEq, true_and, and_true, or_true, true_or, and_self, decide_true, Nat.add_zero, reduceCtorEq, false_or, or_false]
  repeat' (first | exact True.intro | exact Nat.add_lt_add_left (by decide) _ | exact Nat.lt_add_of_pos_right (by decide) | refine W_nils ?_ (Or.inr rfl) | refine W_nils ?_ (Or.inl rfl) | refine Wc_nils ?_ (Or.inr rfl) | refine Wc_nils ?_ (Or.inl rfl) | exact W_cap | rfl | refine And.intro ?_ ?_ | exact Or.inl rfl | exact Or.inr rfl | exact Or.inr (Or.inl rfl) | exact Or.inr (Or.inr BW.emp) | exact Or.inr BW.emp | exact BW.emp | exact Or.inr (Or.inr BW.pre) | exact Or.inr BW.pre | exact BW.pre | refine Or.inr (BW.cells ?_) | refine BW.cells ?_ | refine Or.inr (Or.inr (BW.cells ?_)) | exact Wc_cap)) : p := h f
theorem absW {p : Prop} (h : p := by
  simp -implicitDefEqProofs (disch := omega) only [W_nil0, W_nil1, W_cap', Wc_nil0, Wc_nil1, Wc_cap', absF, absH, W_refl', W_any', W_agg, W_tup, Ws_cons, Ws_refl', Wc_refl', Wcs_cons, Wcs_nil, look, List.cons_append, List.nil_append, List.append_nil, List.length_cons, List.length_nil, Nat.zero_add, Nat.reduceAdd, AV.mv, AV.mvs, ABlk.mv, sig_new0, sig_newk, sig_lt, List.getElem?_cons_zero, List.getElem?_cons_succ, mvs_ints, mvs_bools, mvs_prs, mvs_append, cond_true, cond_false, beq_self_eq_true, Nat.reduceBEq, true_and, and_true, or_true, true_or, and_self, decide_true, Nat.add_zero, reduceCtorEq, false_or, or_false]
  repeat' (first | exact True.intro | exact Nat.add_lt_add_left (by decide) _ | exact Nat.lt_add_of_pos_right (by decide) | refine W_nils ?_ (Or.inr rfl) | refine W_nils ?_ (Or.inl rfl) | refine Wc_nils ?_ (Or.inr rfl) | refine Wc_nils ?_ (Or.inl rfl) | exact W_cap | rfl | refine And.intro ?_ ?_ | exact Or.inl rfl | exact Or.inr rfl | exact Or.inr (Or.inl rfl) | exact Or.inr (Or.inr BW.emp) | exact Or.inr BW.emp | exact BW.emp | exact Or.inr (Or.inr BW.pre) | exact Or.inr BW.pre | exact BW.pre | refine Or.inr (BW.cells ?_) | refine BW.cells ?_ | refine Or.inr (Or.inr (BW.cells ?_)) | exact Wc_cap)) : p := h
theorem absWf {p r : Prop} (f : r) (h : r → p := by
  intro hs
  simp -implicitDefEqProofs (disch := omega) only [hs, W_nil0, W_nil1, W_cap', Wc_nil0, Wc_nil1, Wc_cap', absF, absH, W_refl', W_any', W_agg, W_tup, Ws_cons, Ws_refl', Wc_refl', Wcs_cons, Wcs_nil, look, List.cons_append, List.nil_append, List.append_nil, List.length_cons, List.length_nil, Nat.zero_add, Nat.reduceAdd, AV.mv, AV.mvs, ABlk.mv, sig_new0, sig_newk, sig_lt, List.getElem?_cons_zero, List.getElem?_cons_succ, mvs_ints, mvs_bools, mvs_prs, mvs_append, cond_true, cond_false, beq_self_eq_true, Nat.reduceBEq, true_and, and_true, or_true, true_or, and_self, decide_true, Nat.add_zero, reduceCtorEq, false_or, or_false]
  repeat' (first | exact True.intro | exact Nat.add_lt_add_left (by decide) _ | exact Nat.lt_add_of_pos_right (by decide) | refine W_nils ?_ (Or.inr rfl) | refine W_nils ?_ (Or.inl rfl) | refine Wc_nils ?_ (Or.inr rfl) | refine Wc_nils ?_ (Or.inl rfl) | exact W_cap | rfl | refine And.intro ?_ ?_ | exact Or.inl rfl | exact Or.inr rfl | exact Or.inr (Or.inl rfl) | exact Or.inr (Or.inr BW.emp) | exact Or.inr BW.emp | exact BW.emp | exact Or.inr (Or.inr BW.pre) | exact Or.inr BW.pre | exact BW.pre | refine Or.inr (BW.cells ?_) | refine BW.cells ?_ | refine Or.inr (Or.inr (BW.cells ?_)) | exact Wc_cap)) : p := h f
theorem absR {p : Prop} (h : p := by
  simp -implicitDefEqProofs (disch := omega) only [List.length_append, List.length_cons, List.length_nil, capG_s, ownG_s, capG_0, ownG_0, prs_append, prs_cons, prs_nil, ints_app, ints_cons, ints_nil, bools_app, bools_cons, bools_nil, W_nil0, W_nil1, W_cap', Wc_nil0, Wc_nil1, Wc_cap', absF, absH, W_refl', W_any', W_agg, W_tup, Ws_cons, Ws_refl', Wc_refl', Wcs_cons, Wcs_nil, look, List.cons_append, List.nil_append, List.append_nil, List.length_cons, List.length_nil, Nat.zero_add, Nat.reduceAdd, AV.mv, AV.mvs, ABlk.mv, sig_new0, sig_newk, sig_lt, List.getElem?_cons_zero, List.getElem?_cons_succ, mvs_ints, mvs_bools, mvs_prs, mvs_append, cond_true, cond_false, beq_self_eq_true, Nat.reduceBEq, true_and, and_true, or_true, true_or, and_self, decide_true, Nat.add_zero, reduceCtorEq, false_or, or_false]
  repeat' (first | exact True.intro | exact Nat.add_lt_add_left (by decide) _ | exact Nat.lt_add_of_pos_right (by decide) | refine W_nils ?_ (Or.inr rfl) | refine W_nils ?_ (Or.inl rfl) | refine Wc_nils ?_ (Or.inr rfl) | refine Wc_nils ?_ (Or.inl rfl) | exact W_cap | rfl | refine And.intro ?_ ?_ | exact Or.inl rfl | exact Or.inr rfl | exact Or.inr (Or.inl rfl) | exact Or.inr (Or.inr BW.emp) | exact Or.inr BW.emp | exact BW.emp | exact Or.inr (Or.inr BW.pre) | exact Or.inr BW.pre | exact BW.pre | refine Or.inr (BW.cells ?_) | refine BW.cells ?_ | refine Or.inr (Or.inr (BW.cells ?_)) | exact Wc_cap)) : p := h
theorem absRf {p r : Prop} (f : r) (h : r → p := by
  intro hs
  simp -implicitDefEqProofs (disch := omega) only [hs, List.length_append, List.length_cons, List.length_nil, capG_s, ownG_s, capG_0, ownG_0, prs_append, prs_cons, prs_nil, ints_app, ints_cons, ints_nil, bools_app, bools_cons, bools_nil, W_nil0, W_nil1, W_cap', Wc_nil0, Wc_nil1, Wc_cap', absF, absH, W_refl', W_any', W_agg, W_tup, Ws_cons, Ws_refl', Wc_refl', Wcs_cons, Wcs_nil, look, List.cons_append, List.nil_append, List.append_nil, List.length_cons, List.length_nil, Nat.zero_add, Nat.reduceAdd, AV.mv, AV.mvs, ABlk.mv, sig_new0, sig_newk, sig_lt, List.getElem?_cons_zero, List.getElem?_cons_succ, mvs_ints, mvs_bools, mvs_prs, mvs_append, cond_true, cond_false, beq_self_eq_true, Nat.reduceBEq, true_and, and_true, or_true, true_or, and_self, decide_true, Nat.add_zero, reduceCtorEq, false_or, or_false]
  repeat' (first | exact True.intro | exact Nat.add_lt_add_left (by decide) _ | exact Nat.lt_add_of_pos_right (by decide) | refine W_nils ?_ (Or.inr rfl) | refine W_nils ?_ (Or.inl rfl) | refine Wc_nils ?_ (Or.inr rfl) | refine Wc_nils ?_ (Or.inl rfl) | exact W_cap | rfl | refine And.intro ?_ ?_ | exact Or.inl rfl | exact Or.inr rfl | exact Or.inr (Or.inl rfl) | exact Or.inr (Or.inr BW.emp) | exact Or.inr BW.emp | exact BW.emp | exact Or.inr (Or.inr BW.pre) | exact Or.inr BW.pre | exact BW.pre | refine Or.inr (BW.cells ?_) | refine BW.cells ?_ | refine Or.inr (Or.inr (BW.cells ?_)) | exact Wc_cap)) : p := h f
theorem try_mixed : Try.prog.follows .mixedOrders = true := by kernel_rfl
theorem tAgg2 : tAgg Try.prog 2 = some false := by kernel_rfl
theorem tSz2 : tSz Try.prog 2 = some 1 := by kernel_rfl
theorem tBytes2 : tBytes Try.prog 2 = some 8 := by kernel_rfl
theorem tZero2 : tZero Try.prog 2 = some [.int .i64 0] := by kernel_rfl
theorem tInt2 : tInt Try.prog 2 = some .i64 := by kernel_rfl
theorem tUnd2 : Try.prog.underlying 2 = some (.int .i64) := by kernel_rfl
theorem tAgg3 : tAgg Try.prog 3 = some false := by kernel_rfl
theorem tSz3 : tSz Try.prog 3 = some 1 := by kernel_rfl
theorem tBytes3 : tBytes Try.prog 3 = some 8 := by kernel_rfl
theorem tZero3 : tZero Try.prog 3 = some [.int .i64 0] := by kernel_rfl
theorem tInt3 : tInt Try.prog 3 = some .i64 := by kernel_rfl
theorem tUnd3 : Try.prog.underlying 3 = some (.int .i64) := by kernel_rfl
theorem tAgg4 : tAgg Try.prog 4 = some false := by kernel_rfl
theorem tSz4 : tSz Try.prog 4 = some 1 := by kernel_rfl
theorem tBytes4 : tBytes Try.prog 4 = some 1 := by kernel_rfl
theorem tZero4 : tZero Try.prog 4 = some [.bool false] := by kernel_rfl
theorem tIsBool4 : tIsBool Try.prog 4 = true := by kernel_rfl
theorem tAgg5 : tAgg Try.prog 5 = some false := by kernel_rfl
theorem tSz5 : tSz Try.prog 5 = some 1 := by kernel_rfl
theorem tBytes5 : tBytes Try.prog 5 = some 1 := by kernel_rfl
theorem tZero5 : tZero Try.prog 5 = some [.int .u8 0] := by kernel_rfl
theorem tInt5 : tInt Try.prog 5 = some .u8 := by kernel_rfl
theorem tUnd5 : Try.prog.underlying 5 = some (.int .u8) := by kernel_rfl
theorem tAgg7 : tAgg Try.prog 7 = some true := by kernel_rfl
theorem tSz7 : tSz Try.prog 7 = some 4 := by kernel_rfl
theorem tBytes7 : tBytes Try.prog 7 = some 24 := by kernel_rfl
theorem tZero7 : tZero Try.prog 7 = some [.int .i64 0, .int .i64 0, .bool false, .int .u8 0] := by kernel_rfl
theorem tPlaces7 : tPlaces Try.prog 7 = some [(0, 1), (1, 1), (2, 1), (3, 1)] := by kernel_rfl
theorem tFld7_0 : tFld Try.prog 7 0 = some (0, 2) := by kernel_rfl
theorem tFld7_1 : tFld Try.prog 7 1 = some (1, 3) := by kernel_rfl
theorem tFld7_2 : tFld Try.prog 7 2 = some (2, 4) := by kernel_rfl
theorem tFld7_3 : tFld Try.prog 7 3 = some (3, 6) := by kernel_rfl
theorem tGuard7 : Try.prog.eqGuardType Try.prog.depth 7 = false := by kernel_rfl
theorem tAgg9 : tAgg Try.prog 9 = some false := by kernel_rfl
theorem tSz9 : tSz Try.prog 9 = some 1 := by kernel_rfl
theorem tBytes9 : tBytes Try.prog 9 = some 16 := by kernel_rfl
theorem tZero9 : tZero Try.prog 9 = some [.str []] := by kernel_rfl
theorem tAgg12 : tAgg Try.prog 12 = some false := by kernel_rfl
theorem tSz12 : tSz Try.prog 12 = some 1 := by kernel_rfl
theorem tBytes12 : tBytes Try.prog 12 = some 8 := by kernel_rfl
theorem tZero12 : tZero Try.prog 12 = some [.int .u64 0] := by kernel_rfl
theorem tInt12 : tInt Try.prog 12 = some .u64 := by kernel_rfl
theorem tUnd12 : Try.prog.underlying 12 = some (.int .u64) := by kernel_rfl
theorem tAgg13 : tAgg Try.prog 13 = some true := by kernel_rfl
theorem tSz13 : tSz Try.prog 13 = some 2 := by kernel_rfl
theorem tBytes13 : tBytes Try.prog 13 = some 24 := by kernel_rfl
theorem tZero13 : tZero Try.prog 13 = some [.str [], .int .u64 0] := by kernel_rfl
theorem tPlaces13 : tPlaces Try.prog 13 = some [(0, 1), (1, 1)] := by kernel_rfl
theorem tFld13_0 : tFld Try.prog 13 0 = some (0, 9) := by kernel_rfl
theorem tFld13_1 : tFld Try.prog 13 1 = some (1, 12) := by kernel_rfl
theorem tGuard13 : Try.prog.eqGuardType Try.prog.depth 13 = false := by kernel_rfl
theorem tAgg17 : tAgg Try.prog 17 = some false := by kernel_rfl
theorem tSz17 : tSz Try.prog 17 = some 1 := by kernel_rfl
theorem tBytes17 : tBytes Try.prog 17 = some 8 := by kernel_rfl
theorem tZero17 : tZero Try.prog 17 = some [.ptr none] := by kernel_rfl
theorem tIsPtr17 : tIsPtr Try.prog 17 = true := by kernel_rfl
theorem tAgg18 : tAgg Try.prog 18 = some true := by kernel_rfl
theorem tSz18 : tSz Try.prog 18 = some 1 := by kernel_rfl
theorem tBytes18 : tBytes Try.prog 18 = some 8 := by kernel_rfl
theorem tZero18 : tZero Try.prog 18 = some [.ptr none] := by kernel_rfl
theorem tPlaces18 : tPlaces Try.prog 18 = some [(0, 1)] := by kernel_rfl
theorem tFld18_0 : tFld Try.prog 18 0 = some (0, 17) := by kernel_rfl
theorem tGuard18 : Try.prog.eqGuardType Try.prog.depth 18 = false := by kernel_rfl
theorem tAgg21 : tAgg Try.prog 21 = some false := by kernel_rfl
theorem tSz21 : tSz Try.prog 21 = some 1 := by kernel_rfl
theorem tBytes21 : tBytes Try.prog 21 = some 4 := by kernel_rfl
theorem tZero21 : tZero Try.prog 21 = some [.int .i32 0] := by kernel_rfl
theorem tInt21 : tInt Try.prog 21 = some .i32 := by kernel_rfl
theorem tUnd21 : Try.prog.underlying 21 = some (.int .i32) := by kernel_rfl
theorem tAgg22 : tAgg Try.prog 22 = some false := by kernel_rfl
theorem tSz22 : tSz Try.prog 22 = some 1 := by kernel_rfl
theorem tBytes22 : tBytes Try.prog 22 = some 24 := by kernel_rfl
theorem tZero22 : tZero Try.prog 22 = some [.sl none 0 (some 0)] := by kernel_rfl
theorem tElem22 : tElem Try.prog 22 = some 44 := by kernel_rfl
theorem tIsSlice22 : tIsSlice Try.prog 22 = true := by kernel_rfl
theorem tAgg24 : tAgg Try.prog 24 = some false := by kernel_rfl
theorem tSz24 : tSz Try.prog 24 = some 1 := by kernel_rfl
theorem tBytes24 : tBytes Try.prog 24 = some 24 := by kernel_rfl
theorem tZero24 : tZero Try.prog 24 = some [.sl none 0 (some 0)] := by kernel_rfl
theorem tElem24 : tElem Try.prog 24 = some 51 := by kernel_rfl
theorem tIsSlice24 : tIsSlice Try.prog 24 = true := by kernel_rfl
theorem tAgg25 : tAgg Try.prog 25 = some false := by kernel_rfl
theorem tSz25 : tSz Try.prog 25 = some 1 := by kernel_rfl
theorem tBytes25 : tBytes Try.prog 25 = some 8 := by kernel_rfl
theorem tZero25 : tZero Try.prog 25 = some [.int .i64 0] := by kernel_rfl
theorem tInt25 : tInt Try.prog 25 = some .i64 := by kernel_rfl
theorem tUnd25 : Try.prog.underlying 25 = some (.int .i64) := by kernel_rfl
theorem tAgg41 : tAgg Try.prog 41 = some true := by kernel_rfl
theorem tSz41 : tSz Try.prog 41 = some 2 := by kernel_rfl
theorem tBytes41 : tBytes Try.prog 41 = some 16 := by kernel_rfl
theorem tZero41 : tZero Try.prog 41 = some [.int .i64 0, .int .i64 0] := by kernel_rfl
theorem tPlaces41 : tPlaces Try.prog 41 = some [(0, 1), (1, 1)] := by kernel_rfl
theorem tFld41_0 : tFld Try.prog 41 0 = some (0, 3) := by kernel_rfl
theorem tFld41_1 : tFld Try.prog 41 1 = some (1, 3) := by kernel_rfl
theorem tGuard41 : Try.prog.eqGuardType Try.prog.depth 41 = false := by kernel_rfl
theorem tEq41 (a0 a1 b0 b1 : Int) : aEq Try.prog 20 41 [.int .i64 a0, .int .i64 a1] [.int .i64 b0, .int .i64 b1] = some ((a0 == b0) && ((a1 == b1) && true)) := by kernel_rfl
theorem tAgg42 : tAgg Try.prog 42 = some true := by kernel_rfl
theorem tSz42 : tSz Try.prog 42 = some 2 := by kernel_rfl
theorem tBytes42 : tBytes Try.prog 42 = some 16 := by kernel_rfl
theorem tZero42 : tZero Try.prog 42 = some [.int .i64 0, .int .i64 0] := by kernel_rfl
theorem tPlaces42 : tPlaces Try.prog 42 = some [(0, 1), (1, 1)] := by kernel_rfl
theorem tFld42_0 : tFld Try.prog 42 0 = some (0, 3) := by kernel_rfl
theorem tFld42_1 : tFld Try.prog 42 1 = some (1, 3) := by kernel_rfl
theorem tGuard42 : Try.prog.eqGuardType Try.prog.depth 42 = false := by kernel_rfl
theorem tEq42 (a0 a1 b0 b1 : Int) : aEq Try.prog 20 42 [.int .i64 a0, .int .i64 a1] [.int .i64 b0, .int .i64 b1] = some ((a0 == b0) && ((a1 == b1) && true)) := by kernel_rfl
theorem tAgg43 : tAgg Try.prog 43 = some true := by kernel_rfl
theorem tSz43 : tSz Try.prog 43 = some 4 := by kernel_rfl
theorem tBytes43 : tBytes Try.prog 43 = some 32 := by kernel_rfl
theorem tZero43 : tZero Try.prog 43 = some [.int .i64 0, .int .i64 0, .int .i64 0, .int .i64 0] := by kernel_rfl
theorem tPlaces43 : tPlaces Try.prog 43 = some [(0, 2), (2, 1), (3, 1)] := by kernel_rfl
theorem tFld43_0 : tFld Try.prog 43 0 = some (0, 42) := by kernel_rfl
theorem tFld43_1 : tFld Try.prog 43 1 = some (2, 3) := by kernel_rfl
theorem tFld43_2 : tFld Try.prog 43 2 = some (3, 3) := by kernel_rfl
theorem tGuard43 : Try.prog.eqGuardType Try.prog.depth 43 = false := by kernel_rfl
theorem tEq43 (a0 a1 a2 a3 b0 b1 b2 b3 : Int) : aEq Try.prog 20 43 [.int .i64 a0, .int .i64 a1, .int .i64 a2, .int .i64 a3] [.int .i64 b0, .int .i64 b1, .int .i64 b2, .int .i64 b3] = some (((a0 == b0) && ((a1 == b1) && true)) && ((a2 == b2) && ((a3 == b3) && true))) := by kernel_rfl
theorem tAgg44 : tAgg Try.prog 44 = some true := by kernel_rfl
theorem tSz44 : tSz Try.prog 44 = some 4 := by kernel_rfl
theorem tBytes44 : tBytes Try.prog 44 = some 32 := by kernel_rfl
theorem tZero44 : tZero Try.prog 44 = some [.int .i64 0, .int .i64 0, .int .i64 0, .int .i64 0] := by kernel_rfl
theorem tPlaces44 : tPlaces Try.prog 44 = some [(0, 2), (2, 1), (3, 1)] := by kernel_rfl
theorem tFld44_0 : tFld Try.prog 44 0 = some (0, 42) := by kernel_rfl
theorem tFld44_1 : tFld Try.prog 44 1 = some (2, 3) := by kernel_rfl
theorem tFld44_2 : tFld Try.prog 44 2 = some (3, 3) := by kernel_rfl
theorem tGuard44 : Try.prog.eqGuardType Try.prog.depth 44 = false := by kernel_rfl
theorem tEq44 (a0 a1 a2 a3 b0 b1 b2 b3 : Int) : aEq Try.prog 20 44 [.int .i64 a0, .int .i64 a1, .int .i64 a2, .int .i64 a3] [.int .i64 b0, .int .i64 b1, .int .i64 b2, .int .i64 b3] = some (((a0 == b0) && ((a1 == b1) && true)) && ((a2 == b2) && ((a3 == b3) && true))) := by kernel_rfl
theorem tAgg49 : tAgg Try.prog 49 = some false := by kernel_rfl
theorem tSz49 : tSz Try.prog 49 = some 1 := by kernel_rfl
theorem tBytes49 : tBytes Try.prog 49 = some 24 := by kernel_rfl
theorem tZero49 : tZero Try.prog 49 = some [.sl none 0 (some 0)] := by kernel_rfl
theorem tElem49 : tElem Try.prog 49 = some 5 := by kernel_rfl
theorem tIsSlice49 : tIsSlice Try.prog 49 = true := by kernel_rfl
theorem tAgg50 : tAgg Try.prog 50 = some true := by kernel_rfl
theorem tSz50 : tSz Try.prog 50 = some 3 := by kernel_rfl
theorem tBytes50 : tBytes Try.prog 50 = some 40 := by kernel_rfl
theorem tZero50 : tZero Try.prog 50 = some [.int .i64 0, .int .i64 0, .sl none 0 (some 0)] := by kernel_rfl
theorem tPlaces50 : tPlaces Try.prog 50 = some [(0, 1), (1, 1), (2, 1)] := by kernel_rfl
theorem tFld50_0 : tFld Try.prog 50 0 = some (0, 3) := by kernel_rfl
theorem tFld50_1 : tFld Try.prog 50 1 = some (1, 3) := by kernel_rfl
theorem tFld50_2 : tFld Try.prog 50 2 = some (2, 49) := by kernel_rfl
theorem tGuard50 : Try.prog.eqGuardType Try.prog.depth 50 = false := by kernel_rfl
theorem tAgg51 : tAgg Try.prog 51 = some true := by kernel_rfl
theorem tSz51 : tSz Try.prog 51 = some 3 := by kernel_rfl
theorem tBytes51 : tBytes Try.prog 51 = some 40 := by kernel_rfl
theorem tZero51 : tZero Try.prog 51 = some [.int .i64 0, .int .i64 0, .sl none 0 (some 0)] := by kernel_rfl
theorem tPlaces51 : tPlaces Try.prog 51 = some [(0, 1), (1, 1), (2, 1)] := by kernel_rfl
theorem tFld51_0 : tFld Try.prog 51 0 = some (0, 3) := by kernel_rfl
theorem tFld51_1 : tFld Try.prog 51 1 = some (1, 3) := by kernel_rfl
theorem tFld51_2 : tFld Try.prog 51 2 = some (2, 49) := by kernel_rfl
theorem tGuard51 : Try.prog.eqGuardType Try.prog.depth 51 = false := by kernel_rfl
theorem tAgg53 : tAgg Try.prog 53 = some false := by kernel_rfl
theorem tSz53 : tSz Try.prog 53 = some 1 := by kernel_rfl
theorem tBytes53 : tBytes Try.prog 53 = some 24 := by kernel_rfl
theorem tZero53 : tZero Try.prog 53 = some [.sl none 0 (some 0)] := by kernel_rfl
theorem tElem53 : tElem Try.prog 53 = some 42 := by kernel_rfl
theorem tIsSlice53 : tIsSlice Try.prog 53 = true := by kernel_rfl
theorem tAgg66 : tAgg Try.prog 66 = some false := by kernel_rfl
theorem tSz66 : tSz Try.prog 66 = some 1 := by kernel_rfl
theorem tBytes66 : tBytes Try.prog 66 = some 8 := by kernel_rfl
theorem tZero66 : tZero Try.prog 66 = some [.mp none] := by kernel_rfl
theorem tMap66 : tMap Try.prog 66 = some (42, 44) := by kernel_rfl
theorem tElem66 : tElem Try.prog 66 = none := by kernel_rfl
theorem tZeroOk66_ : tZeroOk Try.prog 44 = true := by kernel_rfl
theorem tAgg68 : tAgg Try.prog 68 = some false := by kernel_rfl
theorem tSz68 : tSz Try.prog 68 = some 1 := by kernel_rfl
theorem tBytes68 : tBytes Try.prog 68 = some 8 := by kernel_rfl
theorem tZero68 : tZero Try.prog 68 = some [.int .u64 0] := by kernel_rfl
theorem tInt68 : tInt Try.prog 68 = some .u64 := by kernel_rfl
theorem tUnd68 : Try.prog.underlying 68 = some (.int .u64) := by kernel_rfl
theorem tAgg72 : tAgg Try.prog 72 = some false := by kernel_rfl
theorem tSz72 : tSz Try.prog 72 = some 1 := by kernel_rfl
theorem tBytes72 : tBytes Try.prog 72 = some 8 := by kernel_rfl
theorem tZero72 : tZero Try.prog 72 = some [.mp none] := by kernel_rfl
theorem tMap72 : tMap Try.prog 72 = some (42, 22) := by kernel_rfl
theorem tElem72 : tElem Try.prog 72 = none := by kernel_rfl
theorem tZeroOk72_ : tZeroOk Try.prog 22 = true := by kernel_rfl
theorem tAgg77 : tAgg Try.prog 77 = some false := by kernel_rfl
theorem tSz77 : tSz Try.prog 77 = some 1 := by kernel_rfl
theorem tBytes77 : tBytes Try.prog 77 = some 8 := by kernel_rfl
theorem tZero77 : tZero Try.prog 77 = some [.int .u64 0] := by kernel_rfl
theorem tInt77 : tInt Try.prog 77 = some .u64 := by kernel_rfl
theorem tUnd77 : Try.prog.underlying 77 = some (.int .u64) := by kernel_rfl
theorem tAgg93 : tAgg Try.prog 93 = some false := by kernel_rfl
theorem tSz93 : tSz Try.prog 93 = some 1 := by kernel_rfl
theorem tBytes93 : tBytes Try.prog 93 = some 24 := by kernel_rfl
theorem tZero93 : tZero Try.prog 93 = some [.sl none 0 (some 0)] := by kernel_rfl
theorem tElem93 : tElem Try.prog 93 = some 3 := by kernel_rfl
theorem tIsSlice93 : tIsSlice Try.prog 93 = true := by kernel_rfl
theorem tAgg97 : tAgg Try.prog 97 = some false := by kernel_rfl
theorem tSz97 : tSz Try.prog 97 = some 1 := by kernel_rfl
theorem tBytes97 : tBytes Try.prog 97 = some 8 := by kernel_rfl
theorem tZero97 : tZero Try.prog 97 = some [.int .i64 0] := by kernel_rfl
theorem tInt97 : tInt Try.prog 97 = some .i64 := by kernel_rfl
theorem tUnd97 : Try.prog.underlying 97 = some (.int .i64) := by kernel_rfl
theorem tAgg104 : tAgg Try.prog 104 = some false := by kernel_rfl
theorem tSz104 : tSz Try.prog 104 = some 1 := by kernel_rfl
theorem tBytes104 : tBytes Try.prog 104 = some 4 := by kernel_rfl
theorem tZero104 : tZero Try.prog 104 = some [.int .u32 0] := by kernel_rfl
theorem tInt104 : tInt Try.prog 104 = some .u32 := by kernel_rfl
theorem tUnd104 : Try.prog.underlying 104 = some (.int .u32) := by kernel_rfl
theorem tAgg106 : tAgg Try.prog 106 = some false := by kernel_rfl
theorem tSz106 : tSz Try.prog 106 = some 1 := by kernel_rfl
theorem tBytes106 : tBytes Try.prog 106 = some 8 := by kernel_rfl
theorem tZero106 : tZero Try.prog 106 = some [.mp none] := by kernel_rfl
theorem tMap106 : tMap Try.prog 106 = some (42, 44) := by kernel_rfl
theorem tElem106 : tElem Try.prog 106 = none := by kernel_rfl
theorem tZeroOk106_ : tZeroOk Try.prog 44 = true := by kernel_rfl
theorem tAgg115 : tAgg Try.prog 115 = some false := by kernel_rfl
theorem tSz115 : tSz Try.prog 115 = some 1 := by kernel_rfl
theorem tBytes115 : tBytes Try.prog 115 = some 8 := by kernel_rfl
theorem tZero115 : tZero Try.prog 115 = some [.int .u64 0] := by kernel_rfl
theorem tInt115 : tInt Try.prog 115 = some .u64 := by kernel_rfl
theorem tUnd115 : Try.prog.underlying 115 = some (.int .u64) := by kernel_rfl
theorem tAgg119 : tAgg Try.prog 119 = some false := by kernel_rfl
theorem tSz119 : tSz Try.prog 119 = some 1 := by kernel_rfl
theorem tBytes119 : tBytes Try.prog 119 = some 8 := by kernel_rfl
theorem tZero119 : tZero Try.prog 119 = some [.ptr none] := by kernel_rfl
theorem tIsPtr119 : tIsPtr Try.prog 119 = true := by kernel_rfl
theorem tAgg129 : tAgg Try.prog 129 = some false := by kernel_rfl
theorem tSz129 : tSz Try.prog 129 = some 1 := by kernel_rfl
theorem tBytes129 : tBytes Try.prog 129 = some 8 := by kernel_rfl
theorem tZero129 : tZero Try.prog 129 = some [.ptr none] := by kernel_rfl
theorem tIsPtr129 : tIsPtr Try.prog 129 = true := by kernel_rfl
theorem tAgg134 : tAgg Try.prog 134 = some true := by kernel_rfl
theorem tSz134 : tSz Try.prog 134 = some 4 := by kernel_rfl
theorem tBytes134 : tBytes Try.prog 134 = some 40 := by kernel_rfl
theorem tZero134 : tZero Try.prog 134 = some [.ptr none, .ptr none, .ptr none, .str []] := by kernel_rfl
theorem tPlaces134 : tPlaces Try.prog 134 = some [(0, 1), (1, 1), (2, 1), (3, 1)] := by kernel_rfl
theorem tFld134_0 : tFld Try.prog 134 0 = some (0, 17) := by kernel_rfl
theorem tFld134_1 : tFld Try.prog 134 1 = some (1, 17) := by kernel_rfl
theorem tFld134_2 : tFld Try.prog 134 2 = some (2, 17) := by kernel_rfl
theorem tFld134_3 : tFld Try.prog 134 3 = some (3, 9) := by kernel_rfl
theorem tGuard134 : Try.prog.eqGuardType Try.prog.depth 134 = false := by kernel_rfl
theorem tAgg143 : tAgg Try.prog 143 = some false := by kernel_rfl
theorem tSz143 : tSz Try.prog 143 = some 1 := by kernel_rfl
theorem tBytes143 : tBytes Try.prog 143 = some 8 := by kernel_rfl
theorem tZero143 : tZero Try.prog 143 = some [.ptr none] := by kernel_rfl
theorem tIsPtr143 : tIsPtr Try.prog 143 = true := by kernel_rfl
theorem tAgg146 : tAgg Try.prog 146 = some true := by kernel_rfl
theorem tSz146 : tSz Try.prog 146 = some 11 := by kernel_rfl
theorem tBytes146 : tBytes Try.prog 146 = some 48 := by kernel_rfl
theorem tZero146 : tZero Try.prog 146 = some [.int .u64 0, .int .u64 0, .int .u32 0, .int .u8 0, .int .u8 0, .int .u8 0, .int .u8 0, .nilfn, .ptr none, .int .i32 0, .int .i32 0] := by kernel_rfl
theorem tPlaces146 : tPlaces Try.prog 146 = some [(0, 1), (1, 1), (2, 1), (3, 1), (4, 1), (5, 1), (6, 1), (7, 1), (8, 1), (9, 1), (10, 1)] := by kernel_rfl
theorem tFld146_0 : tFld Try.prog 146 0 = some (0, 12) := by kernel_rfl
theorem tFld146_1 : tFld Try.prog 146 1 = some (1, 12) := by kernel_rfl
theorem tFld146_2 : tFld Try.prog 146 2 = some (2, 104) := by kernel_rfl
theorem tFld146_3 : tFld Try.prog 146 3 = some (3, 140) := by kernel_rfl
theorem tFld146_4 : tFld Try.prog 146 4 = some (4, 5) := by kernel_rfl
theorem tFld146_5 : tFld Try.prog 146 5 = some (5, 5) := by kernel_rfl
theorem tFld146_6 : tFld Try.prog 146 6 = some (6, 141) := by kernel_rfl
theorem tFld146_7 : tFld Try.prog 146 7 = some (7, 142) := by kernel_rfl
theorem tFld146_8 : tFld Try.prog 146 8 = some (8, 143) := by kernel_rfl
theorem tFld146_9 : tFld Try.prog 146 9 = some (9, 144) := by kernel_rfl
theorem tFld146_10 : tFld Try.prog 146 10 = some (10, 145) := by kernel_rfl
theorem tGuard146 : Try.prog.eqGuardType Try.prog.depth 146 = false := by kernel_rfl
theorem tyset0 : type_of% (And.intro (@tAgg2) <| And.intro (@tSz2) <| And.intro (@tBytes2) <| And.intro (@tZero2) <| And.intro (@tInt2) <| And.intro (@tUnd2) <| And.intro (@tAgg3) <| And.intro (@tSz3) <| And.intro (@tBytes3) <| And.intro (@tZero3) <| And.intro (@tInt3) <| And.intro (@tUnd3) <| And.intro (@tAgg4) <| And.intro (@tSz4) <| And.intro (@tBytes4) <| And.intro (@tZero4) <| And.intro (@tIsBool4) <| And.intro (@tAgg5) <| And.intro (@tSz5) <| And.intro (@tBytes5) <| And.intro (@tZero5) <| And.intro (@tInt5) <| And.intro (@tUnd5) <| (@tAgg7)) :=
  And.intro (@tAgg2) <| And.intro (@tSz2) <| And.intro (@tBytes2) <| And.intro (@tZero2) <| And.intro (@tInt2) <| And.intro (@tUnd2) <| And.intro (@tAgg3) <| And.intro (@tSz3) <| And.intro (@tBytes3) <| And.intro (@tZero3) <| And.intro (@tInt3) <| And.intro (@tUnd3) <| And.intro (@tAgg4) <| And.intro (@tSz4) <| And.intro (@tBytes4) <| And.intro (@tZero4) <| And.intro (@tIsBool4) <| And.intro (@tAgg5) <| And.intro (@tSz5) <| And.intro (@tBytes5) <| And.intro (@tZero5) <| And.intro (@tInt5) <| And.intro (@tUnd5) <| (@tAgg7)
theorem tyset1 : type_of% (And.intro (@tSz7) <| And.intro (@tBytes7) <| And.intro (@tZero7) <| And.intro (@tPlaces7) <| And.intro (@tFld7_0) <| And.intro (@tFld7_1) <| And.intro (@tFld7_2) <| And.intro (@tFld7_3) <| And.intro (@tGuard7) <| And.intro (@tAgg9) <| And.intro (@tSz9) <| And.intro (@tBytes9) <| And.intro (@tZero9) <| And.intro (@tAgg12) <| And.intro (@tSz12) <| And.intro (@tBytes12) <| And.intro (@tZero12) <| And.intro (@tInt12) <| And.intro (@tUnd12) <| And.intro (@tAgg13) <| And.intro (@tSz13) <| And.intro (@tBytes13) <| And.intro (@tZero13) <| (@tPlaces13)) :=
  And.intro (@tSz7) <| And.intro (@tBytes7) <| And.intro (@tZero7) <| And.intro (@tPlaces7) <| And.intro (@tFld7_0) <| And.intro (@tFld7_1) <| And.intro (@tFld7_2) <| And.intro (@tFld7_3) <| And.intro (@tGuard7) <| And.intro (@tAgg9) <| And.intro (@tSz9) <| And.intro (@tBytes9) <| And.intro (@tZero9) <| And.intro (@tAgg12) <| And.intro (@tSz12) <| And.intro (@tBytes12) <| And.intro (@tZero12) <| And.intro (@tInt12) <| And.intro (@tUnd12) <| And.intro (@tAgg13) <| And.intro (@tSz13) <| And.intro (@tBytes13) <| And.intro (@tZero13) <| (@tPlaces13)
theorem tyset2 : type_of% (And.intro (@tFld13_0) <| And.intro (@tFld13_1) <| And.intro (@tGuard13) <| And.intro (@tAgg17) <| And.intro (@tSz17) <| And.intro (@tBytes17) <| And.intro (@tZero17) <| And.intro (@tIsPtr17) <| And.intro (@tAgg18) <| And.intro (@tSz18) <| And.intro (@tBytes18) <| And.intro (@tZero18) <| And.intro (@tPlaces18) <| And.intro (@tFld18_0) <| And.intro (@tGuard18) <| And.intro (@tAgg21) <| And.intro (@tSz21) <| And.intro (@tBytes21) <| And.intro (@tZero21) <| And.intro (@tInt21) <| And.intro (@tUnd21) <| And.intro (@tAgg22) <| And.intro (@tSz22) <| (@tBytes22)) :=
  And.intro (@tFld13_0) <| And.intro (@tFld13_1) <| And.intro (@tGuard13) <| And.intro (@tAgg17) <| And.intro (@tSz17) <| And.intro (@tBytes17) <| And.intro (@tZero17) <| And.intro (@tIsPtr17) <| And.intro (@tAgg18) <| And.intro (@tSz18) <| And.intro (@tBytes18) <| And.intro (@tZero18) <| And.intro (@tPlaces18) <| And.intro (@tFld18_0) <| And.intro (@tGuard18) <| And.intro (@tAgg21) <| And.intro (@tSz21) <| And.intro (@tBytes21) <| And.intro (@tZero21) <| And.intro (@tInt21) <| And.intro (@tUnd21) <| And.intro (@tAgg22) <| And.intro (@tSz22) <| (@tBytes22)
theorem tyset3 : type_of% (And.intro (@tZero22) <| And.intro (@tElem22) <| And.intro (@tIsSlice22) <| And.intro (@tAgg24) <| And.intro (@tSz24) <| And.intro (@tBytes24) <| And.intro (@tZero24) <| And.intro (@tElem24) <| And.intro (@tIsSlice24) <| And.intro (@tAgg25) <| And.intro (@tSz25) <| And.intro (@tBytes25) <| And.intro (@tZero25) <| And.intro (@tInt25) <| And.intro (@tUnd25) <| And.intro (@tAgg41) <| And.intro (@tSz41) <| And.intro (@tBytes41) <| And.intro (@tZero41) <| And.intro (@tPlaces41) <| And.intro (@tFld41_0) <| And.intro (@tFld41_1) <| And.intro (@tGuard41) <| (@tEq41)) :=
  And.intro (@tZero22) <| And.intro (@tElem22) <| And.intro (@tIsSlice22) <| And.intro (@tAgg24) <| And.intro (@tSz24) <| And.intro (@tBytes24) <| And.intro (@tZero24) <| And.intro (@tElem24) <| And.intro (@tIsSlice24) <| And.intro (@tAgg25) <| And.intro (@tSz25) <| And.intro (@tBytes25) <| And.intro (@tZero25) <| And.intro (@tInt25) <| And.intro (@tUnd25) <| And.intro (@tAgg41) <| And.intro (@tSz41) <| And.intro (@tBytes41) <| And.intro (@tZero41) <| And.intro (@tPlaces41) <| And.intro (@tFld41_0) <| And.intro (@tFld41_1) <| And.intro (@tGuard41) <| (@tEq41)
theorem tyset4 : type_of% (And.intro (@tAgg42) <| And.intro (@tSz42) <| And.intro (@tBytes42) <| And.intro (@tZero42) <| And.intro (@tPlaces42) <| And.intro (@tFld42_0) <| And.intro (@tFld42_1) <| And.intro (@tGuard42) <| And.intro (@tEq42) <| And.intro (@tAgg43) <| And.intro (@tSz43) <| And.intro (@tBytes43) <| And.intro (@tZero43) <| And.intro (@tPlaces43) <| And.intro (@tFld43_0) <| And.intro (@tFld43_1) <| And.intro (@tFld43_2) <| And.intro (@tGuard43) <| And.intro (@tEq43) <| And.intro (@tAgg44) <| And.intro (@tSz44) <| And.intro (@tBytes44) <| And.intro (@tZero44) <| (@tPlaces44)) :=
  And.intro (@tAgg42) <| And.intro (@tSz42) <| And.intro (@tBytes42) <| And.intro (@tZero42) <| And.intro (@tPlaces42) <| And.intro (@tFld42_0) <| And.intro (@tFld42_1) <| And.intro (@tGuard42) <| And.intro (@tEq42) <| And.intro (@tAgg43) <| And.intro (@tSz43) <| And.intro (@tBytes43) <| And.intro (@tZero43) <| And.intro (@tPlaces43) <| And.intro (@tFld43_0) <| And.intro (@tFld43_1) <| And.intro (@tFld43_2) <| And.intro (@tGuard43) <| And.intro (@tEq43) <| And.intro (@tAgg44) <| And.intro (@tSz44) <| And.intro (@tBytes44) <| And.intro (@tZero44) <| (@tPlaces44)
theorem tyset5 : type_of% (And.intro (@tFld44_0) <| And.intro (@tFld44_1) <| And.intro (@tFld44_2) <| And.intro (@tGuard44) <| And.intro (@tEq44) <| And.intro (@tAgg49) <| And.intro (@tSz49) <| And.intro (@tBytes49) <| And.intro (@tZero49) <| And.intro (@tElem49) <| And.intro (@tIsSlice49) <| And.intro (@tAgg50) <| And.intro (@tSz50) <| And.intro (@tBytes50) <| And.intro (@tZero50) <| And.intro (@tPlaces50) <| And.intro (@tFld50_0) <| And.intro (@tFld50_1) <| And.intro (@tFld50_2) <| And.intro (@tGuard50) <| And.intro (@tAgg51) <| And.intro (@tSz51) <| And.intro (@tBytes51) <| (@tZero51)) :=
  And.intro (@tFld44_0) <| And.intro (@tFld44_1) <| And.intro (@tFld44_2) <| And.intro (@tGuard44) <| And.intro (@tEq44) <| And.intro (@tAgg49) <| And.intro (@tSz49) <| And.intro (@tBytes49) <| And.intro (@tZero49) <| And.intro (@tElem49) <| And.intro (@tIsSlice49) <| And.intro (@tAgg50) <| And.intro (@tSz50) <| And.intro (@tBytes50) <| And.intro (@tZero50) <| And.intro (@tPlaces50) <| And.intro (@tFld50_0) <| And.intro (@tFld50_1) <| And.intro (@tFld50_2) <| And.intro (@tGuard50) <| And.intro (@tAgg51) <| And.intro (@tSz51) <| And.intro (@tBytes51) <| (@tZero51)
theorem tyset6 : type_of% (And.intro (@tPlaces51) <| And.intro (@tFld51_0) <| And.intro (@tFld51_1) <| And.intro (@tFld51_2) <| And.intro (@tGuard51) <| And.intro (@tAgg53) <| And.intro (@tSz53) <| And.intro (@tBytes53) <| And.intro (@tZero53) <| And.intro (@tElem53) <| And.intro (@tIsSlice53) <| And.intro (@tAgg66) <| And.intro (@tSz66) <| And.intro (@tBytes66) <| And.intro (@tZero66) <| And.intro (@tMap66) <| And.intro (@tElem66) <| And.intro (@tZeroOk66_) <| And.intro (@tAgg68) <| And.intro (@tSz68) <| And.intro (@tBytes68) <| And.intro (@tZero68) <| And.intro (@tInt68) <| (@tUnd68)) :=
  And.intro (@tPlaces51) <| And.intro (@tFld51_0) <| And.intro (@tFld51_1) <| And.intro (@tFld51_2) <| And.intro (@tGuard51) <| And.intro (@tAgg53) <| And.intro (@tSz53) <| And.intro (@tBytes53) <| And.intro (@tZero53) <| And.intro (@tElem53) <| And.intro (@tIsSlice53) <| And.intro (@tAgg66) <| And.intro (@tSz66) <| And.intro (@tBytes66) <| And.intro (@tZero66) <| And.intro (@tMap66) <| And.intro (@tElem66) <| And.intro (@tZeroOk66_) <| And.intro (@tAgg68) <| And.intro (@tSz68) <| And.intro (@tBytes68) <| And.intro (@tZero68) <| And.intro (@tInt68) <| (@tUnd68)
theorem tyset7 : type_of% (And.intro (@tAgg72) <| And.intro (@tSz72) <| And.intro (@tBytes72) <| And.intro (@tZero72) <| And.intro (@tMap72) <| And.intro (@tElem72) <| And.intro (@tZeroOk72_) <| And.intro (@tAgg77) <| And.intro (@tSz77) <| And.intro (@tBytes77) <| And.intro (@tZero77) <| And.intro (@tInt77) <| And.intro (@tUnd77) <| And.intro (@tAgg93) <| And.intro (@tSz93) <| And.intro (@tBytes93) <| And.intro (@tZero93) <| And.intro (@tElem93) <| And.intro (@tIsSlice93) <| And.intro (@tAgg97) <| And.intro (@tSz97) <| And.intro (@tBytes97) <| And.intro (@tZero97) <| (@tInt97)) :=
  And.intro (@tAgg72) <| And.intro (@tSz72) <| And.intro (@tBytes72) <| And.intro (@tZero72) <| And.intro (@tMap72) <| And.intro (@tElem72) <| And.intro (@tZeroOk72_) <| And.intro (@tAgg77) <| And.intro (@tSz77) <| And.intro (@tBytes77) <| And.intro (@tZero77) <| And.intro (@tInt77) <| And.intro (@tUnd77) <| And.intro (@tAgg93) <| And.intro (@tSz93) <| And.intro (@tBytes93) <| And.intro (@tZero93) <| And.intro (@tElem93) <| And.intro (@tIsSlice93) <| And.intro (@tAgg97) <| And.intro (@tSz97) <| And.intro (@tBytes97) <| And.intro (@tZero97) <| (@tInt97)
theorem tyset8 : type_of% (And.intro (@tUnd97) <| And.intro (@tAgg104) <| And.intro (@tSz104) <| And.intro (@tBytes104) <| And.intro (@tZero104) <| And.intro (@tInt104) <| And.intro (@tUnd104) <| And.intro (@tAgg106) <| And.intro (@tSz106) <| And.intro (@tBytes106) <| And.intro (@tZero106) <| And.intro (@tMap106) <| And.intro (@tElem106) <| And.intro (@tZeroOk106_) <| And.intro (@tAgg115) <| And.intro (@tSz115) <| And.intro (@tBytes115) <| And.intro (@tZero115) <| And.intro (@tInt115) <| And.intro (@tUnd115) <| And.intro (@tAgg119) <| And.intro (@tSz119) <| And.intro (@tBytes119) <| (@tZero119)) :=
  And.intro (@tUnd97) <| And.intro (@tAgg104) <| And.intro (@tSz104) <| And.intro (@tBytes104) <| And.intro (@tZero104) <| And.intro (@tInt104) <| And.intro (@tUnd104) <| And.intro (@tAgg106) <| And.intro (@tSz106) <| And.intro (@tBytes106) <| And.intro (@tZero106) <| And.intro (@tMap106) <| And.intro (@tElem106) <| And.intro (@tZeroOk106_) <| And.intro (@tAgg115) <| And.intro (@tSz115) <| And.intro (@tBytes115) <| And.intro (@tZero115) <| And.intro (@tInt115) <| And.intro (@tUnd115) <| And.intro (@tAgg119) <| And.intro (@tSz119) <| And.intro (@tBytes119) <| (@tZero119)
theorem tyset9 : type_of% (And.intro (@tIsPtr119) <| And.intro (@tAgg129) <| And.intro (@tSz129) <| And.intro (@tBytes129) <| And.intro (@tZero129) <| And.intro (@tIsPtr129) <| And.intro (@tAgg134) <| And.intro (@tSz134) <| And.intro (@tBytes134) <| And.intro (@tZero134) <| And.intro (@tPlaces134) <| And.intro (@tFld134_0) <| And.intro (@tFld134_1) <| And.intro (@tFld134_2) <| And.intro (@tFld134_3) <| And.intro (@tGuard134) <| And.intro (@tAgg143) <| And.intro (@tSz143) <| And.intro (@tBytes143) <| And.intro (@tZero143) <| And.intro (@tIsPtr143) <| And.intro (@tAgg146) <| And.intro (@tSz146) <| (@tBytes146)) :=
  And.intro (@tIsPtr119) <| And.intro (@tAgg129) <| And.intro (@tSz129) <| And.intro (@tBytes129) <| And.intro (@tZero129) <| And.intro (@tIsPtr129) <| And.intro (@tAgg134) <| And.intro (@tSz134) <| And.intro (@tBytes134) <| And.intro (@tZero134) <| And.intro (@tPlaces134) <| And.intro (@tFld134_0) <| And.intro (@tFld134_1) <| And.intro (@tFld134_2) <| And.intro (@tFld134_3) <| And.intro (@tGuard134) <| And.intro (@tAgg143) <| And.intro (@tSz143) <| And.intro (@tBytes143) <| And.intro (@tZero143) <| And.intro (@tIsPtr143) <| And.intro (@tAgg146) <| And.intro (@tSz146) <| (@tBytes146)
theorem tyset10 : type_of% (And.intro (@tZero146) <| And.intro (@tPlaces146) <| And.intro (@tFld146_0) <| And.intro (@tFld146_1) <| And.intro (@tFld146_2) <| And.intro (@tFld146_3) <| And.intro (@tFld146_4) <| And.intro (@tFld146_5) <| And.intro (@tFld146_6) <| And.intro (@tFld146_7) <| And.intro (@tFld146_8) <| And.intro (@tFld146_9) <| And.intro (@tFld146_10) <| (@tGuard146)) :=
  And.intro (@tZero146) <| And.intro (@tPlaces146) <| And.intro (@tFld146_0) <| And.intro (@tFld146_1) <| And.intro (@tFld146_2) <| And.intro (@tFld146_3) <| And.intro (@tFld146_4) <| And.intro (@tFld146_5) <| And.intro (@tFld146_6) <| And.intro (@tFld146_7) <| And.intro (@tFld146_8) <| And.intro (@tFld146_9) <| And.intro (@tFld146_10) <| (@tGuard146)
theorem tyset : type_of% (And.intro (@tyset0) <| And.intro (@tyset1) <| And.intro (@tyset2) <| And.intro (@tyset3) <| And.intro (@tyset4) <| And.intro (@tyset5) <| And.intro (@tyset6) <| And.intro (@tyset7) <| And.intro (@tyset8) <| And.intro (@tyset9) <| (@tyset10)) :=
  And.intro (@tyset0) <| And.intro (@tyset1) <| And.intro (@tyset2) <| And.intro (@tyset3) <| And.intro (@tyset4) <| And.intro (@tyset5) <| And.intro (@tyset6) <| And.intro (@tyset7) <| And.intro (@tyset8) <| And.intro (@tyset9) <| (@tyset10)

theorem own : ownKnob Try.prog.godebug = none := by kernel_rfl
theorem laidOut : laidOutB Try.prog = true := by kernel_rfl
section
variable {H : AHeap} {x : AV}
end
/-- A slice of n elements that are the whole of a block, or an empty one. -/
def Sl (H : AHeap) (sz : Nat) (s : AV) (n : Nat) (xs : List AV) : Prop := ∃ b own cap, s = .sl (some (b, 0)) n cap ∧ H[b]? = some (.cells own sz xs)
theorem Sl.app {H : AHeap} {sz n : Nat} {s : AV} {xs : List AV} (h : Sl H sz s n xs) (l : AHeap) : Sl (H ++ l) sz s n xs := by
  obtain ⟨b, own, cap, h1, h2⟩ := h
  exact ⟨b, own, cap, h1, get_app h2⟩
/-- A row that began as nil and has grown: its capacity, and whether its block is the function's own. -/
def capG (n : Nat) : Option Nat := match n with | 0 => some 0 | _ + 1 => none
def ownG (n : Nat) : Bool := match n with | 0 => false | _ + 1 => true
theorem capG_0 : capG 0 = some 0 := rfl
theorem ownG_0 : ownG 0 = false := rfl
theorem capG_s {n : Nat} : capG (n + 1) = none := rfl
theorem ownG_s {n : Nat} : ownG (n + 1) = true := rfl
theorem capG_p {n : Nat} (h : 0 < n) : capG n = none := by cases n <;> first | rfl | omega
theorem ownG_p {n : Nat} (h : 0 < n) : ownG n = true := by cases n <;> first | rfl | omega
theorem aApp_nil {P : Program} {t : TypeId} {n : Nat} {c : Option Nat} {x : AV} {H : AHeap} : aAppend P t (.sl none n c) x H = (tElem P t).bind fun e => (tSz P e).bind fun sz => (tBytes P e).bind fun by_ => (tZero P e).bind fun z => (aElems sz x H).bind fun mx =>
    (need (z.length = sz ∧ 0 < sz ∧ 0 < by_)).bind fun _ => (need (n = 0)).bind fun _ => bif mx.1 == 0 then some (.sl none 0 (some 0), H) else (need (mx.1 * by_ ≤ 140737488355328)).map fun _ => (.sl (some (H.length, 0)) mx.1 none, H ++ [.cells true sz mx.2]) := rfl
theorem aApp_none {P : Program} {t : TypeId} {b o n : Nat} {x : AV} {H : AHeap} : aAppend P t (.sl (some (b, o)) n none) x H = (tElem P t).bind fun e => (tSz P e).bind fun sz => (tBytes P e).bind fun by_ => (tZero P e).bind fun z => (aElems sz x H).bind fun mx =>
    (need (z.length = sz ∧ 0 < sz ∧ 0 < by_)).bind fun _ => (ards H b o (n * sz)).bind fun olds => (need ((n + mx.1) * by_ ≤ 140737488355328)).bind fun _ =>
      bif n + mx.1 == 0 then some (.sl (some (b, o)) 0 none, H)
      else match H[b]? with
        | some (.cells true es _) => (need (es = sz)).map fun _ => (.sl (some (H.length, 0)) (n + mx.1) none, H.set b .dead ++ [.cells true sz (olds ++ mx.2)])
        | _ => none := rfl
theorem aApp_some {P : Program} {t : TypeId} {b o n c : Nat} {x : AV} {H : AHeap} : aAppend P t (.sl (some (b, o)) n (some c)) x H = (tElem P t).bind fun e => (tSz P e).bind fun sz => (tBytes P e).bind fun by_ => (tZero P e).bind fun z => (aElems sz x H).bind fun mx =>
    (need (z.length = sz ∧ 0 < sz ∧ 0 < by_)).bind fun _ => (ards H b o (n * sz)).bind fun olds => (need ((n + mx.1) * by_ ≤ 140737488355328)).bind fun _ =>
      bif n + mx.1 == 0 then some (.sl (some (b, o)) 0 (some c), H)
      else bif decide (c < n + mx.1) then some (.sl (some (H.length, 0)) (n + mx.1) none, H ++ [.cells true sz (olds ++ mx.2)])
      else match H[b]? with
        | some (.cells true es _) => (need (es = sz)).map fun _ => (.sl (some (H.length, 0)) (n + mx.1) none, H.set b .dead ++ [.cells true sz (olds ++ mx.2)])
        | _ => none := rfl
/-- What is left of the elder block. -/
def killG (n : Nat) (X : ABlk) : ABlk := match n with | 0 => X | _ + 1 => .dead
/-- More is appended to a row that grows. -/
theorem aApp_grown {P : Program} {t : TypeId} {b n : Nat} {x : AV} {H : AHeap} : aAppend P t (.sl (some (b, 0)) n (capG n)) x H = (tElem P t).bind fun e => (tSz P e).bind fun sz => (tBytes P e).bind fun by_ => (tZero P e).bind fun z => (aElems sz x H).bind fun mx =>
    (need (z.length = sz ∧ 0 < sz ∧ 0 < by_)).bind fun _ => match H[b]? with
      | some (.cells own es xs) => bif (own == ownG n) && (decide (es = sz) && (decide (xs.length = n * sz) && (decide (0 < mx.1) && xs.all AV.one))) then
          (need ((n + mx.1) * by_ ≤ 140737488355328)).map fun _ => (.sl (some (H.length, 0)) (n + mx.1) none, H.set b (killG n (.cells own es xs)) ++ [.cells true sz (xs ++ mx.2)])
        else aAppend P t (.sl (some (b, 0)) n (capG n)) x H
      | _ => aAppend P t (.sl (some (b, 0)) n (capG n)) x H := by
  cases h1 : tElem P t with
  | none => simp [aAppend, h1]
  | some e =>
  cases h2 : tSz P e with
  | none => simp [aAppend, h1, h2]
  | some sz =>
  cases h3 : tBytes P e with
  | none => simp [aAppend, h1, h2, h3]
  | some by_ =>
  cases h4 : tZero P e with
  | none => simp [aAppend, h1, h2, h3, h4]
  | some z =>
  cases h5 : aElems sz x H with
  | none => simp [aAppend, h1, h2, h3, h4, h5]
  | some mx =>
  simp only [Option.bind_some, h2, h3, h4, h5]
  by_cases hz : z.length = sz ∧ 0 < sz ∧ 0 < by_
  · have hn : need (z.length = sz ∧ 0 < sz ∧ 0 < by_) = some () := if_pos hz
    rw [hn, Option.bind_some]
    split
    · rename_i own es xs hb
      cases hc : (own == ownG n) && (decide (es = sz) && (decide (xs.length = n * sz) && (decide (0 < mx.1) && xs.all AV.one))) with
      | false => rfl
      | true =>
        rw [cond_true]
        simp only [Bool.and_eq_true, beq_iff_eq, decide_eq_true_eq] at hc
        obtain ⟨rfl, rfl, hl, hm, ho⟩ := hc
        have hard : ards H b 0 (n * es) = some xs := by
          unfold ards
          rw [hb]
          simp only
          rw [List.drop_zero, List.take_of_length_le (by omega)]
          simp [hl, ho]
        cases n with
        | zero =>
          simp only [aAppend, h1, h2, h3, h4, h5, Option.bind_some, hn, hard, capG, killG]
          have e0 : (0 + mx.1 == 0) = false := beq_eq_false_iff_ne.2 (by omega)
          rw [e0, cond_false, decide_eq_true (by omega : (0 : Nat) < 0 + mx.1), cond_true]
          have hs : H.set b (.cells (ownG 0) es xs) = H := by
            refine List.ext_getElem? fun i => ?_
            rw [List.getElem?_set]
            split
            · rename_i e; subst e
              split
              · rw [hb]
              rename_i hh; exact absurd (getElem?_lt hb) hh
            rfl
          rw [hs]
          unfold need
          split <;> rfl
        | succ n =>
          simp only [aAppend, h1, h2, h3, h4, h5, Option.bind_some, hn, hard, capG, killG, hb, ownG]
          have e0 : (n + 1 + mx.1 == 0) = false := beq_eq_false_iff_ne.2 (by omega)
          rw [e0, cond_false, cond_false]
          have e1 : need True = some () := if_pos trivial
          rw [e1]
          unfold need
          split <;> rfl
    rfl
  have hn : need (z.length = sz ∧ 0 < sz ∧ 0 < by_) = none := if_neg hz
  simp only [aAppend, h1, h2, h3, h4, h5, Option.bind_some, hn, Option.bind_none]
theorem prs_one {l : List (Int × Int)} : (prs l).all AV.one = true := by
  induction l with
  | nil => rfl
  | cons p l ih => rw [prs_cons]; simp [AV.one, ih]
theorem ints_ones {k : IntKind} {l : List Int} : (ints k l).all AV.one = true := by simp [ints, AV.one]
section
variable {P : Program} {f : FuncId} {args : List AV} {H l1 : AHeap} {x : AV}
end
section
variable {P : Program} {f : FuncId} {H : AHeap}
end
theorem Abs.byE {H0 l2 : AHeap} {F1 F2 : Fr} (hsc : HBel H0.length H0) (G : AHeap) (hG : G.all phant = true) (sel : List Nat) (hnd : sel.Nodup) (h : absF (H0.length + G.length) (sig H0.length G.length sel) F1 F2 ∧ absH (H0.length + G.length) (sig H0.length G.length sel) G sel l2) : Abs H0.length (sig H0.length G.length sel) F1 H0 F2 (H0 ++ l2) := by
  have := Abs.byG (l1 := []) (l2 := l2) (F1 := F1) (F2 := F2) hsc G hG sel hnd h
  simpa using this
theorem Abs.byN {H0 l1 : AHeap} {F1 F2 : Fr} (hsc : HBel H0.length H0) (h : absF (H0.length + l1.length) (sig H0.length l1.length []) F1 F2) : Abs H0.length (sig H0.length l1.length []) F1 (H0 ++ l1) F2 H0 := by
  have := Abs.by (l1 := l1) (l2 := []) (F1 := F1) (F2 := F2) hsc [] (by simp) ⟨h, trivial⟩
  simpa using this
theorem end_byE {P : Program} {fn : Func} {H l2 : AHeap} {R : AV → AHeap → Prop} {F : Fr} {e : Exit} (he : e = .ret ∨ e = .normal) (hbel : HBel H.length H) {x1 : AV} (x2 : AV) (hx : aResult P fn F H = some x1) (G : AHeap) (hG : G.all phant = true) (sel : List Nat) (hnd : sel.Nodup) (hR : R x2 (H ++ l2))
    (h : W (H.length + G.length) x1 (x2.mv (sig H.length G.length sel)) ∧ absH (H.length + G.length) (sig H.length G.length sel) G sel l2) : AEnd P fn H.length R e F H := by
  have h1 := end_byG (P := P) (fn := fn) (l1 := []) (l2 := l2) (R := R) (F := F) he hbel x2 (by simpa using hx) G hG sel hnd hR h
  simpa using h1
theorem ints_app {k : IntKind} {l m : List Int} : ints k (l ++ m) = ints k l ++ ints k m := by simp [ints]
theorem ints_cons {k : IntKind} {x : Int} {l : List Int} : ints k (x :: l) = .int k x :: ints k l := rfl
theorem ints_nil {k : IntKind} : ints k [] = [] := rfl
theorem bools_app {l m : List Bool} : bools (l ++ m) = bools l ++ bools m := by simp [bools]
theorem bools_cons {x : Bool} {l : List Bool} : bools (x :: l) = .bool x :: bools l := rfl
theorem bools_nil : bools [] = [] := rfl

/-- The order of two operations matters. -/
def depI (q z : Bool) (ops : Array Oper) (i j : Nat) : Bool :=
  match ops[i]?, ops[j]? with
  | some a, some b =>
    let free := fun (i : Nat) (a b : Oper) => (match a.dst with | some t => b.dst != some t && !(b.looksAt ops).contains t | none => true) && (!kChg q a.op || kPure b.op || (!z && (kExt ops i a.op && kRead b.op)))
    !(free i a b && free j b a)
  | _, _ => false
/-- The operations in another order, with the edges that it needs. -/
def opsT (q z : Bool) (ops : Array Oper) (τ : List Nat) : Array Oper :=
  (τ.zipIdx.map fun p => { (ops[p.1]?.getD default) with after := (((List.range p.2).filter fun k => depI q z ops ((τ[k]?).getD 0) p.1).map fun k => (⟨k, .data⟩ : Edge)).toArray, guard := none }).toArray
/-- The operations that are run, in that order. -/
def pickL (l : List Oper) (τ : List Nat) : List LOp := τ.map fun i => ((l[i]?).map fun o => (⟨o.dst, o.op, none⟩ : LOp)).getD ⟨none, .move (.tmp 0), none⟩
def ordB (mk : List Nat) (i j : Nat) : Bool := (mk.getD j 0).testBit i
/-- The pairs whose order matters and that no edge orders. -/
def loose (q z : Bool) (ops : Array Oper) (mk : List Nat) : List (Nat × Nat) :=
  (List.range ops.size).flatMap fun j => ((List.range j).filter fun i => depI q z ops i j && !ordB mk i j && !ordB mk j i).map fun i => (i, j)
def orient : List (Nat × Nat) → List Bool → List (Nat × Nat)
  | p :: ps, b :: bs => (bif b then p else (p.2, p.1)) :: orient ps bs
  | _, _ => []
def allV : Nat → List (List Bool)
  | 0 => [[]]
  | n + 1 => (allV n).flatMap fun v => [true :: v, false :: v]
def linkB (mk : List Nat) (x y : Nat) : Bool := x == y || ordB mk x y
def refuted (mk : List Nat) (O : List (Nat × Nat)) : Bool :=
  (O.any fun a => O.any fun b => linkB mk a.2 b.1 && linkB mk b.2 a.1) || O.any fun a => O.any fun b => O.any fun c => linkB mk a.2 b.1 && linkB mk b.2 c.1 && linkB mk c.2 a.1
def okRep (q z : Bool) (ops : Array Oper) (mk : List Nat) (O : List (Nat × Nat)) (τ : List Nat) : Bool :=
  (List.range τ.length).all fun k => (List.range k).all fun k' => let i := (τ[k']?).getD 0; let j := (τ[k]?).getD 0; !depI q z ops i j || ordB mk i j || O.contains (i, j)
def coverB (q z : Bool) (ops : Array Oper) (reps : List (List Nat)) : Bool :=
  let mk := masks ops
  let U := loose q z ops mk
  (allV U.length).all fun v => let O := orient U v; refuted mk O || reps.any fun τ => okRep q z ops mk O τ
def permB (n : Nat) (τ : List Nat) : Bool := τ.length == n && ((List.range n).all fun i => τ.contains i) && (τ.all fun i => Nat.blt i n) && (List.range n).all fun k => τ.idxOf ((τ[k]?).getD 0) == k
def strictB (q : Bool) (ops : Array Oper) : Bool :=
  let m := masks ops; ops.toList.zipIdx.all fun p => ops.toList.zipIdx.all fun r => p.2 == r.2 || ((m.getD r.2 0).testBit p.2 || (m.getD p.2 0).testBit r.2 || !kChg q p.1.op || kPure r.1.op)
theorem strictB_spec {q : Bool} {ops : Array Oper} (h : strictB q ops = true) : Strict q ops := fun i j a b ha hb hij hc hp => by
  have zi : ∀ i o, ops[i]? = some o → (o, i) ∈ ops.toList.zipIdx := fun i o ho => List.mem_iff_getElem?.2 ⟨i, by simp [List.getElem?_zipIdx, ho]⟩
  have := List.all_eq_true.1 (List.all_eq_true.1 h _ (zi i a ha)) _ (zi j b hb)
  simp only [Bool.or_eq_true, beq_iff_eq] at this
  rcases this with h | ((h | h) | h) | h
  · exact absurd h hij
  · exact .inl (masks_spec h)
  · exact .inr (masks_spec h)
  · rw [hc] at h; cases h
  rw [hp] at h; cases h
/-- All that is asked of a region and of the orders that stand for all. -/
def repsOk (q z : Bool) (N : Nat) (ops : Array Oper) (reps : List (List Nat)) : Bool :=
  (ops.toList.all fun o => o.guard.isNone) && (ops.toList.zipIdx.all fun p => p.1.after.all fun e => !Region.binds .any e || decide (e.on < p.2)) &&
  (reps.all fun τ => permB ops.size τ && drawOk q N (opsT q z ops τ) && (!z || strictB q (opsT q z ops τ))) && coverB q z ops reps
section
variable {P : Program} {N n m : Nat} {Q : Exit → Fr → AHeap → Prop} {q z : Bool} {ops : Array Oper}
theorem idx_ne {a b : Nat} {l : List Nat} (h : a ≠ b) : (a :: l).idxOf b = l.idxOf b + 1 := by
  rw [List.idxOf_cons]
  have : (a == b) = false := by simp [h]
  rw [this]; rfl
inductive ValidL (ops : Array Oper) : Array Bool → List Nat → Prop where
  | nil {listed : Array Bool} : Region.ready .any ops listed = [] → ValidL ops listed []
  | cons {listed : Array Bool} {i : Nat} {π : List Nat} : i ∈ Region.ready .any ops listed → ValidL ops (listed.setIfInBounds i true) π → ValidL ops listed (i :: π)
theorem go_valid : ∀ (fuel t : Nat) (listed : Array Bool), listed.size = ops.size → unl listed.toList ≤ fuel → ValidL ops listed (Region.linearise.go .any ops fuel t listed [])
  | 0, t, listed, hs, hu => by
    refine .nil ?_
    apply List.eq_nil_iff_forall_not_mem.2
    intro j hj
    obtain ⟨h0, o, ho, -⟩ := mem_ready.1 hj
    have hj' := (Array.getElem?_eq_some_iff.1 ho).1
    have hi' : j < listed.toList.length := by simp; omega
    have := List.countP_eq_zero.1 (Nat.le_zero.1 hu) listed.toList[j] (List.getElem_mem hi')
    simp at this
    simp [hs, hj', this] at h0
  | fuel + 1, t, listed, hs, hu => by
    simp only [Region.linearise.go]
    change ValidL ops listed (match (Region.ready .any ops listed)[t % (Region.ready .any ops listed).length]? with
      | some i => Region.linearise.go .any ops fuel (t / (Region.ready .any ops listed).length) (listed.setIfInBounds i true) [i]
      | none => [].reverse)
    cases hi : (Region.ready .any ops listed)[t % (Region.ready .any ops listed).length]? with
    | none =>
      refine .nil ?_
      cases hr : Region.ready .any ops listed with
      | nil => rfl
      | cons x xs =>
        rw [hr] at hi
        have hlt : t % (x :: xs).length < (x :: xs).length := Nat.mod_lt _ (by simp)
        simp at hi
        simp at hlt
        omega
    | some i =>
      simp only []
      rw [linearise_go_acc, List.reverse_singleton, List.singleton_append]
      have hmem := List.mem_of_getElem? hi
      refine .cons hmem (go_valid fuel _ _ (by simp [hs]) ?_)
      obtain ⟨h0, o, ho, -⟩ := mem_ready.1 hmem
      have hj' := (Array.getElem?_eq_some_iff.1 ho).1
      have := unl_set (l := listed.toList) (k := i) (by simp; omega) (by
        rw [Array.getElem?_toList]
        simp [hs, hj'] at h0
        rw [Array.getElem?_eq_getElem (by omega), h0])
      rw [Array.toList_setIfInBounds]
      omega
theorem any_valid {Q : Exit → Act → World → Prop} : ∀ (π : List Nat) (fuel : Nat) (listed : Array Bool) (a : Act) (w : World), π.length ≤ fuel → wpAny P .any ops Q fuel listed a w → ValidL ops listed π → wpOps P ops Q π a w
  | [], 0, _, _, _, _, h, _ => h.2
  | [], _ + 1, _, _, _, _, h, hv => by cases hv with | nil hr => exact h.1 hr
  | i :: π, 0, _, _, _, hl, _, _ => by simp at hl
  | i :: π, fuel + 1, listed, a, w, hl, h, hv => by
    cases hv with
    | cons hi hv =>
      rw [wpOps_cons]
      exact wpOp_mono (fun a w hh => any_valid π fuel _ a w (by simp at hl; omega) hh hv) (h.2 i hi)
/-- What is known of a full order. -/
theorem valid_all (hback : ∀ (i : Nat) (o : Oper) (e : Edge), ops[i]? = some o → e ∈ o.after → Region.binds .any e = true → e.on < i) : ∀ (π : List Nat) (listed : Array Bool), listed.size = ops.size → ValidL ops listed π →
    (∀ i, i < ops.size → listed.getD i false = false → i ∈ π) ∧ (∀ i ∈ π, i < ops.size ∧ listed.getD i false = false) ∧ π.Nodup ∧ ∀ (j : Nat) (o : Oper) (e : Edge), j ∈ π → ops[j]? = some o → e ∈ o.after → Region.binds .any e = true → listed.getD e.on false = true ∨ π.idxOf e.on < π.idxOf j
  | [], listed, hs, hv => by
    cases hv with
    | nil hr =>
      refine ⟨fun i hi hli => ?_, fun i h => by simp at h, List.nodup_nil, fun j o e h => by simp at h⟩
      exfalso
      have hall : ∀ i, i < ops.size → listed.getD i false = true := by
        intro i
        induction i using Nat.strongRecOn with
        | _ i ihi =>
          intro hi
          cases hli : listed.getD i false with
          | true => rfl
          | false =>
            exfalso
            have ho : ops[i]? = some ops[i] := Array.getElem?_eq_getElem hi
            have : i ∈ Region.ready .any ops listed := mem_ready.2 ⟨by simp [hs, hi] at hli ⊢; exact hli, _, ho, fun e he hb => by
              have hlt := hback i _ e ho he hb
              exact ihi e.on hlt (by omega)⟩
            rw [hr] at this; cases this
      rw [hall i hi] at hli; cases hli
  | i :: π, listed, hs, hv => by
    cases hv with
    | cons hi hv =>
      obtain ⟨h1, h2, h3, h4⟩ := valid_all hback π _ (by simp [hs]) hv
      obtain ⟨h0, o, ho, hed⟩ := mem_ready.1 hi
      have hin := (Array.getElem?_eq_some_iff.1 ho).1
      have hli : listed.getD i false = false := by simp [hs, hin] at h0 ⊢; exact h0
      have hget : ∀ j, (listed.setIfInBounds i true).getD j false = if j = i then true else listed.getD j false := fun j => by
        by_cases e : j = i
        · subst e; simp [hs, hin]
        rw [if_neg e, getD_set_ne false (fun e' => e e'.symm)]
      have hni : i ∉ π := fun hm => by
        have := (h2 i hm).2
        rw [hget, if_pos rfl] at this; cases this
      refine ⟨fun j hj hjl => ?_, fun j hj => ?_, List.nodup_cons.2 ⟨hni, h3⟩, fun j o' e hj ho' he hb => ?_⟩
      · by_cases e : j = i
        · simp [e]
        exact List.mem_cons_of_mem _ (h1 j hj (by rw [hget, if_neg e]; exact hjl))
      · rcases List.mem_cons.1 hj with rfl | hj
        · exact ⟨hin, hli⟩
        have := h2 j hj
        rw [hget] at this
        by_cases e : j = i
        · rw [if_pos e] at this; cases this.2
        rw [if_neg e] at this; exact this
      by_cases eji : j = i
      · subst eji
        rw [ho] at ho'; simp at ho'; subst ho'
        exact .inl (hed e he hb)
      have hj' : j ∈ π := (List.mem_cons.1 hj).resolve_left eji
      have hidx : (i :: π).idxOf j = π.idxOf j + 1 := by rw [idx_ne (fun e => eji e.symm)]
      rcases h4 j o' e hj' ho' he hb with h5 | h5
      · rw [hget] at h5
        by_cases e2 : e.on = i
        · right; rw [e2, List.idxOf_cons_self, hidx]; omega
        rw [if_neg e2] at h5; exact .inl h5
      by_cases e2 : e.on = i
      · right; rw [e2, List.idxOf_cons_self, hidx]; omega
      right; rw [idx_ne (fun e' => e2 e'.symm), hidx]; omega
theorem mem_allV : ∀ (v : List Bool), v ∈ allV v.length
  | [] => by simp [allV]
  | b :: v => by
    simp only [List.length_cons, allV, List.mem_flatMap]
    refine ⟨v, mem_allV v, ?_⟩
    cases b <;> simp
theorem orient_lt {rk : Nat → Nat} : ∀ (U : List (Nat × Nat)), (∀ p ∈ U, rk p.1 ≠ rk p.2) → ∀ p ∈ orient U (U.map fun p => decide (rk p.1 < rk p.2)), rk p.1 < rk p.2
  | [], _, p, h => by simp [orient] at h
  | u :: U, hU, p, h => by
    simp only [List.map_cons, orient, List.mem_cons] at h
    rcases h with rfl | h
    · by_cases hd : rk u.1 < rk u.2
      · rw [decide_eq_true hd, cond_true]; exact hd
      rw [decide_eq_false hd, cond_false]
      have := hU u (by simp)
      show rk u.2 < rk u.1
      omega
    exact orient_lt U (fun p hp => hU p (by simp [hp])) p h
theorem cover_rep {reps : List (List Nat)} {rk : Nat → Nat} (hc : coverB q z ops reps = true) (hord : ∀ i j, ordB (masks ops) i j = true → rk i < rk j) (hU : ∀ p ∈ loose q z ops (masks ops), rk p.1 ≠ rk p.2) :
    ∃ τ ∈ reps, ∀ k k' : Nat, k < τ.length → k' < k → depI q z ops ((τ[k']?).getD 0) ((τ[k]?).getD 0) = true → rk ((τ[k']?).getD 0) < rk ((τ[k]?).getD 0) := by
  have hlt := orient_lt (rk := rk) _ hU
  have hv := List.all_eq_true.1 hc ((loose q z ops (masks ops)).map fun p => decide (rk p.1 < rk p.2)) (by
    have := mem_allV ((loose q z ops (masks ops)).map fun p => decide (rk p.1 < rk p.2))
    simpa using this)
  simp only [Bool.or_eq_true] at hv
  have hlink : ∀ x y, linkB (masks ops) x y = true → rk x ≤ rk y := fun x y h => by
    unfold linkB at h
    simp only [Bool.or_eq_true, beq_iff_eq] at h
    rcases h with rfl | h
    · exact Nat.le_refl _
    exact Nat.le_of_lt (hord _ _ h)
  rcases hv with hv | hv
  · exfalso
    unfold refuted at hv
    simp only [Bool.or_eq_true, List.any_eq_true, Bool.and_eq_true] at hv
    rcases hv with ⟨a, ha, b, hb, h1, h2⟩ | ⟨a, ha, b, hb, c, hc', ⟨h1, h2⟩, h3⟩
    · have := hlt a ha; have := hlt b hb; have := hlink _ _ h1; have := hlink _ _ h2; omega
    have := hlt a ha; have := hlt b hb; have := hlt c hc'; have := hlink _ _ h1; have := hlink _ _ h2; have := hlink _ _ h3; omega
  obtain ⟨τ, hτ, hk⟩ := List.any_eq_true.1 hv
  refine ⟨τ, hτ, fun k k' h1 h2 hd => ?_⟩
  have := List.all_eq_true.1 (List.all_eq_true.1 hk k (List.mem_range.2 h1)) k' (List.mem_range.2 h2)
  simp only [hd, Bool.not_true, Bool.false_or, Bool.or_eq_true] at this
  rcases this with h | h
  · exact hord _ _ h
  exact hlt _ (by simpa using h)
theorem opsT_get {τ : List Nat} {k i : Nat} (hk : τ[k]? = some i) : (opsT q z ops τ)[k]? = some { (ops[i]?.getD default) with after := (((List.range k).filter fun k' => depI q z ops ((τ[k']?).getD 0) i).map fun k' => (⟨k', .data⟩ : Edge)).toArray, guard := none } := by
  unfold opsT
  simp [List.getElem?_zipIdx, hk]
theorem opsT_size {τ : List Nat} : (opsT q z ops τ).size = τ.length := by simp [opsT]
theorem idx_lt_mem {A B : List Nat} {i : Nat} (h : (A ++ B).idxOf i < A.length) : i ∈ A := by
  by_cases hi : i ∈ A
  · exact hi
  rw [List.idxOf_append, if_neg hi] at h; omega
theorem validT {τ π0 : List Nat} (hlen : τ.length = ops.size) (hmem : ∀ i, i < ops.size → i ∈ τ) (hpos : ∀ k, k < ops.size → τ.idxOf ((τ[k]?).getD 0) = k) (hin : ∀ i ∈ τ, i < ops.size)
    (hnd : π0.Nodup) (hall : ∀ i, i < ops.size → i ∈ π0) (hπ : ∀ i ∈ π0, i < ops.size)
    (hag : ∀ k k' : Nat, k < τ.length → k' < k → depI q z ops ((τ[k']?).getD 0) ((τ[k]?).getD 0) = true → π0.idxOf ((τ[k']?).getD 0) < π0.idxOf ((τ[k]?).getD 0)) :
    ∀ (π A : List Nat) (L : Array Bool), π0 = A ++ π → L.size = ops.size → (∀ k, k < ops.size → L.getD k false = decide ((τ[k]?).getD 0 ∈ A)) → ValidL (opsT q z ops τ) L (π.map fun i => τ.idxOf i)
  | [], A, L, e, hs, hL => by
    refine .nil ?_
    apply List.eq_nil_iff_forall_not_mem.2
    intro k hk
    obtain ⟨h0, o, ho, -⟩ := mem_ready.1 hk
    have hk' := (Array.getElem?_eq_some_iff.1 ho).1
    rw [opsT_size, hlen] at hk'
    have h1 := hL k hk'
    have hτ : τ[k]? = some τ[k] := List.getElem?_eq_getElem (by omega)
    rw [hτ] at h1
    have : τ[k] ∈ A := by
      rw [List.append_nil] at e
      rw [← e]; exact hall _ (hin _ (List.getElem_mem _))
    simp [this] at h1
    simp [hs, hk'] at h0 h1
    rw [h1] at h0; cases h0
  | j :: π, A, L, e, hs, hL => by
    have hj : j < ops.size := hπ j (by rw [e]; simp)
    have hjm := hmem j hj
    have hkl : τ.idxOf j < τ.length := List.idxOf_lt_length_of_mem hjm
    have hτk : τ[τ.idxOf j]? = some j := by rw [List.getElem?_eq_getElem hkl, List.getElem_idxOf]
    have hjA : j ∉ A := fun h => by
      rw [e] at hnd
      exact (List.nodup_append.1 hnd).2.2 j h j (by simp) rfl
    have hget := opsT_get (q := q) (z := z) (ops := ops) hτk
    refine .cons (mem_ready.2 ⟨?_, _, hget, fun ed he _ => ?_⟩) (validT hlen hmem hpos hin hnd hall hπ hag π (A ++ [j]) _ (by rw [e]; simp) (by simp [hs]) fun k hk => ?_)
    · have := hL (τ.idxOf j) (by omega)
      rw [hτk] at this
      simp [hjA] at this
      show L.getD (τ.idxOf j) true = false
      rw [Array.getD_eq_getD_getElem?]
      rw [Array.getElem?_eq_getElem (by omega)] at this ⊢
      simpa using this
    · simp only [List.mem_toArray, List.mem_map, List.mem_filter, List.mem_range] at he
      obtain ⟨k', ⟨hk1, hk2⟩, rfl⟩ := he
      have h1 := hag (τ.idxOf j) k' hkl hk1 (by rw [hτk]; exact hk2)
      rw [hτk] at h1
      simp only [Option.getD_some] at h1
      have hjx : π0.idxOf j = A.length := by
        rw [e, List.idxOf_append, if_neg hjA, List.idxOf_cons_self, Nat.zero_add]
      rw [hjx, e] at h1
      have := idx_lt_mem h1
      rw [hL k' (by omega)]
      simp [this]
    by_cases ek : k = τ.idxOf j
    · subst ek
      rw [hτk]
      simp [hs, hj, hlen ▸ hkl]
    rw [getD_set_ne false (fun e' => ek e'.symm), hL k hk]
    have hne : (τ[k]?).getD 0 ≠ j := fun h => ek (by have := hpos k hk; rw [h] at this; exact this.symm)
    simp [hne]
theorem wpOps_T {Q : Exit → Act → World → Prop} {τ : List Nat} (hmem : ∀ i, i < ops.size → i ∈ τ) (hg : ∀ (i : Nat) (o : Oper), ops[i]? = some o → o.guard = none) : ∀ (π : List Nat) (a : Act) (w : World), (∀ i ∈ π, i < ops.size) → wpOps P (opsT q z ops τ) Q (π.map fun i => τ.idxOf i) a w → wpOps P ops Q π a w
  | [], _, _, _, h => h
  | i :: π, a, w, hπ, h => by
    rw [List.map_cons, wpOps_cons] at h
    rw [wpOps_cons]
    have h1 := wpOp_mono (fun a w hh => wpOps_T hmem hg π a w (fun j hj => hπ j (by simp [hj])) hh) h
    have hi := hπ i (by simp)
    have him := hmem i hi
    have hτk : τ[τ.idxOf i]? = some i := by rw [List.getElem?_eq_getElem (List.idxOf_lt_length_of_mem him), List.getElem_idxOf]
    have ho : ops[i]? = some ops[i] := Array.getElem?_eq_getElem hi
    unfold wpOp at h1 ⊢
    rw [opsT_get hτk] at h1
    rw [ho] at h1 ⊢
    have hgi := hg i _ ho
    simp only [Region.wanted, hgi, if_true, Option.getD_some] at h1 ⊢
    exact h1
theorem pick_opsT {τ : List Nat} (hin : ∀ i ∈ τ, i < ops.size) : (opsT q z ops τ).toList.map (lightOf (dsts (opsT q z ops τ))) = pickL ops.toList τ := by
  refine List.ext_getElem? fun k => ?_
  unfold pickL
  rw [List.getElem?_map, List.getElem?_map, Array.getElem?_toList]
  cases hk : τ[k]? with
  | none =>
    have : (opsT q z ops τ)[k]? = none := Array.getElem?_eq_none (by rw [opsT_size]; exact List.getElem?_eq_none_iff.1 hk)
    rw [this]; rfl
  | some i =>
    rw [opsT_get hk]
    have hi := hin i (List.mem_of_getElem? hk)
    simp only [Option.map_some, lightOf, Option.map_none]
    rw [Array.getElem?_toList, Array.getElem?_eq_getElem hi]
    rfl
theorem nodup_len : ∀ (n : Nat) (l : List Nat), l.Nodup → (∀ i ∈ l, i < n) → l.length ≤ n
  | 0, l, _, h => by
    cases l with
    | nil => simp
    | cons x l => exact absurd (h x (by simp)) (Nat.not_lt_zero x)
  | n + 1, l, hd, h => by
    have h1 := nodup_len n (l.filter fun i => i != n) (hd.filter _) (fun i hi => by
      simp only [List.mem_filter, bne_iff_ne] at hi
      have := h i hi.1
      omega)
    have h2 := List.length_eq_countP_add_countP (fun i => i != n) (l := l)
    rw [← List.countP_eq_length_filter] at h1
    have h3 : List.countP (fun a => decide ¬(a != n) = true) l = l.count n := by
      unfold List.count
      congr 1
      funext a
      by_cases e : a = n <;> simp [e]
    have h4 := List.nodup_iff_count.1 hd n
    omega
/-- A region that draws by the orders that stand for all. -/
theorem AW_reps {id : Nat} {F : Fr} {H : AHeap} (hm : P.follows .mixedOrders = true) (reps : List (List Nat)) (hok : repsOk q z N ops reps = true) (hmz : m = H.length ∨ z = true)
    (hh : ∀ τ ∈ reps, AOpsDL P q m (pickL ops.toList τ) F H (fun F' H' => Q .normal F' H')) : AW P N n (.region id ops true) Q F H := by
  intro E w a h1 h2 h3 h4 h5
  unfold repsOk at hok
  simp only [Bool.and_eq_true] at hok
  obtain ⟨⟨⟨k1, k2⟩, k3⟩, k4⟩ := hok
  have zi : ∀ i o, ops[i]? = some o → (o, i) ∈ ops.toList.zipIdx := fun i o ho => List.mem_iff_getElem?.2 ⟨i, by simp [List.getElem?_zipIdx, ho]⟩
  have hg : ∀ (i : Nat) (o : Oper), ops[i]? = some o → o.guard = none := fun i o ho => by
    have := List.all_eq_true.1 k1 o (by simpa using Array.mem_of_getElem? ho)
    simpa using this
  have hback : ∀ (i : Nat) (o : Oper) (e : Edge), ops[i]? = some o → e ∈ o.after → Region.binds .any e = true → e.on < i := fun i o e ho he hb => by
    have := List.all_eq_true.1 k2 _ (zi i o ho)
    have := Array.all_eq_true_iff_forall_mem.1 this e he
    simpa [hb] using this
  refine wp_region_draw fun t => ?_
  simp only [Region.schedule, hm, Bool.true_or, if_true]
  have hv : ValidL ops (Array.replicate ops.size false) (Region.linearise .any ops t) := go_valid _ t _ (by simp) (by simp [unl, List.countP_replicate])
  generalize Region.linearise .any ops t = π at hv
  have hL : ∀ i, (Array.replicate ops.size false).getD i false = false := fun i => by
    rw [Array.getD_eq_getD_getElem?]
    cases hq : (Array.replicate ops.size false)[i]? with
    | none => rfl
    | some b => rw [Array.getElem?_replicate] at hq; split at hq <;> simp at hq; subst hq; rfl
  obtain ⟨v1, v2, v3, v4⟩ := valid_all hback π _ (by simp) hv
  have hall : ∀ i, i < ops.size → i ∈ π := fun i hi => v1 i hi (hL i)
  have hπ : ∀ i ∈ π, i < ops.size := fun i hi => (v2 i hi).1
  have hpred : ∀ i j, Pred ops i j → j < ops.size → π.idxOf i < π.idxOf j := fun i j hp => by
    induction hp with
    | edge ho he hb =>
      intro hj
      rcases v4 _ _ _ (hall _ hj) ho he hb with h | h
      · rw [hL] at h; cases h
      exact h
    | step ho he hb _ ih =>
      intro hj
      rcases v4 _ _ _ (hall _ hj) ho he hb with h | h
      · rw [hL] at h; cases h
      exact Nat.lt_trans (ih (by have := hback _ _ _ ho he hb; omega)) h
  have predlt : ∀ i j, Pred ops i j → j < ops.size := fun i j hp => by
    cases hp with
    | edge ho _ _ => exact (Array.getElem?_eq_some_iff.1 ho).1
    | step ho _ _ _ => exact (Array.getElem?_eq_some_iff.1 ho).1
  obtain ⟨τ, hτ, hag⟩ := cover_rep (rk := fun i => π.idxOf i) k4 (fun i j h => hpred i j (masks_spec h) (predlt i j (masks_spec h))) (fun p hp => by
    unfold loose at hp
    simp only [List.mem_flatMap, List.mem_range, List.mem_map, List.mem_filter] at hp
    obtain ⟨j, hj, i, ⟨hi, -⟩, rfl⟩ := hp
    intro e
    have h1 : π[π.idxOf i]? = some i := by rw [List.getElem?_eq_getElem (List.idxOf_lt_length_of_mem (hall i (by omega))), List.getElem_idxOf]
    have h2 : π[π.idxOf j]? = some j := by rw [List.getElem?_eq_getElem (List.idxOf_lt_length_of_mem (hall j hj)), List.getElem_idxOf]
    simp only at e
    rw [e, h2] at h1
    simp at h1; omega)
  have hr := List.all_eq_true.1 k3 τ hτ
  simp only [Bool.and_eq_true] at hr
  obtain ⟨⟨hp, hd⟩, hz⟩ := hr
  unfold permB at hp
  simp only [Bool.and_eq_true, beq_iff_eq] at hp
  obtain ⟨⟨⟨p1, p2⟩, p3⟩, p4⟩ := hp
  have hmem : ∀ i, i < ops.size → i ∈ τ := fun i hi => by
    have := List.all_eq_true.1 p2 i (List.mem_range.2 hi)
    simpa using this
  have hin : ∀ i ∈ τ, i < ops.size := fun i hi => Nat.le_of_ble_eq_true (List.all_eq_true.1 p3 i hi)
  have hpos : ∀ k, k < ops.size → τ.idxOf ((τ[k]?).getD 0) = k := fun k hk => by
    have := List.all_eq_true.1 p4 k (List.mem_range.2 hk)
    simpa using this
  refine wpOps_T (q := q) (z := z) hmem hg π a _ hπ ?_
  have hvT := validT (q := q) (z := z) p1 hmem hpos hin v3 hall hπ hag π [] (Array.replicate (opsT q z ops τ).size false) (by simp) (by simp [opsT_size, p1]) (fun k hk => by
    rw [Array.getD_eq_getD_getElem?]
    cases hq : (Array.replicate (opsT q z ops τ).size false)[k]? with
    | none => simp
    | some b => rw [Array.getElem?_replicate] at hq; split at hq <;> simp at hq; subst hq; simp)
  have hany := draw_any (P := P) (N := N) (n := n) (Q := Q) q hd (hmz.imp (fun e => Nat.le_of_eq e) fun e => strictB_spec (by rw [e] at hz; simpa [e] using hz)) (AOpsD_of (opsT q z ops τ).toList F H (by rw [pick_opsT hin]; exact hh τ hτ)) h1 h2 h3 h4 h5
  refine any_valid _ _ _ _ _ ?_ hany hvT
  rw [List.length_map, opsT_size, p1]
  have := nodup_len ops.size π v3 hπ
  omega
theorem AW_abs {c : Code} {Q : Exit → Fr → AHeap → Prop} {σ : Nat → Nat} {F F2 : Fr} {H H2 : AHeap} (ab : Abs n σ F H F2 H2) (h : AW P N n c Q F2 H2) : AW P N n c Q F H := by
  intro E w a h1 h2 h3 h4 h5
  obtain ⟨E', hle, f, e⟩ := ab.emb h1 h4 h5
  exact wp_mono (h E' w a hle.n h2 h3 f e) fun e a w hh => LiftQ.shift hle hh
theorem AW_fin {a : Code} {F : Fr} {H : AHeap} (q : Bool) (hm : P.follows .mixedOrders = true) (hc : codeOk N q a = true) (h : AGo P N n q Q [.code a] F H) : AW P N n a Q F H := AW_of hm a hc _ F H h
/-- A region that draws, by its orders, what it leaves (seen in another way), and then the rest. -/
theorem AW_special {id : Nat} {b : Code} {F : Fr} {H : AHeap} (q : Bool) (hm : P.follows .mixedOrders = true) (reps : List (List Nat)) (hok : repsOk q false N ops reps = true) (I : Fr → AHeap → Prop)
    (h1 : ∀ τ ∈ reps, ∀ J : Fr → AHeap → Prop, (∀ F' H', (∃ σ F2 H2, I F2 H2 ∧ Abs n σ F' H' F2 H2) → J F' H') → AGo P N n q Q [.opsD H.length (pickL ops.toList τ), .inv J] F H) (h2 : ∀ F2 H2, I F2 H2 → AW P N n b Q F2 H2) : AW P N n (.seq (.region id ops true) b) Q F H := by
  refine AW_seq (AW.mono (AW_reps (Q := AThen (fun F' H' => ∃ σ F2 H2, I F2 H2 ∧ Abs n σ F' H' F2 H2) Q) hm reps hok (.inl rfl) fun τ hτ => ?_) fun e F H hq => ?_)
  · exact h1 τ hτ (fun F' H' => ∃ σ F2 H2, I F2 H2 ∧ Abs n σ F' H' F2 H2) (fun _ _ h => h)
  cases e with
  | normal =>
    obtain ⟨σ, F2, H2, hi, ab⟩ := hq
    exact AW_abs ab (h2 F2 H2 hi)
  | _ => exact hq
theorem reps_cons {p : List Nat → Prop} {τ : List Nat} {l : List (List Nat)} (h : p τ) (h2 : ∀ τ ∈ l, p τ) : ∀ τ' ∈ τ :: l, p τ' := fun τ' h' => by
  rcases List.mem_cons.1 h' with rfl | h'
  · exact h
  exact h2 _ h'
theorem reps_nil {p : List Nat → Prop} : ∀ τ' ∈ ([] : List (List Nat)), p τ' := fun τ' h => by simp at h
theorem inv_of {J : Fr → AHeap → Prop} {r : List It} {F : Fr} {H : AHeap} (h : J F H) : AGo P N n q Q (.inv J :: r) F H := h
/-- A function's call, piece by piece. -/
theorem ACalls_pieces {f : FuncId} {fn : Func} {args : List AV} {R : AV → AHeap → Prop} {H : AHeap} (hf : P.funcs[f]? = some fn) (N : Nat) (hN : fn.ntmps = N) (ha : args.length ≤ N) (hsome : fn.body.isSome = true)
    (h : HBel H.length H → ∀ Q, (∀ F H', AEnd P fn H.length R .ret F H' → ARet Q F H') → (∀ F H', AEnd P fn H.length R .normal F H' → Q .normal F H') → ∀ c, fn.body = some c → AW P N H.length c Q (argF 0 args) H) : ACalls P f args H R := by
  cases hb : fn.body with
  | none => rw [hb] at hsome; cases hsome
  | some c => exact ACalls_of hf hb hN ha fun hbel => h hbel (AEnd P fn H.length R) (fun _ _ k => k) (fun _ _ k => k) c hb
/-- A piece of code and the rest, for any aim that the rest serves. -/
theorem AW_seqQ {a b : Code} {F : Fr} {H : AHeap} (h : ∀ Q2 : Exit → Fr → AHeap → Prop, (∀ F H, AW P N n b Q F H → Q2 .normal F H) → (∀ F H, ARet Q F H → ARet Q2 F H) → (∀ id F H, Q (.exit id) F H → Q2 (.exit id) F H) → AW P N n a Q2 F H) : AW P N n (.seq a b) Q F H :=
  AW_seq (h (AThen (fun F H => AW P N n b Q F H) Q) (fun _ _ k => k) (fun _ _ k => k) (fun _ _ _ k => k))
theorem AW_blockQ {id : Nat} {c : Code} {F : Fr} {H : AHeap} (h : ∀ Q2 : Exit → Fr → AHeap → Prop, (∀ F H, Q .normal F H → Q2 .normal F H) → (∀ F H, ARet Q F H → ARet Q2 F H) → (∀ id', id' ≠ id → ∀ F H, Q (.exit id') F H → Q2 (.exit id') F H) → (∀ F H, Q .normal F H → Q2 (.exit id) F H) → AW P N n c Q2 F H) : AW P N n (.block id c) Q F H :=
  AW_block (h (AInBlock id Q) (fun _ _ k => k) (fun _ _ k => k) (fun id' hne F H k => by simp only [AInBlock]; rw [if_neg hne]; exact k) (fun F H k => by simp only [AInBlock, if_true]; exact k))
theorem AW_loopA {c : Code} {F : Fr} {H : AHeap} (I : Nat → Fr → AHeap → Prop) (k0 : Nat) (h0 : ∃ σ F2 H2, I k0 F2 H2 ∧ Abs n σ F H F2 H2)
    (round : ∀ k F H, I k F H → ∀ Q2 : Exit → Fr → AHeap → Prop, (∀ F' H', (∃ k', k' < k ∧ ∃ σ F2 H2, I k' F2 H2 ∧ Abs n σ F' H' F2 H2) → Q2 .normal F' H') → (∀ F H, ARet Q F H → ARet Q2 F H) → (∀ id F H, Q (.exit id) F H → Q2 (.exit id) F H) → AW P N n c Q2 F H) : AW P N n (.loop c) Q F H :=
  AW_loop I k0 h0 fun k F H hi => round k F H hi (AThen _ Q) (fun _ _ k => k) (fun F H k => k) (fun _ _ _ k => k)
/-- A function's call by its text (in short). -/
theorem AcT (q : Bool) {f : FuncId} {fn : Func} {args : List AV} {R : AV → AHeap → Prop} {H : AHeap} (hf : P.funcs[f]? = some fn) {c : Code} (h : HBel H.length H → ∀ Q : Exit → Fr → AHeap → Prop, (∀ F H', AEnd P fn H.length R .ret F H' → ARet Q F H') → AGo P fn.ntmps H.length q Q [.code c] (argF 0 args) H)
    (hb : fn.body = some c := by rfl) (hm : P.follows .mixedOrders = true := by exact try_mixed) (ha : args.length ≤ fn.ntmps := by exact Nat.le_of_ble_eq_true (by kernel_rfl)) (hc : codeOk fn.ntmps q c = true := by kernel_rfl) : ACalls P f args H R :=
  ACalls_run hm hf q _ rfl ha (by rw [hb]; exact congrArg some hc) fun hbel Q hQ _ c' hc' => by
    rw [hb] at hc'
    injection hc' with hc'
    subst hc'
    exact h hbel Q hQ
end
end Go.Proofs.Ytgfjhidfpjmmnaa
