/- The abstract machine: regions that draw their order. Conditions: as each theorem states. -/
import Derived.Test.YtjfnbcifafmefaaAmK
namespace Go.Proofs.Ytjfnbcifafmefaa
set_option linter.unusedSimpArgs false
set_option linter.unusedVariables false
open Go.RowKit

/-- Neither looks at the memory nor changes it. -/
def kPure : Op → Bool
  | .move _ | .assign _ | .pick .. | .nilCheck _ | .binOp .. | .unOp .. | .makeFunc .. | .fieldAddr .. | .field .. | .indexAddr .. | .index .. | .extract .. | .build .. => true
  | .call c => (match c.callee with | .builtin .min | .builtin .max => true | _ => false)
  | _ => false
/-- May change the memory (q: calls do not). -/
def kChg (q : Bool) : Op → Bool
  | .move _ | .assign _ | .pick .. | .nilCheck _ | .binOp .. | .unOp .. | .makeFunc .. | .fieldAddr .. | .field .. | .indexAddr .. | .index .. | .extract .. | .build .. => false
  | .load .. | .lookup .. | .slice .. | .convert .. => false
  | .call c => (match c.callee with | .builtin .min | .builtin .max | .builtin .len => false | .value _ => !q | _ => true)
  | _ => true
/-- Looks at one block alone. -/
def kRead : Op → Bool
  | .load .. => true
  | .slice .. => true
  | .call c => (match c.callee with | .builtin .len => true | _ => false)
  | _ => false
/-- Makes a block and changes no other one. -/
def kNew : Op → Bool
  | .alloc _ | .box .. | .buildSlice .. | .makeSlice .. | .makeMap .. => true
  | _ => false
/-- The block that is read was there before the region. -/
def belowV (m : Nat) : AV → Prop
  | .ptr (some (b, _)) => b < m
  | .sl (some (b, _)) _ _ => b < m
  | _ => True
def lenV (m : Nat) : AV → Prop
  | .mp (some b) => b < m
  | _ => True
/-- In a region that draws, what is read is a block that was there before the region. -/
def lateOk (m : Nat) (o : Op) (F : Fr) : Prop :=
  match o with
  | .load _ a => belowV m (aev F a)
  | .slice _ x _ _ _ => belowV m (aev F x)
  | .call c => (match c.callee, c.args.toList with | .builtin .len, x :: _ => lenV m (aev F x) | _, _ => True)
  | _ => True
def AOpD (P : Program) (q : Bool) (m : Nat) (o : Op) (F : Fr) (H : AHeap) (K : AV → AHeap → Prop) : Prop :=
  match calleeOf o F with
  | some p => okFn P p.1 = true ∧ ∃ x H', (q = true → H' = H) ∧ (H.length ≤ H'.length ∧ ∀ b, b < m → H'[b]? = H[b]?) ∧ ACalls P p.1 p.2 H (fun y H1 => y = x ∧ H1 = H') ∧ K x H'
  | none => lateOk m o F ∧ ∃ r, aop P o F H = some r ∧ K r.1 r.2
def AOpsD (P : Program) (q : Bool) (m : Nat) (ops : Array Oper) : List Oper → Fr → AHeap → (Fr → AHeap → Prop) → Prop
  | [], F, H, K => K F H
  | o :: os, F, H, K =>
    match gd ops F o with
    | some true => AOpD P q m o.op F H fun x H' => AOpsD P q m ops os (putF o.dst x F) H' K
    | some false => AOpsD P q m ops os (putF o.dst (.tup []) F) H K
    | none => False
def DoOp (P : Program) (q : Bool) (m : Nat) (o : Op) (F : Fr) (H : AHeap) (x : AV) (H' : AHeap) : Prop :=
  match calleeOf o F with
  | some p => okFn P p.1 = true ∧ (q = true → H' = H) ∧ (H.length ≤ H'.length ∧ ∀ b, b < m → H'[b]? = H[b]?) ∧ ACalls P p.1 p.2 H (fun y H1 => y = x ∧ H1 = H')
  | none => lateOk m o F ∧ aop P o F H = some (x, H')
structure Steps' (P : Program) (q : Bool) (m : Nat) (ops : Array Oper) (k : Nat) (F : Fr) (H : AHeap) (r : Nat → AV) (h : Nat → AHeap) (fr : Nat → Fr) : Prop where
  fr0 : fr k = F
  h0 : h k = H
  step : ∀ i o, k ≤ i → ops[i]? = some o → fr (i + 1) = putF o.dst (r i) (fr i) ∧ ((gd ops (fr i) o = some true ∧ DoOp P q m o.op (fr i) (h i) (r i) (h (i + 1))) ∨ (gd ops (fr i) o = some false ∧ r i = .tup [] ∧ h (i + 1) = h i))
section
variable {P : Program} {N n m : Nat} {Q : Exit → Fr → AHeap → Prop} {q : Bool} {ops : Array Oper}
theorem AOpsD_trace {K : Fr → AHeap → Prop} : ∀ (l : List Oper) (k : Nat), ops.toList.drop k = l → ∀ (F : Fr) (H : AHeap), AOpsD P q m ops l F H K → ∃ r h fr, Steps' P q m ops k F H r h fr ∧ K (fr (k + l.length)) (h (k + l.length))
  | [], k, hk, F, H, hh => by
    refine ⟨fun _ => .any, fun _ => H, fun _ => F, ⟨rfl, rfl, fun i o hi ho => ?_⟩, hh⟩
    have := congrArg (·[i - k]?) hk
    simp [show k + (i - k) = i by omega, ho] at this
  | o :: os, k, hk, F, H, hh => by
    have ho : ops[k]? = some o := by
      have := congrArg (·[0]?) hk
      simpa using this
    have hos : ops.toList.drop (k + 1) = os := by
      have := congrArg (List.drop 1) hk
      simpa using this
    have fin : ∀ x H1, AOpsD P q m ops os (putF o.dst x F) H1 K → ((gd ops F o = some true ∧ DoOp P q m o.op F H x H1) ∨ (gd ops F o = some false ∧ x = .tup [] ∧ H1 = H)) → ∃ r h fr, Steps' P q m ops k F H r h fr ∧ K (fr (k + (o :: os).length)) (h (k + (o :: os).length)) := by
      intro x H1 h1 h2
      obtain ⟨r, h, fr, ⟨e1, e2, e3⟩, e4⟩ := AOpsD_trace os (k + 1) hos _ _ h1
      refine ⟨fun i => if i = k then x else r i, fun i => if i = k then H else h i, fun i => if i = k then F else fr i, ⟨by simp, by simp, fun i o' hi ho' => ?_⟩, ?_⟩
      · by_cases e : i = k
        · subst e
          rw [ho] at ho'; simp at ho'; subst ho'
          simp only [if_true, if_neg (show ¬ i + 1 = i by omega), e1, e2]
          exact ⟨trivial, h2⟩
        · simp only [if_neg e, if_neg (show ¬ i + 1 = k by omega)]
          exact e3 i o' (by omega) ho'
      · simp only [List.length_cons, if_neg (show ¬ k + (os.length + 1) = k by omega)]
        rw [show k + (os.length + 1) = k + 1 + os.length by omega]
        exact e4
    unfold AOpsD at hh
    cases hg : gd ops F o with
    | none => rw [hg] at hh; exact hh.elim
    | some b =>
      rw [hg] at hh
      cases b
      · exact fin _ _ hh (.inr ⟨hg, rfl, rfl⟩)
      · simp only [AOpD] at hh
        cases hc : calleeOf o.op F with
        | some p =>
          rw [hc] at hh
          obtain ⟨a1, x, H', a2, a2', a3, a4⟩ := hh
          exact fin x H' a4 (.inl ⟨hg, by unfold DoOp; rw [hc]; exact ⟨a1, a2, a2', a3⟩⟩)
        | none =>
          rw [hc] at hh
          obtain ⟨a0, r, a1, a2⟩ := hh
          exact fin r.1 r.2 a2 (.inl ⟨hg, by unfold DoOp; rw [hc]; exact ⟨a0, a1⟩⟩)
theorem kPure_spec {o : Op} (hp : kPure o = true) {F : Fr} {H : AHeap} {r : AV × AHeap} (hr : aop P o F H = some r) : r.2 = H ∧ ∀ H', aop P o F H' = some (r.1, H') := by
  cases o <;> simp only [kPure, Bool.false_eq_true] at hp
  case pick c a b =>
    simp only [aop] at hr ⊢
    split at hr
    · simp only [Option.some.injEq] at hr; subst hr; exact ⟨rfl, fun _ => rfl⟩
    · cases hr
  case nilCheck x =>
    simp only [aop] at hr ⊢
    split at hr
    · simp only [Option.some.injEq] at hr; subst hr; exact ⟨rfl, fun _ => rfl⟩
    · simp only [Option.some.injEq] at hr; subst hr; exact ⟨rfl, fun _ => rfl⟩
    · cases hr
  case makeFunc fn first caps =>
    simp only [aop] at hr ⊢
    split at hr
    · obtain ⟨h0, rfl⟩ := need_of hr
      exact ⟨rfl, fun _ => by simp [need, h0]⟩
    · cases hr
  case call c =>
    obtain ⟨callee, args, ts⟩ := c
    simp only at hp
    split at hp
    · simp only [aop, aBuiltin] at hr ⊢
      split at hr <;> (try simp only [Option.map_eq_some_iff] at hr) <;> try (cases hr; done)
      all_goals simp_all
      all_goals (obtain ⟨a, ha, rfl⟩ := hr; simp_all)
    · simp only [aop, aBuiltin] at hr ⊢
      split at hr <;> (try simp only [Option.map_eq_some_iff] at hr) <;> try (cases hr; done)
      all_goals simp_all
      all_goals (obtain ⟨a, ha, rfl⟩ := hr; simp_all)
    · cases hp
  all_goals
    simp only [aop, Option.map_eq_some_iff, Option.some.injEq] at hr ⊢
    first
      | (subst hr; exact ⟨rfl, fun _ => rfl⟩)
      | (obtain ⟨a, ha, rfl⟩ := hr; exact ⟨rfl, fun H' => ⟨a, ha, rfl⟩⟩)
theorem kPure_callee {o : Op} (hp : kPure o = true) (F : Fr) : calleeOf o F = none := by
  unfold calleeOf
  split
  · rename_i c
    obtain ⟨callee, args, ts⟩ := c
    unfold kPure at hp
    cases callee with
    | value f => simp at hp
    | _ => rfl
  · rfl
theorem kPure_chg {o : Op} (hp : kPure o = true) : kChg q o = false := by
  cases o <;> simp only [kPure, Bool.false_eq_true] at hp <;> simp only [kChg]
  rename_i c
  split at hp
  · rename_i h; rw [h]
  · rename_i h; rw [h]
  · cases hp
theorem kChg_spec {o : Op} (hp : kChg q o = false) {F : Fr} (hc : calleeOf o F = none) {H : AHeap} {r : AV × AHeap} (hr : aop P o F H = some r) : r.2 = H := by
  cases o <;> simp only [kChg, Bool.true_eq_false] at hp
  case pick c a b => exact (kPure_spec rfl hr).1
  case nilCheck x => exact (kPure_spec rfl hr).1
  case makeFunc fn first caps => exact (kPure_spec rfl hr).1
  case load t x =>
    simp only [aop, aLoad] at hr
    split at hr
    · obtain ⟨g, -, hr⟩ := bind_some' hr
      cases g
      · simp only [cond_false, Option.map_eq_some_iff] at hr; obtain ⟨a, -, rfl⟩ := hr; rfl
      · simp only [cond_true] at hr
        obtain ⟨a, -, hr⟩ := bind_some' hr
        simp only [Option.map_eq_some_iff] at hr; obtain ⟨a, -, rfl⟩ := hr; rfl
    · cases hr
  case call c =>
    obtain ⟨callee, args, ts⟩ := c
    simp only at hp
    simp only [aop] at hr
    split at hp
    · simp only [aBuiltin] at hr
      split at hr <;> (try simp only [Option.map_eq_some_iff] at hr) <;> try (cases hr; done)
      all_goals simp_all
      all_goals (obtain ⟨a, ha, rfl⟩ := hr; simp_all)
    · simp only [aBuiltin] at hr
      split at hr <;> (try simp only [Option.map_eq_some_iff] at hr) <;> try (cases hr; done)
      all_goals simp_all
      all_goals (obtain ⟨a, ha, rfl⟩ := hr; simp_all)
    · simp only [aBuiltin] at hr
      split at hr <;> (try simp only [Option.map_eq_some_iff] at hr) <;> try (cases hr; done)
      all_goals simp_all
      all_goals (obtain ⟨a, ha, rfl⟩ := hr; simp_all)
    · cases hr
    · cases hp
  all_goals
    simp only [aop, Option.map_eq_some_iff, Option.some.injEq] at hr
    first
      | (subst hr; rfl)
      | (obtain ⟨a, ha, rfl⟩ := hr; rfl)
/-- One operation must come before another one. -/
inductive Pred (ops : Array Oper) : Nat → Nat → Prop where
  | edge {j : Nat} {o : Oper} {e : Edge} : ops[j]? = some o → e ∈ o.after → Region.binds .any e = true → Pred ops e.on j
  | step {i j : Nat} {o : Oper} {e : Edge} : ops[j]? = some o → e ∈ o.after → Region.binds .any e = true → Pred ops i e.on → Pred ops i j
def maskOf (acc : List Nat) (o : Oper) : Nat := o.after.toList.foldl (fun s e => if Region.binds .any e then s ||| 2 ^ e.on ||| acc.getD e.on 0 else s) 0
def masksGo : List Oper → List Nat → List Nat
  | [], acc => acc
  | o :: os, acc => masksGo os (acc ++ [maskOf acc o])
def masks (ops : Array Oper) : List Nat := masksGo ops.toList []
theorem maskFold (acc : List Nat) (i : Nat) : ∀ (l : List Edge) (s : Nat), (l.foldl (fun s e => if Region.binds .any e then s ||| 2 ^ e.on ||| acc.getD e.on 0 else s) s).testBit i = true →
    s.testBit i = true ∨ ∃ e ∈ l, Region.binds .any e = true ∧ (e.on = i ∨ (acc.getD e.on 0).testBit i = true)
  | [], s, h => .inl h
  | e :: l, s, h => by
    simp only [List.foldl_cons] at h
    rcases maskFold acc i l _ h with h | ⟨e', h1, h2⟩
    · split at h
      · rename_i hb
        simp only [Nat.testBit_or, Bool.or_eq_true] at h
        rcases h with (h | h) | h
        · exact .inl h
        · rw [Nat.testBit_two_pow] at h
          exact .inr ⟨e, by simp, hb, .inl (by simpa using h)⟩
        · exact .inr ⟨e, by simp, hb, .inr h⟩
      · exact .inl h
    · exact .inr ⟨e', by simp [h1], h2⟩
theorem masksGo_spec (ops : Array Oper) : ∀ (l : List Oper) (acc : List Nat), ops.toList.drop acc.length = l → (∀ j i, (acc.getD j 0).testBit i = true → Pred ops i j) → ∀ j i, ((masksGo l acc).getD j 0).testBit i = true → Pred ops i j
  | [], acc, _, h => h
  | o :: os, acc, hl, h => by
    have ho : ops[acc.length]? = some o := by
      have := congrArg (·[0]?) hl
      simpa using this
    refine masksGo_spec ops os _ (by have := congrArg (List.drop 1) hl; simpa using this) ?_
    intro j i hb
    by_cases hj : j < acc.length
    · refine h j i ?_
      rwa [List.getD_eq_getElem?_getD, List.getElem?_append_left hj, ← List.getD_eq_getElem?_getD] at hb
    · by_cases hj2 : j = acc.length
      · subst hj2
        rw [List.getD_eq_getElem?_getD, List.getElem?_append_right (Nat.le_refl _)] at hb
        simp at hb
        unfold maskOf at hb
        rcases maskFold acc i _ _ hb with hb | ⟨e, h1, h2, h3⟩
        · simp at hb
        · rcases h3 with rfl | h3
          · exact .edge ho (by simpa using h1) h2
          · exact .step ho (by simpa using h1) h2 (h _ _ h3)
      · rw [List.getD_eq_getElem?_getD, List.getElem?_eq_none (by simp; omega)] at hb
        simp at hb
theorem masks_spec {ops : Array Oper} {i j : Nat} (h : ((masks ops).getD j 0).testBit i = true) : Pred ops i j :=
  masksGo_spec ops ops.toList [] rfl (fun j i h => by simp at h) j i h
/-- The latest operation ahead of i that writes the slot makes a row anew. -/
def freshAt (ops : Array Oper) : Nat → Tmp → Bool
  | 0, _ => false
  | i + 1, t =>
    match ops[i]? with
    | some o => bif o.dst == some t then (match o.op with
        | .buildSlice .. => true
        | .call c => (match c.callee, c.args.toList with | .builtin .append, .tmp s :: _ => freshAt ops i s | _, _ => false)
        | _ => false) else freshAt ops i t
    | none => false
/-- Leaves every block that was there before the region as it was. -/
def kExt (ops : Array Oper) (i : Nat) (o : Op) : Bool :=
  kNew o || (match o with
    | .call c => (match c.callee, c.args.toList with | .value _, _ => true | .builtin .append, .tmp s :: _ => freshAt ops i s | _, _ => false)
    | _ => false)
/-- Two operations whose order matters are ordered. -/
def pairOk (q : Bool) (ops : Array Oper) (m : List Nat) (i j : Nat) (a b : Oper) : Bool :=
  (match a.dst with | some t => b.dst != some t && ((m.getD j 0).testBit i || (m.getD i 0).testBit j || !(b.looksAt ops).contains t) | none => true) &&
  ((m.getD j 0).testBit i || (m.getD i 0).testBit j || !kChg q a.op || kPure b.op || (kExt ops i a.op && kRead b.op))
def drawOk (q : Bool) (N : Nat) (ops : Array Oper) : Bool :=
  dstsOk N ops && (ops.toList.zipIdx.all fun p => p.1.after.all fun e => !Region.binds .any e || decide (e.on < p.2)) &&
  (let m := masks ops; ops.toList.zipIdx.all fun p => ops.toList.zipIdx.all fun r => p.2 == r.2 || pairOk q ops m p.2 r.2 p.1 r.1)
structure DrawOk (q : Bool) (N : Nat) (ops : Array Oper) : Prop where
  dst : ∀ (i : Nat) (o : Oper) (t : Tmp), ops[i]? = some o → o.dst = some t → t < N
  back : ∀ (i : Nat) (o : Oper) (e : Edge), ops[i]? = some o → e ∈ o.after → Region.binds .any e = true → e.on < i
  one : ∀ (i j : Nat) (a b : Oper) (t : Tmp), ops[i]? = some a → ops[j]? = some b → i ≠ j → a.dst = some t → b.dst ≠ some t
  look : ∀ (i j : Nat) (a b : Oper) (t : Tmp), ops[i]? = some a → ops[j]? = some b → i ≠ j → a.dst = some t → t ∈ b.looksAt ops → Pred ops i j ∨ Pred ops j i
  chg : ∀ (i j : Nat) (a b : Oper), ops[i]? = some a → ops[j]? = some b → i ≠ j → kChg q a.op = true → kPure b.op = false → (Pred ops i j ∨ Pred ops j i) ∨ (kExt ops i a.op = true ∧ kRead b.op = true)
theorem drawOk_spec {q : Bool} {N : Nat} {ops : Array Oper} (h : drawOk q N ops = true) : DrawOk q N ops := by
  unfold drawOk at h
  simp only [Bool.and_eq_true] at h
  obtain ⟨⟨h1, h2⟩, h3⟩ := h
  have zi : ∀ i o, ops[i]? = some o → (o, i) ∈ ops.toList.zipIdx := fun i o ho => List.mem_iff_getElem?.2 ⟨i, by simp [List.getElem?_zipIdx, ho]⟩
  have pair : ∀ i j a b, ops[i]? = some a → ops[j]? = some b → i ≠ j → pairOk q ops (masks ops) i j a b = true := fun i j a b ha hb hij => by
    have := List.all_eq_true.1 (List.all_eq_true.1 h3 _ (zi i a ha)) _ (zi j b hb)
    simp only [Bool.or_eq_true, beq_iff_eq] at this
    exact this.resolve_left hij
  refine ⟨fun i o t ho ht => ?_, fun i o e ho he hb => ?_, fun i j a b t ha hb hij ht => ?_, fun i j a b t ha hb hij ht hl => ?_, fun i j a b ha hb hij hc hp => ?_⟩
  · have := Array.all_eq_true_iff_forall_mem.1 h1 o (Array.mem_of_getElem? ho)
    rw [ht] at this
    simpa using this
  · have := List.all_eq_true.1 h2 _ (zi i o ho)
    have := Array.all_eq_true_iff_forall_mem.1 this e he
    simpa [hb] using this
  · have := pair i j a b ha hb hij
    unfold pairOk at this
    rw [ht] at this
    simp only [Bool.and_eq_true, bne_iff_ne] at this
    exact this.1.1
  · have := pair i j a b ha hb hij
    unfold pairOk at this
    rw [ht] at this
    simp only [Bool.and_eq_true, Bool.or_eq_true] at this
    rcases this.1.2 with (h | h) | h
    · exact .inl (masks_spec h)
    · exact .inr (masks_spec h)
    · simp at h; exact absurd hl h
  · have := pair i j a b ha hb hij
    unfold pairOk at this
    simp only [Bool.and_eq_true, Bool.or_eq_true] at this
    rcases this.2 with (((h | h) | h) | h) | h
    · exact .inl (.inl (masks_spec h))
    · exact .inl (.inr (masks_spec h))
    · rw [hc] at h; cases h
    · rw [hp] at h; cases h
    · exact .inr h
theorem Pred.lt {ops : Array Oper} {q : Bool} {N : Nat} (hok : DrawOk q N ops) {i j : Nat} (h : Pred ops i j) : i < j := by
  induction h with
  | edge ho he hb => exact hok.back _ _ _ ho he hb
  | step ho he hb _ ih => exact Nat.lt_trans ih (hok.back _ _ _ ho he hb)
/-- The listed operations' forerunners are listed. -/
def Closed (ops : Array Oper) (L : Nat → Bool) : Prop := ∀ (j : Nat) (o : Oper) (e : Edge), ops[j]? = some o → L j = true → e ∈ o.after → Region.binds .any e = true → L e.on = true
theorem Pred.listed {ops : Array Oper} {L : Nat → Bool} (hc : Closed ops L) {i j : Nat} (h : Pred ops i j) : (∀ o e, ops[j]? = some o → e ∈ o.after → Region.binds .any e = true → L e.on = true) → L i = true := by
  induction h with
  | edge ho he hb => exact fun hr => hr _ _ ho he hb
  | step ho he hb _ ih => exact fun hr => ih fun o' e' ho' he' hb' => hc _ o' e' ho' (hr _ _ ho he hb) he' hb'
/-- What a slot holds when the operations in L (below k) are done. -/
def curV (ops : Array Oper) (L : Nat → Bool) (r : Nat → AV) (F : Fr) : Nat → Nat → AV
  | 0, t => look F t
  | k + 1, t => if L k = true ∧ (ops[k]?).bind (·.dst) = some t then r k else curV ops L r F k t
/-- The memory when the operations in L (below k) are done. -/
def curH (q : Bool) (ops : Array Oper) (L : Nat → Bool) (h : Nat → AHeap) (H : AHeap) : Nat → AHeap
  | 0 => H
  | k + 1 => if L k = true ∧ ((ops[k]?).map fun o => kChg q o.op) = some true then h (k + 1) else curH q ops L h H k
theorem curV_succ {ops : Array Oper} {L : Nat → Bool} {r : Nat → AV} {F : Fr} {t k : Nat} : curV ops L r F (k + 1) t = if L k = true ∧ (ops[k]?).bind (·.dst) = some t then r k else curV ops L r F k t := rfl
theorem curH_succ {q : Bool} {ops : Array Oper} {L : Nat → Bool} {h : Nat → AHeap} {H : AHeap} {k : Nat} : curH q ops L h H (k + 1) = if L k = true ∧ ((ops[k]?).map fun o => kChg q o.op) = some true then h (k + 1) else curH q ops L h H k := rfl
theorem curV_congr {ops : Array Oper} {L L' : Nat → Bool} {r : Nat → AV} {F : Fr} {t : Nat} : ∀ k, (∀ i, i < k → (ops[i]?).bind (·.dst) = some t → L i = L' i) → curV ops L r F k t = curV ops L' r F k t
  | 0, _ => rfl
  | k + 1, h => by
    unfold curV
    have ih := curV_congr (L := L) (L' := L') (r := r) (F := F) k (fun i hi => h i (by omega))
    by_cases hd : (ops[k]?).bind (·.dst) = some t
    · rw [h k (by omega) hd, ih]
    · rw [if_neg (fun hh => hd hh.2), if_neg (fun hh => hd hh.2), ih]
theorem curH_congr {q : Bool} {ops : Array Oper} {L L' : Nat → Bool} {h : Nat → AHeap} {H : AHeap} : ∀ k, (∀ i, i < k → ((ops[i]?).map fun o => kChg q o.op) = some true → L i = L' i) → curH q ops L h H k = curH q ops L' h H k
  | 0, _ => rfl
  | k + 1, hh => by
    unfold curH
    have ih := curH_congr (L := L) (L' := L') (h := h) (H := H) k (fun i hi => hh i (by omega))
    by_cases hd : ((ops[k]?).map fun o => kChg q o.op) = some true
    · rw [hh k (by omega) hd, ih]
    · rw [if_neg (fun x => hd x.2), if_neg (fun x => hd x.2), ih]
theorem curV_below {ops : Array Oper} {r : Nat → AV} {F : Fr} {t j : Nat} : ∀ k, j ≤ k → curV ops (fun i => decide (i < j)) r F k t = curV ops (fun _ => true) r F j t
  | 0, h => by
    have : j = 0 := by omega
    subst this; rfl
  | k + 1, h => by
    by_cases hj : j = k + 1
    · subst hj
      exact curV_congr _ (fun i hi _ => by simpa using hi)
    · rw [curV_succ (k := k)]
      rw [if_neg (fun hh => by have := hh.1; simp at this; omega)]
      exact curV_below (j := j) k (by omega)
theorem curH_below {q : Bool} {ops : Array Oper} {h : Nat → AHeap} {H : AHeap} {j : Nat} : ∀ k, j ≤ k → curH q ops (fun i => decide (i < j)) h H k = curH q ops (fun _ => true) h H j
  | 0, hh => by
    have : j = 0 := by omega
    subst this; rfl
  | k + 1, hh => by
    by_cases hj : j = k + 1
    · subst hj
      exact curH_congr _ (fun i hi _ => by simpa using hi)
    · rw [curH_succ (k := k)]
      rw [if_neg (fun hh => by have := hh.1; simp at this; omega)]
      exact curH_below (j := j) k (by omega)
theorem curV_text {P : Program} {q : Bool} {m : Nat} {ops : Array Oper} {F : Fr} {H : AHeap} {r : Nat → AV} {h : Nat → AHeap} {fr : Nat → Fr} (st : Steps' P q m ops 0 F H r h fr) (t : Nat) : ∀ k, k ≤ ops.size → curV ops (fun _ => true) r F k t = look (fr k) t
  | 0, _ => by rw [st.fr0]; rfl
  | k + 1, hk => by
    have ho : ops[k]? = some ops[k] := Array.getElem?_eq_getElem (by omega)
    have ih := curV_text st t k (by omega)
    obtain ⟨e1, -⟩ := st.step k _ (by omega) ho
    unfold curV
    have hb : (ops[k]?).bind (·.dst) = ops[k].dst := by rw [ho]; rfl
    rw [e1, ih, hb]
    cases hd : ops[k].dst with
    | none => simp [putF]
    | some d =>
      show (if (fun _ => true) k = true ∧ some d = some t then r k else look (fr k) t) = (bif d == t then r k else look (fr k) t)
      by_cases e : d = t
      · simp [e]
      · have e' : (d == t) = false := by simp [e]
        simp [e, e']
theorem step_keeps {P : Program} {q : Bool} {m : Nat} {ops : Array Oper} {F : Fr} {H : AHeap} {r : Nat → AV} {h : Nat → AHeap} {fr : Nat → Fr} (st : Steps' P q m ops 0 F H r h fr) {k : Nat} {o : Oper} (ho : ops[k]? = some o) (hc : kChg q o.op = false) : h (k + 1) = h k := by
  obtain ⟨-, h2⟩ := st.step k o (by omega) ho
  rcases h2 with ⟨-, h2⟩ | ⟨-, -, h2⟩
  · unfold DoOp at h2
    cases hcal : calleeOf o.op (fr k) with
    | some p =>
      rw [hcal] at h2
      refine h2.2.1 ?_
      cases hop : o.op <;> rw [hop] at hcal hc <;> try (simp [calleeOf] at hcal; done)
      rename_i c
      obtain ⟨callee, args, ts⟩ := c
      cases callee <;> simp [calleeOf] at hcal
      simpa [kChg] using hc
    | none =>
      rw [hcal] at h2
      exact kChg_spec hc hcal h2.2
  · exact h2
theorem curH_text {P : Program} {q : Bool} {m : Nat} {ops : Array Oper} {F : Fr} {H : AHeap} {r : Nat → AV} {h : Nat → AHeap} {fr : Nat → Fr} (st : Steps' P q m ops 0 F H r h fr) : ∀ k, k ≤ ops.size → curH q ops (fun _ => true) h H k = h k
  | 0, _ => by rw [st.h0]; rfl
  | k + 1, hk => by
    have ho : ops[k]? = some ops[k] := Array.getElem?_eq_getElem (by omega)
    unfold curH
    rw [ho]
    simp only [Option.map_some, Option.some.injEq, true_and]
    by_cases hc : kChg q ops[k].op = true
    · rw [if_pos hc]
    · rw [if_neg hc, curH_text st k (by omega), step_keeps st ho (by simpa using hc)]
/-- How many operations are still to be listed. -/
def unl (l : List Bool) : Nat := l.countP (fun b => !b)
theorem unl_set {l : List Bool} {k : Nat} (hk : k < l.length) (hb : l[k]? = some false) : unl (l.set k true) + 1 = unl l := by
  induction l generalizing k with
  | nil => simp at hk
  | cons b bs ih =>
    cases k with
    | zero =>
      have : b = false := by simpa using hb
      subst this
      simp [unl]
    | succ k =>
      have := ih (k := k) (by simpa using hk) (by simpa using hb)
      cases b <;> simp [unl] at this ⊢ <;> omega
theorem kRead_chg {o : Op} (h : kChg q o = true) : kRead o = false := by
  cases o <;> first | rfl | (simp [kChg] at h; done) | skip
  rename_i c
  obtain ⟨callee, args, ts⟩ := c
  simp only [kChg] at h
  simp only [kRead]
  split at h <;> simp_all
theorem kRead_pure {o : Op} (h : kRead o = true) : kPure o = false := by
  cases o <;> first | rfl | (simp [kRead] at h; done) | skip
  rename_i c
  obtain ⟨callee, args, ts⟩ := c
  simp only [kRead] at h
  simp only [kPure]
  split at h <;> simp_all
theorem kRead_callee {o : Op} (h : kRead o = true) {F : Fr} : calleeOf o F = none := by
  cases o <;> first | rfl | (simp [kRead] at h; done) | skip
  rename_i c
  obtain ⟨callee, args, ts⟩ := c
  simp only [kRead] at h
  split at h
  · rfl
  · cases h
theorem load_same {o : Op} (ho : kRead o = true) {F : Fr} {H1 H2 H' : AHeap} {x : AV} (hl : lateOk m o F) (h : aop P o F H1 = some (x, H')) (he : ∀ b, b < m → H2[b]? = H1[b]?) : aop P o F H2 = some (x, H2) := by
  cases o <;> first | (simp [kRead] at ho; done) | skip
  case load t a =>
    simp only [aop, aLoad] at h ⊢
    simp only [lateOk] at hl
    split at h
    · rename_i b o hab
      rw [hab] at hl
      simp only [belowV] at hl
      have e1 : ∀ n, ards H2 b o n = ards H1 b o n := fun n => by unfold ards; rw [he b hl]
      have e2 : ard H2 b o = ard H1 b o := by unfold ard; rw [he b hl]
      rw [e2]
      obtain ⟨g, hg, h⟩ := bind_some' h
      rw [hg]
      simp only [Option.bind_some]
      cases g
      · simp only [cond_false, Option.map_eq_some_iff, Prod.mk.injEq] at h ⊢
        obtain ⟨v, h1, rfl, _⟩ := h
        exact ⟨v, h1, rfl, trivial⟩
      · simp only [cond_true] at h ⊢
        obtain ⟨n, hn, h⟩ := bind_some' h
        rw [hn]
        simp only [Option.bind_some]
        rw [e1]
        simp only [Option.map_eq_some_iff, Prod.mk.injEq] at h ⊢
        obtain ⟨v, h1, rfl, _⟩ := h
        exact ⟨v, h1, rfl, trivial⟩
    · cases h
  case slice t a lo hi mx =>
    simp only [aop, Option.map_eq_some_iff, Prod.mk.injEq] at h ⊢
    obtain ⟨v, h1, rfl, _⟩ := h
    refine ⟨v, ?_, rfl, trivial⟩
    rw [← h1]
    simp only [lateOk] at hl
    generalize aev F a = y at *
    unfold aSlice
    cases y <;> try rfl
    rename_i a' n c
    cases a' with
    | none => rfl
    | some p =>
      obtain ⟨b, o⟩ := p
      simp only [belowV] at hl
      simp only [he b hl]
  case call c =>
    obtain ⟨callee, args, ts⟩ := c
    simp only [kRead] at ho
    split at ho
    · simp only [aop, aBuiltin] at h ⊢
      simp only [lateOk] at hl
      split at h
      all_goals first | (cases h; done) | skip
      all_goals first | (simp_all; done) | skip
      rename_i t x e1 e2 e3
      simp only [Option.map_eq_some_iff, Prod.mk.injEq] at h
      obtain ⟨v, h1, rfl, _⟩ := h
      simp only [Option.map_eq_some_iff, Prod.mk.injEq]
      refine ⟨v, ?_, rfl, trivial⟩
      rw [← h1]
      unfold aLen
      cases x <;> try rfl
      rename_i r
      cases r with
      | none => rfl
      | some b =>
        cases ha : args.toList with
        | nil => rw [ha] at e3; simp at e3
        | cons y ys =>
          rw [ha] at e3 hl
          simp only [List.map_cons, List.cons.injEq] at e3
          simp only [e3.1, lenV] at hl
          simp only [aEnts, he b hl]
    · cases ho
theorem kNew_spec {o : Op} (ho : kNew o = true) {F : Fr} {H : AHeap} {r : AV × AHeap} (h : aop P o F H = some r) : ∃ l, r.2 = H ++ l := by
  cases o <;> first | (simp [kNew] at ho; done) | skip
  case alloc t =>
    simp only [aop, aAlloc, aNew, Option.map_eq_some_iff] at h
    obtain ⟨z, -, rfl⟩ := h; exact ⟨_, rfl⟩
  case box t x =>
    simp only [aop, aBox, aNew, Option.map_eq_some_iff] at h
    obtain ⟨z, -, rfl⟩ := h; exact ⟨_, rfl⟩
  case buildSlice t n ps =>
    simp only [aop, aBuildSlice] at h
    obtain ⟨_, -, h⟩ := bind_some' h
    obtain ⟨_, -, h⟩ := bind_some' h
    obtain ⟨_, -, h⟩ := bind_some' h
    obtain ⟨_, -, h⟩ := bind_some' h
    simp only [Option.map_eq_some_iff] at h
    obtain ⟨_, -, rfl⟩ := h; exact ⟨_, rfl⟩
  case makeSlice t l c =>
    simp only [aop, aMakeSlice] at h
    split at h
    · obtain ⟨_, -, h⟩ := bind_some' h
      obtain ⟨_, -, h⟩ := bind_some' h
      obtain ⟨_, -, h⟩ := bind_some' h
      obtain ⟨_, -, h⟩ := bind_some' h
      simp only [Option.map_eq_some_iff] at h
      obtain ⟨_, -, rfl⟩ := h; exact ⟨_, rfl⟩
    · cases h
  case makeMap t x =>
    simp only [aop] at h
    split at h
    · simp only [Option.some.injEq] at h; subst h; exact ⟨_, rfl⟩
    · split at h
      · simp only [Option.map_eq_some_iff] at h
        obtain ⟨_, -, rfl⟩ := h; exact ⟨_, rfl⟩
      · cases h
theorem awrite_len {H : AHeap} {b o : Nat} {ys : List AV} {H' : AHeap} (h : awrite H b o ys = some H') : H'.length = H.length := by
  unfold awrite at h
  split at h
  · split at h
    · simp only [Option.some.injEq] at h; subst h; simp
    · cases h
  · cases h
theorem aStore_len {t : TypeId} {x y : AV} {H H' : AHeap} (h : aStore P t x y H = some H') : H'.length = H.length := by
  unfold aStore at h
  split at h
  · obtain ⟨_, -, h⟩ := bind_some' h
    exact awrite_len h
  · cases h
theorem cond_or {α : Type} {c : Bool} {a b r : Option α} (h : (bif c then a else b) = r) : a = r ∨ b = r := by
  cases c
  · exact .inr h
  · exact .inl h
theorem aAppend_len {t : TypeId} {s x : AV} {H : AHeap} {r : AV × AHeap} (h : aAppend P t s x H = some r) : H.length ≤ r.2.length := by
  unfold aAppend at h
  obtain ⟨_, -, h1⟩ := bind_some' h
  obtain ⟨_, -, h2⟩ := bind_some' h1
  obtain ⟨_, -, h3⟩ := bind_some' h2
  obtain ⟨_, -, h4⟩ := bind_some' h3
  obtain ⟨mx, -, h5⟩ := bind_some' h4
  obtain ⟨_, -, h6⟩ := bind_some' h5
  clear h h1 h2 h3 h4 h5
  have h := h6
  clear h6
  split at h
  · obtain ⟨_, -, h⟩ := bind_some' h
    cases hz : mx.1 == 0
    · rw [hz, cond_false] at h
      simp only [Option.map_eq_some_iff] at h
      obtain ⟨_, -, rfl⟩ := h
      simp
    · rw [hz, cond_true] at h
      simp only [Option.some.injEq] at h; subst h; exact Nat.le_refl _
  · rename_i b o n cap
    obtain ⟨_, -, h⟩ := bind_some' h
    obtain ⟨_, -, h⟩ := bind_some' h
    rcases cond_or h with h | h
    · simp only [Option.some.injEq] at h; subst h; exact Nat.le_refl _
    · rcases cond_or h with h | h
      · simp only [Option.some.injEq] at h; subst h; simp
      · split at h
        · simp only [Option.map_eq_some_iff] at h
          obtain ⟨_, -, rfl⟩ := h
          simp
        · cases h
  · cases h
theorem aCopy_len {t : TypeId} {d s : AV} {H : AHeap} {r : AV × AHeap} (h : aCopy P t d s H = some r) : H.length ≤ r.2.length := by
  unfold aCopy at h
  obtain ⟨_, -, h1⟩ := bind_some' h
  obtain ⟨_, -, h2⟩ := bind_some' h1
  clear h h1
  have h := h2
  clear h2
  split at h
  · rename_i b o n c b' o' k c'
    cases hz : min k n == 0
    · rw [hz, cond_false] at h
      obtain ⟨_, -, h⟩ := bind_some' h
      simp only [Option.map_eq_some_iff] at h
      obtain ⟨_, h1, rfl⟩ := h
      rw [awrite_len h1]; exact Nat.le_refl _
    · rw [hz, cond_true] at h
      simp only [Option.some.injEq] at h; subst h; exact Nat.le_refl _
  · simp only [Option.some.injEq] at h; subst h; exact Nat.le_refl _
  · simp only [Option.some.injEq] at h; subst h; exact Nat.le_refl _
  · cases h
theorem aDelete_len {t : TypeId} {d k : AV} {H H' : AHeap} (h : aDelete P t d k H = some H') : H'.length = H.length := by
  unfold aDelete at h
  split at h
  · split at h
    · obtain ⟨_, -, h⟩ := bind_some' h
      obtain ⟨_, -, h⟩ := bind_some' h
      simp only [Option.map_eq_some_iff] at h
      obtain ⟨z, -, h⟩ := h
      subst h
      cases z <;> simp
    · cases h
  · cases h
theorem aMapUpdate_len {t : TypeId} {d k x : AV} {H H' : AHeap} (h : aMapUpdate P t d k x H = some H') : H'.length = H.length := by
  unfold aMapUpdate at h
  split at h
  · split at h
    · obtain ⟨_, -, h⟩ := bind_some' h
      obtain ⟨_, -, h⟩ := bind_some' h
      obtain ⟨z, -, h⟩ := bind_some' h
      cases z with
      | none => simp only [Option.some.injEq] at h; subst h; simp
      | some z =>
        simp only [Option.map_eq_some_iff] at h
        obtain ⟨_, -, rfl⟩ := h
        simp
    · cases h
  · cases h
theorem aop_len {o : Op} {F : Fr} {H : AHeap} {r : AV × AHeap} (h : aop P o F H = some r) : H.length ≤ r.2.length := by
  cases hk : kNew o with
  | true =>
    obtain ⟨l, hl⟩ := kNew_spec hk h
    rw [hl]; simp
  | false =>
    cases o <;> first | (have := kChg_spec (q := true) rfl rfl h; rw [this]; exact Nat.le_refl _) | (simp [kNew] at hk; done) | (simp [aop] at h; done) | skip
    case store t a x =>
      simp only [aop, Option.map_eq_some_iff] at h
      obtain ⟨_, h1, rfl⟩ := h
      rw [aStore_len h1]; exact Nat.le_refl _
    case mapUpdate t a k x =>
      simp only [aop, Option.map_eq_some_iff] at h
      obtain ⟨_, h1, rfl⟩ := h
      rw [aMapUpdate_len h1]; exact Nat.le_refl _
    case call c =>
      simp only [aop] at h
      split at h
      · simp only [aBuiltin] at h
        split at h
        · simp only [Option.map_eq_some_iff] at h; obtain ⟨_, -, rfl⟩ := h; exact Nat.le_refl _
        · obtain ⟨_, -, h⟩ := bind_some' h
          exact aAppend_len h
        · exact aCopy_len h
        · simp only [Option.map_eq_some_iff] at h; obtain ⟨_, h1, rfl⟩ := h; rw [aDelete_len h1]; exact Nat.le_refl _
        · simp only [Option.map_eq_some_iff] at h; obtain ⟨_, -, rfl⟩ := h; exact Nat.le_refl _
        · simp only [Option.map_eq_some_iff] at h; obtain ⟨_, -, rfl⟩ := h; exact Nat.le_refl _
        · cases h
      · cases h
theorem kNew_callee {o : Op} (h : kNew o = true) {F : Fr} : calleeOf o F = none := by
  cases o <;> first | rfl | (simp [kNew] at h)
theorem h_mono {F : Fr} {H : AHeap} {r : Nat → AV} {h : Nat → AHeap} {fr : Nat → Fr} (st : Steps' P q m ops 0 F H r h fr) : ∀ k, k ≤ ops.size → H.length ≤ (h k).length
  | 0, _ => by rw [st.h0]; exact Nat.le_refl _
  | k + 1, hk => by
    have ho : ops[k]? = some ops[k] := Array.getElem?_eq_getElem (by omega)
    have ih := h_mono st k (by omega)
    obtain ⟨-, h2⟩ := st.step k _ (by omega) ho
    rcases h2 with ⟨-, h2⟩ | ⟨-, -, h2⟩
    · unfold DoOp at h2
      cases hcal : calleeOf ops[k].op (fr k) with
      | some p => rw [hcal] at h2; exact Nat.le_trans ih h2.2.2.1.1
      | none => rw [hcal] at h2; exact Nat.le_trans ih (aop_len h2.2)
    · rw [h2]; exact ih
def freshV (m : Nat) : AV → Prop
  | .sl (some (b, _)) _ _ => m ≤ b
  | _ => True
theorem aAppend_fresh {t : TypeId} {s x : AV} {H : AHeap} {r : AV × AHeap} (hs : freshV m s) (hm : m ≤ H.length) (h : aAppend P t s x H = some r) : freshV m r.1 ∧ ∀ b, b < m → r.2[b]? = H[b]? := by
  unfold aAppend at h
  obtain ⟨_, -, h1⟩ := bind_some' h
  obtain ⟨_, -, h2⟩ := bind_some' h1
  obtain ⟨_, -, h3⟩ := bind_some' h2
  obtain ⟨_, -, h4⟩ := bind_some' h3
  obtain ⟨mx, -, h5⟩ := bind_some' h4
  obtain ⟨_, -, h6⟩ := bind_some' h5
  clear h h1 h2 h3 h4 h5
  have h := h6
  clear h6
  split at h
  · obtain ⟨_, -, h⟩ := bind_some' h
    cases hz : mx.1 == 0
    · rw [hz, cond_false] at h
      simp only [Option.map_eq_some_iff] at h
      obtain ⟨_, -, rfl⟩ := h
      exact ⟨hm, fun b hb => List.getElem?_append_left (Nat.lt_of_lt_of_le hb hm)⟩
    · rw [hz, cond_true] at h
      simp only [Option.some.injEq] at h; subst h; exact ⟨trivial, fun _ _ => rfl⟩
  · rename_i b o n cap
    obtain ⟨_, -, h⟩ := bind_some' h
    obtain ⟨_, -, h⟩ := bind_some' h
    rcases cond_or h with h | h
    · simp only [Option.some.injEq] at h; subst h; exact ⟨hs, fun _ _ => rfl⟩
    · rcases cond_or h with h | h
      · simp only [Option.some.injEq] at h; subst h
        exact ⟨hm, fun b hb => List.getElem?_append_left (Nat.lt_of_lt_of_le hb hm)⟩
      · split at h
        · simp only [Option.map_eq_some_iff] at h
          obtain ⟨_, -, rfl⟩ := h
          refine ⟨hm, fun b' hb => ?_⟩
          have hs' : m ≤ b := hs
          show (H.set b .dead ++ _)[b']? = _
          rw [List.getElem?_append_left (by rw [List.length_set]; omega), List.getElem?_set_ne (by omega)]
        · cases h
  · cases h
theorem fresh_at {F : Fr} {H : AHeap} {r : Nat → AV} {h : Nat → AHeap} {fr : Nat → Fr} (st : Steps' P q m ops 0 F H r h fr) (hml : ∀ k, k ≤ ops.size → m ≤ (h k).length) : ∀ (i : Nat) (t : Tmp), i ≤ ops.size → freshAt ops i t = true → freshV m (look (fr i) t)
  | 0, _, _, hf => by simp [freshAt] at hf
  | i + 1, t, hi, hf => by
    unfold freshAt at hf
    have ho : ops[i]? = some ops[i] := Array.getElem?_eq_getElem (by omega)
    rw [ho] at hf
    simp only at hf
    obtain ⟨e1, h2⟩ := st.step i _ (by omega) ho
    rw [e1]
    cases hd : ops[i].dst == some t with
    | false =>
      rw [hd, cond_false] at hf
      have ih := fresh_at st hml i t (by omega) hf
      unfold putF
      cases hdst : ops[i].dst with
      | none => simpa [hdst] using ih
      | some d =>
        rw [hdst] at hd
        have hne : (d == t) = false := by simpa using hd
        simp only [look, hne, cond_false]
        exact ih
    | true =>
      rw [hd, cond_true] at hf
      have hdst : ops[i].dst = some t := by simpa using hd
      rw [hdst]
      simp only [putF, look, beq_self_eq_true, cond_true]
      rcases h2 with ⟨-, h2⟩ | ⟨-, h2, -⟩
      · unfold DoOp at h2
        split at hf
        · rename_i t' n' ps hop
          rw [hop] at h2
          simp only [calleeOf] at h2
          have h3 := h2.2
          simp only [aop, aBuildSlice] at h3
          obtain ⟨_, -, h3⟩ := bind_some' h3
          obtain ⟨_, -, h3⟩ := bind_some' h3
          obtain ⟨_, -, h3⟩ := bind_some' h3
          obtain ⟨_, -, h3⟩ := bind_some' h3
          simp only [Option.map_eq_some_iff, Prod.mk.injEq] at h3
          obtain ⟨_, -, h4, -⟩ := h3
          rw [← h4]
          exact hml i (by omega)
        · rename_i c hop
          split at hf
          · rename_i s args hc1 hc2
            have ih := fresh_at st hml i s (by omega) hf
            rw [hop] at h2
            have hcal : calleeOf (.call c) (fr i) = none := by unfold calleeOf; simp only [hc1]
            rw [hcal] at h2
            have h3 := h2.2
            simp only [aop, hc1, hc2, aBuiltin, List.map_cons, aev] at h3
            split at h3
            all_goals first | (cases h3; done) | skip
            all_goals first | (simp_all; done) | skip
            rename_i e4 e5
            simp only [List.cons.injEq] at e5
            obtain ⟨_, -, h3⟩ := bind_some' h3
            rw [← e5.1] at h3
            exact (aAppend_fresh ih (hml i (by omega)) h3).1
          · cases hf
        · cases hf
      · rw [h2]; trivial
theorem ext_step {F : Fr} {H : AHeap} {r : Nat → AV} {h : Nat → AHeap} {fr : Nat → Fr} (st : Steps' P q m ops 0 F H r h fr) (hml : ∀ k, k ≤ ops.size → m ≤ (h k).length) {i : Nat} {c : Oper} (ho : ops[i]? = some c) (hk : kExt ops i c.op = true) : ∀ b, b < m → (h (i + 1))[b]? = (h i)[b]? := by
  have hi : i < ops.size := (Array.getElem?_eq_some_iff.1 ho).1
  obtain ⟨-, h2⟩ := st.step i c (by omega) ho
  rcases h2 with ⟨-, h2⟩ | ⟨-, -, h2⟩
  · unfold DoOp at h2
    unfold kExt at hk
    cases hn : kNew c.op with
    | true =>
      rw [kNew_callee hn] at h2
      obtain ⟨l', hl'⟩ := kNew_spec hn h2.2
      simp only at hl'
      exact fun b hb => by rw [hl', List.getElem?_append_left (Nat.lt_of_lt_of_le hb (hml i (by omega)))]
    | false =>
      rw [hn, Bool.false_or] at hk
      split at hk
      · rename_i cc hop
        split at hk
        · cases hcal : calleeOf c.op (fr i) with
          | some p => rw [hcal] at h2; exact h2.2.2.1.2
          | none =>
            have hc1 : ∃ f, cc.callee = .value f := ⟨_, by assumption⟩
            obtain ⟨f, hc1⟩ := hc1
            rw [hcal] at h2
            have h3 := h2.2
            rw [hop] at h3
            simp only [aop, hc1] at h3
            cases h3
        · rename_i s args hc1 hc2
          have hcal : calleeOf c.op (fr i) = none := by rw [hop]; unfold calleeOf; simp only [hc1]
          rw [hcal] at h2
          have h3 := h2.2
          rw [hop] at h3
          simp only [aop, hc1, hc2, aBuiltin, List.map_cons, aev] at h3
          split at h3
          all_goals first | (cases h3; done) | skip
          all_goals first | (simp_all; done) | skip
          rename_i e4 e5
          simp only [List.cons.injEq] at e5
          obtain ⟨_, -, h3⟩ := bind_some' h3
          rw [← e5.1] at h3
          exact (aAppend_fresh (fresh_at st hml i s (by omega) hk) (hml i (by omega)) h3).2
        · cases hk
      · cases hk
  · exact fun b _ => by rw [h2]
theorem h_keep {F : Fr} {H : AHeap} {r : Nat → AV} {h : Nat → AHeap} {fr : Nat → Fr} (st : Steps' P q m ops 0 F H r h fr) (hml : ∀ k, k ≤ ops.size → m ≤ (h k).length) : ∀ (d i0 : Nat), i0 + d ≤ ops.size → (∀ i c, i0 ≤ i → i < i0 + d → ops[i]? = some c → kChg q c.op = true → kExt ops i c.op = true) → ∀ b, b < m → (h (i0 + d))[b]? = (h i0)[b]?
  | 0, i0, _, _ => fun b _ => rfl
  | d + 1, i0, hd, hn => fun b hb => by
    have ih := h_keep st hml d i0 (by omega) (fun i c h1 h2 => hn i c h1 (by omega)) b hb
    have ho : ops[i0 + d]? = some ops[i0 + d] := Array.getElem?_eq_getElem (by omega)
    rw [show i0 + (d + 1) = i0 + d + 1 by omega]
    cases hc : kChg q ops[i0 + d].op with
    | false => rw [step_keeps st ho hc]; exact ih
    | true => rw [ext_step st hml ho (hn _ _ (by omega) (by omega) ho hc) b hb]; exact ih
theorem curH_is {L : Nat → Bool} {h : Nat → AHeap} {H : AHeap} (h0 : h 0 = H) : ∀ k, ∃ s, s ≤ k ∧ curH q ops L h H k = h s ∧ (s = 0 ∨ ∃ c, ops[s - 1]? = some c ∧ L (s - 1) = true ∧ kChg q c.op = true) ∧ ∀ i c, s ≤ i → i < k → ops[i]? = some c → kChg q c.op = true → L i = false
  | 0 => ⟨0, Nat.le_refl _, h0.symm, .inl rfl, fun i c h1 h2 => by omega⟩
  | k + 1 => by
    obtain ⟨s, s1, s2, s3, s4⟩ := curH_is (L := L) h0 k
    rw [curH_succ]
    by_cases hc : L k = true ∧ ((ops[k]?).map fun o => kChg q o.op) = some true
    · rw [if_pos hc]
      obtain ⟨c, h1, h2⟩ := Option.map_eq_some_iff.1 hc.2
      exact ⟨k + 1, Nat.le_refl _, rfl, .inr ⟨c, by simpa using h1, by simpa using hc.1, h2⟩, fun i c h1 h2 => by omega⟩
    · rw [if_neg hc]
      refine ⟨s, by omega, s2, s3, fun i c h1 h2 hi hcc => ?_⟩
      by_cases e : i = k
      · subst e
        cases hL : L i with
        | false => rfl
        | true => exact absurd ⟨hL, by rw [hi]; simp [hcc]⟩ hc
      · exact s4 i c h1 (by omega) hi hcc
theorem drawn_aux {F0 : Fr} {H0 : AHeap} {r : Nat → AV} {h : Nat → AHeap} {fr : Nat → Fr} (hm : m = H0.length) (hok : DrawOk q N ops) (st : Steps' P q m ops 0 F0 H0 r h fr) (hQ : Q .normal (fr ops.size) (h ops.size)) {E0 : Env} :
    ∀ (fuel : Nat) (listed : Array Bool) (E : Env) (w : World) (a : Act), listed.size = ops.size → unl listed.toList = fuel → Closed ops (fun i => listed.getD i false) → Env.leN n E0 E → n ≤ E.n → a.tmps.size = N → a.defers = [] →
      (∀ t, Rel E (curV ops (fun i => listed.getD i false) r F0 ops.size t) (a.tmps.getD t undef)) → Emb E (curH q ops (fun i => listed.getD i false) h H0 ops.size) w → wpAny P .any ops (LiftQ N n Q E0) fuel listed a w := by
  intro fuel
  induction fuel with
  | zero =>
    intro listed E w a hs hu hc hl hn h2 h3 h4 h5
    have hall : ∀ i, i < ops.size → listed.getD i false = true := fun i hi => by
      have hi' : i < listed.toList.length := by simp; omega
      have := List.countP_eq_zero.1 hu listed.toList[i] (List.getElem_mem hi')
      simp at this
      simp [hs, hi, this]
    have hready : Region.ready .any ops listed = [] := by
      apply List.eq_nil_iff_forall_not_mem.2
      intro j hj
      obtain ⟨h0, o, ho, -⟩ := mem_ready.1 hj
      have hj' := (Array.getElem?_eq_some_iff.1 ho).1
      have := hall j hj'
      simp [hs, hj'] at h0 this
      rw [this] at h0; cases h0
    refine ⟨hready, E, fr ops.size, h ops.size, hQ, hl, h2, h3, fun t => ?_, ?_⟩
    · have := h4 t
      rwa [curV_congr (L' := fun _ => true) ops.size (fun i hi _ => hall i hi), curV_text st t ops.size (Nat.le_refl _)] at this
    · rwa [curH_congr (L' := fun _ => true) ops.size (fun i hi _ => hall i hi), curH_text st ops.size (Nat.le_refl _)] at h5
  | succ fuel ih =>
    intro listed E w a hs hu hc hl hn h2 h3 h4 h5
    refine ⟨fun hr => ?_, fun j hj => ?_⟩
    · -- none is ready: all are listed
      exfalso
      have hall : ∀ i, i < ops.size → listed.getD i false = true := by
        intro i
        induction i using Nat.strongRecOn with
        | _ i ihi =>
          intro hi
          cases hli : listed.getD i false with
          | true => rfl
          | false =>
            exfalso
            have ho : ops[i]? = some ops[i] := Array.getElem?_eq_getElem hi
            have : i ∈ Region.ready .any ops listed := mem_ready.2 ⟨by simp [hs, hi] at hli ⊢; exact hli, _, ho, fun e he hb => by
              have hlt := hok.back i _ e ho he hb
              exact ihi e.on hlt (by omega)⟩
            rw [hr] at this; cases this
      have : unl listed.toList = 0 := List.countP_eq_zero.2 fun b hb => by
        obtain ⟨i, hi⟩ := List.mem_iff_getElem?.1 hb
        have hi' := getElem?_lt hi
        have := hall i (by simp at hi'; omega)
        simp at hi hi'
        rw [Array.getD_eq_getD_getElem?, hi] at this
        simpa using this
      omega
    · obtain ⟨hj0, o, ho, hed⟩ := mem_ready.1 hj
      have hj' := (Array.getElem?_eq_some_iff.1 ho).1
      have hjl : listed.getD j false = false := by simp [hs, hj'] at hj0 ⊢; exact hj0
      have hedge : ∀ o' e, ops[j]? = some o' → e ∈ o'.after → Region.binds .any e = true → listed.getD e.on false = true := fun o' e ho' he hb => by
        rw [ho] at ho'; simp at ho'; subst ho'; exact hed e he hb
      have predL : ∀ i, Pred ops i j → listed.getD i false = true := fun i hp => Pred.listed hc hp hedge
      have notL : ∀ i, Pred ops j i → listed.getD i false = false := fun i hp => by
        cases hli : listed.getD i false with
        | false => rfl
        | true =>
          have := Pred.listed hc hp (fun o' e ho' he hb => hc i o' e ho' hli he hb)
          rw [hjl] at this; cases this
      have order : ∀ i, i ≠ j → (Pred ops i j ∨ Pred ops j i) → listed.getD i false = decide (i < j) := fun i hij hp => by
        rcases hp with hp | hp
        · rw [predL i hp]; have := hp.lt hok; simp [this]
        · rw [notL i hp]; have := hp.lt hok; symm; simp; omega
      -- the slots that the operation looks at
      have slots : ∀ t ∈ o.looksAt ops, Rel E (look (fr j) t) (a.tmps.getD t undef) := fun t ht => by
        have := h4 t
        rw [curV_congr (L' := fun i => decide (i < j)) ops.size (fun i hi hd => by
          by_cases hij : i = j
          · subst hij; rw [hjl]; simp
          · cases hoi : ops[i]? with
            | none => rw [hoi] at hd; cases hd
            | some b =>
              rw [hoi] at hd
              exact order i hij (hok.look i j b o t hoi ho hij (by simpa using hd) ht)), curV_below ops.size (by omega), curV_text st t j (by omega)] at this
        exact this
      have mem : kPure o.op = false → kRead o.op = false → curH q ops (fun i => listed.getD i false) h H0 ops.size = h j := fun hp hnr => by
        rw [curH_congr (L' := fun i => decide (i < j)) ops.size (fun i hi hd => by
          by_cases hij : i = j
          · subst hij; rw [hjl]; simp
          · cases hoi : ops[i]? with
            | none => rw [hoi] at hd; cases hd
            | some b =>
              rw [hoi] at hd
              exact order i hij ((hok.chg i j b o hoi ho hij (by simpa using hd) hp).resolve_right fun hh => by rw [hnr] at hh; cases hh.2)), curH_below ops.size (by omega), curH_text st j (by omega)]
      have memR : kRead o.op = true → ∀ b, b < m → (curH q ops (fun i => listed.getD i false) h H0 ops.size)[b]? = (h j)[b]? := fun hrd b hb => by
        have hnp : kPure o.op = false := kRead_pure hrd
        obtain ⟨s, hs1, hs2, hs3, hs4⟩ := curH_is (q := q) (ops := ops) (L := fun i => listed.getD i false) (h := h) (H := H0) st.h0 ops.size
        have hnew : ∀ i c, ops[i]? = some c → kChg q c.op = true → i ≠ j → listed.getD i false ≠ decide (i < j) → kExt ops i c.op = true := fun i c hi hc' hij hne => by
          rcases hok.chg i j c o hi ho hij hc' hnp with h1 | h1
          · exact absurd (order i hij h1) hne
          · exact h1.1
        rw [hs2]
        have hjc : kChg q o.op = false := by
          cases hh : kChg q o.op with
          | false => rfl
          | true => have := kRead_chg hh; rw [hrd] at this; cases this
        rcases Nat.le_total s j with hsj | hsj
        · have hl := h_keep st (fun k hk => hm ▸ h_mono st k hk) (j - s) s (by omega) (fun i c hi1 hi2 hi hc' => hnew i c hi hc' (by omega) (by
            rw [hs4 i c hi1 (by omega) hi hc']; simp; omega)) b hb
          rw [show s + (j - s) = j by omega] at hl
          exact hl.symm
        · have hL : ∀ i c, j ≤ i → i < s → ops[i]? = some c → kChg q c.op = true → listed.getD i false = true := fun i c hi1 hi2 hi hc' => by
            rcases hs3 with h0 | ⟨c2, k1, k2, k3⟩
            · omega
            · by_cases e : i = s - 1
              · rw [e]; exact k2
              · have h2 : kRead c2.op = false := kRead_chg k3
                have h3 : kPure c2.op = false := by
                  cases hp : kPure c2.op with
                  | false => rfl
                  | true => rw [kPure_chg hp] at k3; cases k3
                rcases hok.chg i (s - 1) c c2 hi k1 e hc' h3 with (h4 | h4) | h4
                · exact Pred.listed hc h4 fun o' e' ho' he' hb' => hc (s - 1) o' e' ho' k2 he' hb'
                · have := h4.lt hok; omega
                · rw [h2] at h4; cases h4.2
          have hl := h_keep st (fun k hk => hm ▸ h_mono st k hk) (s - j) j (by omega) (fun i c hi1 hi2 hi hc' => by
            have hij : i ≠ j := fun e => by subst e; rw [ho] at hi; simp at hi; subst hi; rw [hjc] at hc'; cases hc'
            exact hnew i c hi hc' hij (by rw [hL i c hi1 (by omega) hi hc']; simp; omega)) b hb
          rw [show j + (s - j) = s by omega] at hl
          exact hl
      -- what comes next
      have get' : ∀ i, (listed.setIfInBounds j true).getD i false = if i = j then true else listed.getD i false := fun i => by
        by_cases e : i = j
        · subst e; simp [hs, hj']
        · rw [if_neg e, getD_set_ne false (fun e' => e e'.symm)]
      have closed' : Closed ops (fun i => (listed.setIfInBounds j true).getD i false) := fun i o' e ho' hli he hb => by
        simp only [get'] at hli ⊢
        by_cases eij : i = j
        · subst eij
          split
          · rfl
          · exact hedge o' e ho' he hb
        · rw [if_neg eij] at hli
          split
          · rfl
          · exact hc i o' e ho' hli he hb
      have unl' : unl (listed.setIfInBounds j true).toList = fuel := by
        have := unl_set (l := listed.toList) (k := j) (by simp; omega) (by
          rw [Array.getElem?_toList]
          rw [Array.getD_eq_getD_getElem?] at hjl
          cases hq : listed[j]? with
          | none => have := Array.getElem?_eq_none_iff.1 hq; omega
          | some b => rw [hq] at hjl; simp at hjl; rw [hjl])
        rw [Array.toList_setIfInBounds]
        omega
      have heap' : ∀ H', (kChg q o.op = true → H' = h (j + 1)) → (kChg q o.op = false → H' = curH q ops (fun i => listed.getD i false) h H0 ops.size) → curH q ops (fun i => (listed.setIfInBounds j true).getD i false) h H0 ops.size = H' := fun H' k1 k2 => by
        cases hcg : kChg q o.op with
        | false =>
          rw [k2 hcg]
          exact curH_congr _ fun i hi hd => by
            simp only [get']
            by_cases e : i = j
            · subst e; rw [ho] at hd; simp [hcg] at hd
            · rw [if_neg e]
        | true =>
          rw [k1 hcg]
          have hnp : kPure o.op = false := by
            cases hp : kPure o.op with
            | false => rfl
            | true => have := kPure_chg (q := q) hp; rw [hcg] at this; cases this
          have hnr := kRead_chg hcg
          rw [curH_congr (L' := fun i => decide (i < j + 1)) ops.size (fun i hi hd => by
            simp only [get']
            by_cases e : i = j
            · subst e; simp
            · rw [if_neg e]
              cases hoi : ops[i]? with
              | none => rw [hoi] at hd; cases hd
              | some b =>
                rw [hoi] at hd
                rw [order i e ((hok.chg i j b o hoi ho e (by simpa using hd) hnp).resolve_right fun hh => by rw [hnr] at hh; cases hh.2)]
                simp only [decide_eq_decide]
                omega), curH_below ops.size (by omega), curH_text st (j + 1) (by omega)]
      have next : ∀ (E' : Env) (w' : World) (v : Value), E.le E' → Rel E' (r j) v → Emb E' (curH q ops (fun i => (listed.setIfInBounds j true).getD i false) h H0 ops.size) w' →
          wpAny P .any ops (LiftQ N n Q E0) fuel (listed.setIfInBounds j true) (a.put o.dst v) w' := fun E' w' v hle hv hE' => by
        have hput : (a.put o.dst v).tmps.size = N ∧ (a.put o.dst v).defers = [] := by
          cases o.dst with
          | none => exact ⟨h2, h3⟩
          | some d => exact ⟨by simp [Act.put, h2], h3⟩
        refine ih _ E' w' _ (by simp [hs]) unl' closed' (hl.trans (hle.leN hn)) (Nat.le_trans hn hle.n) hput.1 hput.2 (fun t => ?_) hE'
        by_cases hd : o.dst = some t
        · -- the slot that has been written
          have htN := hok.dst j o t ho hd
          have e1 : curV ops (fun i => (listed.setIfInBounds j true).getD i false) r F0 ops.size t = r j := by
            have gen : ∀ k, j < k → k ≤ ops.size → curV ops (fun i => (listed.setIfInBounds j true).getD i false) r F0 k t = r j := by
              intro k
              induction k with
              | zero => intro h0; omega
              | succ k ihk =>
                intro hjk hk
                rw [curV_succ]
                by_cases e : k = j
                · subst e
                  rw [if_pos ⟨by simp only [get']; simp, by rw [ho]; exact hd⟩]
                · rw [if_neg (fun hh => by
                    cases hok' : ops[k]? with
                    | none => rw [hok'] at hh; cases hh.2
                    | some b => rw [hok'] at hh; exact hok.one j k o b t ho hok' (fun e' => e e'.symm) hd (by simpa using hh.2))]
                  exact ihk (by omega) (by omega)
            exact gen ops.size hj' (Nat.le_refl _)
          rw [e1, hd]
          simp only [Act.put]
          rw [Array.getD_eq_getD_getElem?, Array.getElem?_setIfInBounds_self_of_lt (by rw [h2]; exact htN)]
          exact hv
        · have e1 : curV ops (fun i => (listed.setIfInBounds j true).getD i false) r F0 ops.size t = curV ops (fun i => listed.getD i false) r F0 ops.size t := curV_congr _ fun i hi hdi => by
            simp only [get']
            by_cases e : i = j
            · subst e; rw [ho] at hdi; exact absurd (by simpa using hdi) hd
            · rw [if_neg e]
          rw [e1]
          have e2 : (a.put o.dst v).tmps.getD t undef = a.tmps.getD t undef := by
            cases hod : o.dst with
            | none => rfl
            | some d =>
              have : d ≠ t := fun e => hd (by rw [hod, e])
              simp only [Act.put, Array.getD_eq_getD_getElem?, Array.getElem?_setIfInBounds_ne this]
          rw [e2]
          exact (h4 t).mono hle
      obtain ⟨-, hstep⟩ := st.step j o (by omega) ho
      have hwant : ∀ b, gd ops (fr j) o = some b → Region.wanted o (yielded ops a.tmps) = b := fun b hb => gd_spec hb fun t ⟨g, hg1, hg2⟩ => slots t (by
        unfold Oper.looksAt
        rw [hg1]
        obtain ⟨g1, g2⟩ := g
        simp only at hg2 ⊢
        rw [hg2]
        simp)
      have hops : ∀ x ∈ o.op.operands, Rel E (aev (fr j) x) (a.eval x) := fun x hx => by
        cases x with
        | tmp t => exact slots t (List.mem_append_left _ (List.mem_filterMap.2 ⟨.tmp t, by simpa using hx, rfl⟩))
        | const v => exact rel_ofValue E v
        | global g => exact .any _
        | func f => exact RelL.fn (RelL.nil E)
      unfold wpOp
      rw [ho]
      simp only
      rcases hstep with ⟨hg, hdo⟩ | ⟨hg, hr0, hh0⟩
      · rw [if_pos (hwant true hg)]
        left
        unfold Oper.wp
        unfold DoOp at hdo
        cases hcal : calleeOf o.op (fr j) with
        | some p =>
          rw [hcal] at hdo
          obtain ⟨hokf, hqk, _, hcall⟩ := hdo
          have hnp : kPure o.op = false := by
            cases hp : kPure o.op with
            | false => rfl
            | true => rw [kPure_callee hp] at hcal; cases hcal
          have hnr : kRead o.op = false := by
            cases hr : kRead o.op with
            | false => rfl
            | true => rw [kRead_callee hr] at hcal; cases hcal
          obtain ⟨vs, hrun, hvs⟩ := run_callOp hops (f := p.1) (args := p.2) hcal hokf w
          rw [hrun, Oper.upon_enter]
          rw [mem hnp hnr] at h5
          refine (hcall E w vs h5 hvs).mono ?_
          rintro e w' ⟨E', v, H', x, rfl, ⟨rfl, rfl⟩, hle, hv, hE'⟩
          refine next E' w' v hle hv ?_
          rw [heap' (h (j + 1)) (fun _ => rfl) (fun hcf => by rw [mem hnp hnr]; exact step_keeps st ho hcf)]
          exact hE'
        | none =>
          rw [hcal] at hdo
          obtain ⟨hlate, hdo⟩ := hdo
          have fin : ∀ Hc H', aop P o.op (fr j) Hc = some (r j, H') → Emb E Hc w → curH q ops (fun i => (listed.setIfInBounds j true).getD i false) h H0 ops.size = H' → o.upon P a (wpAny P .any ops (LiftQ N n Q E0) fuel (listed.setIfInBounds j true)) (LiftQ N n Q E0) ((execOp a.eval o).run P w) := fun Hc H' ha hEc hH' => by
            obtain ⟨E', nx, w', hrun, hn', hle, hE'⟩ := snd_op hEc o hops ha
            rw [hrun]
            rcases hn' with ⟨rfl, hany⟩ | ⟨v, rfl, hv⟩
            · rw [Oper.upon_skip]
              exact next E' w' undef hle (by simp only at hany; rw [hany]; exact .any _) (by rw [hH']; exact hE')
            · rw [Oper.upon_value]
              exact next E' w' v hle hv (by rw [hH']; exact hE')
          cases hp : kPure o.op with
          | true =>
            obtain ⟨-, p2⟩ := kPure_spec hp hdo
            exact fin _ _ (p2 _) h5 (heap' _ (fun hc' => by rw [kPure_chg hp] at hc'; cases hc') (fun _ => rfl))
          | false =>
            cases hrd : kRead o.op with
            | false =>
              rw [mem hp hrd] at h5
              exact fin _ _ hdo h5 (heap' _ (fun _ => rfl) (fun hcf => by rw [mem hp hrd]; exact step_keeps st ho hcf))
            | true =>
              refine fin _ _ (load_same hrd hlate hdo fun b hb => ?_) h5 (heap' _ (fun hc' => by have := kRead_chg hc'; rw [hrd] at this; cases this) (fun _ => rfl))
              exact memR hrd b hb
      · rw [if_neg (by rw [hwant false hg]; simp)]
        refine next E w undef (.refl E) (by rw [hr0]; exact rel_undef E) ?_
        rw [heap' (curH q ops (fun i => listed.getD i false) h H0 ops.size) (fun hc' => by
          have hnp : kPure o.op = false := by
            cases hp : kPure o.op with
            | false => rfl
            | true => rw [kPure_chg hp] at hc'; cases hc'
          rw [mem hnp (kRead_chg hc'), hh0]) (fun _ => rfl)]
        exact h5
theorem draw_any (q : Bool) {F : Fr} {H : AHeap} (hok : drawOk q N ops = true) (hh : AOpsD P q H.length ops ops.toList F H (fun F' H' => Q .normal F' H')) {E : Env} {w : World} {a : Act} (h1 : n ≤ E.n) (h2 : a.tmps.size = N) (h3 : a.defers = []) (h4 : FrRel E F a) (h5 : Emb E H w) :
    wpAny P .any ops (LiftQ N n Q E) ops.size (Array.replicate ops.size false) a w.drew := by
  obtain ⟨r, h, fr, st, hQ⟩ := AOpsD_trace ops.toList 0 rfl F H hh
  rw [Nat.zero_add, Array.length_toList] at hQ
  have hok' := drawOk_spec hok
  have hL : ∀ i, (Array.replicate ops.size false).getD i false = false := fun i => by
    rw [Array.getD_eq_getD_getElem?]
    cases hq : (Array.replicate ops.size false)[i]? with
    | none => rfl
    | some b => rw [Array.getElem?_replicate] at hq; split at hq <;> simp at hq; subst hq; rfl
  have v0 : ∀ k t, curV ops (fun i => (Array.replicate ops.size false).getD i false) r F k t = look F t := fun k t => by
    induction k with
    | zero => rfl
    | succ k ih => rw [curV_succ, if_neg (fun hh => by have := hh.1; rw [hL] at this; cases this), ih]
  have m0 : ∀ k, curH q ops (fun i => (Array.replicate ops.size false).getD i false) h H k = H := fun k => by
    induction k with
    | zero => rfl
    | succ k ih => rw [curH_succ, if_neg (fun hh => by have := hh.1; rw [hL] at this; cases this), ih]
  refine drawn_aux (E0 := E) rfl hok' st hQ ops.size _ E w.drew a (by simp) ?_ (fun j o e ho hl => by simp only [hL] at hl; cases hl) ((Env.le.refl E).leN h1) h1 h2 h3 (fun t => by rw [v0]; exact h4 t) (by rw [m0]; exact h5.drew)
  simp [unl, List.countP_replicate]
theorem AW_draw (q : Bool) {id : Nat} {F : Fr} {H : AHeap} (hm : P.follows .mixedOrders = true) (hok : drawOk q N ops = true) (hh : AOpsD P q H.length ops ops.toList F H (fun F' H' => Q .normal F' H')) : AW P N n (.region id ops true) Q F H := by
  intro E w a h1 h2 h3 h4 h5
  exact wp_region_any hm (draw_any q hok hh h1 h2 h3 h4 h5)
end
end Go.Proofs.Ytjfnbcifafmefaa
