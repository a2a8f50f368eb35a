/- The abstract machine: code run by its text. Conditions: as each theorem states. -/
import Derived.Test.YtjfnbcifafmefaaAmM
namespace Go.Proofs.Ytjfnbcifafmefaa
set_option linter.unusedSimpArgs false
set_option linter.unusedVariables false
open Go.RowKit

/-- An operation, what it writes, what guards it. -/
structure LOp where
  dst : Option Tmp
  op : Op
  g : Option (Option Tmp × Bool)
def lightOf (ds : List (Option Tmp)) (o : Oper) : LOp := ⟨o.dst, o.op, o.guard.map fun g => ((ds[g.1]?).getD none, g.2)⟩
def dsts (ops : Array Oper) : List (Option Tmp) := ops.toList.map Oper.dst
def gdL (F : Fr) : Option (Option Tmp × Bool) → Option Bool
  | none => some true
  | some (none, _) => none
  | some (some t, want) => (match look F t with | .bool b => some (b == want) | .tup [] => some false | _ => none)
def AOpsL (P : Program) : List LOp → Fr → AHeap → (Fr → AHeap → Prop) → Prop
  | [], F, H, K => K F H
  | o :: os, F, H, K =>
    match gdL F o.g with
    | some true => AOp P o.op F H fun x H' => AOpsL P os (putF o.dst x F) H' K
    | some false => AOpsL P os (putF o.dst (.tup []) F) H K
    | none => False
def AOpsDL (P : Program) (q : Bool) (m : Nat) : List LOp → Fr → AHeap → (Fr → AHeap → Prop) → Prop
  | [], F, H, K => K F H
  | o :: os, F, H, K =>
    match gdL F o.g with
    | some true => AOpD P q m o.op F H fun x H' => AOpsDL P q m os (putF o.dst x F) H' K
    | some false => AOpsDL P q m os (putF o.dst (.tup []) F) H K
    | none => False
section
variable {P : Program} {N n m : Nat} {q : Bool}
theorem gdL_eq (ops : Array Oper) (F : Fr) (o : Oper) : gd ops F o = gdL F (lightOf (dsts ops) o).g := by
  unfold gd lightOf
  cases h : o.guard with
  | none => rfl
  | some g =>
    have e : ((dsts ops)[g.1]?).getD none = (ops[g.1]?).bind (·.dst) := by
      unfold dsts
      rw [List.getElem?_map, Array.getElem?_toList]
      cases ops[g.1]? <;> rfl
    simp only [Option.map_some, e]
    cases h2 : (ops[g.1]?).bind (·.dst) with
    | none => rfl
    | some t => rfl
theorem AOp.mono {o : Op} {F : Fr} {H : AHeap} {K K' : AV → AHeap → Prop} (h : AOp P o F H K) (hk : ∀ x H', K x H' → K' x H') : AOp P o F H K' := by
  unfold AOp at h ⊢
  split at h
  · exact ⟨h.1, h.2.mono hk⟩
  · obtain ⟨r, h1, h2⟩ := h; exact ⟨r, h1, hk _ _ h2⟩
theorem AOpD.mono {o : Op} {F : Fr} {H : AHeap} {K K' : AV → AHeap → Prop} (h : AOpD P q m o F H K) (hk : ∀ x H', K x H' → K' x H') : AOpD P q m o F H K' := by
  unfold AOpD at h ⊢
  split at h
  · obtain ⟨h1, x, H', h2, h2', h3, h4⟩ := h; exact ⟨h1, x, H', h2, h2', h3, hk _ _ h4⟩
  · obtain ⟨h0, r, h1, h2⟩ := h; exact ⟨h0, r, h1, hk _ _ h2⟩
theorem AOps_of {ops : Array Oper} {K : Fr → AHeap → Prop} : ∀ (l : List Oper) (F : Fr) (H : AHeap), AOpsL P (l.map (lightOf (dsts ops))) F H K → AOps P ops l F H K
  | [], _, _, h => h
  | o :: os, F, H, h => by
    simp only [List.map_cons] at h
    unfold AOpsL at h
    unfold AOps
    rw [gdL_eq]
    cases hg : gdL F (lightOf (dsts ops) o).g with
    | none => rw [hg] at h; exact h
    | some b =>
      rw [hg] at h
      cases b
      · exact AOps_of os _ _ h
      · exact AOp.mono h fun x H' hh => AOps_of os _ _ hh
theorem AOpsD_of {ops : Array Oper} {K : Fr → AHeap → Prop} : ∀ (l : List Oper) (F : Fr) (H : AHeap), AOpsDL P q m (l.map (lightOf (dsts ops))) F H K → AOpsD P q m ops l F H K
  | [], _, _, h => h
  | o :: os, F, H, h => by
    simp only [List.map_cons] at h
    unfold AOpsDL at h
    unfold AOpsD
    rw [gdL_eq]
    cases hg : gdL F (lightOf (dsts ops) o).g with
    | none => rw [hg] at h; exact h
    | some b =>
      rw [hg] at h
      cases b
      · exact AOpsD_of os _ _ h
      · exact AOpD.mono h fun x H' hh => AOpsD_of os _ _ hh
/-- Code without its loops' rounds, by its text (all = true: all regions' conditions are met). -/
def AWr (P : Program) (N n : Nat) (q : Bool) : Code → (Exit → Fr → AHeap → Prop) → Fr → AHeap → Prop
  | .skip, Q, F, H => Q .normal F H
  | .label _, Q, F, H => Q .normal F H
  | .seq a b, Q, F, H => AWr P N n q a (AThen (fun F H => AWr P N n q b Q F H) Q) F H
  | .cond c a b, Q, F, H => ∃ t, aev F c = .bool t ∧ (t = true → AWr P N n q a Q F H) ∧ (t = false → AWr P N n q b Q F H)
  | .block id c, Q, F, H => AWr P N n q c (AInBlock id Q) F H
  | .exit id, Q, F, H => Q (.exit id) F H
  | .ret, Q, F, H => Q .ret F H
  | .region _ ops draw, Q, F, H => bif draw then AOpsDL P q H.length (ops.toList.map (lightOf (dsts ops))) F H (Q .normal) else AOpsL P (ops.toList.map (lightOf (dsts ops))) F H (Q .normal)
  | .loop c, Q, F, H => AW P N n (.loop c) Q F H
  | _, _, _, _ => False
theorem AOpsL.mono {K K' : Fr → AHeap → Prop} (hk : ∀ F H, K F H → K' F H) : ∀ (l : List LOp) (F : Fr) (H : AHeap), AOpsL P l F H K → AOpsL P l F H K'
  | [], F, H, h => hk F H h
  | o :: os, F, H, h => by
    unfold AOpsL at h ⊢
    cases hg : gdL F o.g with
    | none => rw [hg] at h; exact h
    | some b =>
      rw [hg] at h
      cases b
      · exact AOpsL.mono hk os _ _ h
      · exact AOp.mono h fun x H' hh => AOpsL.mono hk os _ _ hh
theorem AOpsDL.mono {K K' : Fr → AHeap → Prop} (hk : ∀ F H, K F H → K' F H) : ∀ (l : List LOp) (F : Fr) (H : AHeap), AOpsDL P q m l F H K → AOpsDL P q m l F H K'
  | [], F, H, h => hk F H h
  | o :: os, F, H, h => by
    unfold AOpsDL at h ⊢
    cases hg : gdL F o.g with
    | none => rw [hg] at h; exact h
    | some b =>
      rw [hg] at h
      cases b
      · exact AOpsDL.mono hk os _ _ h
      · exact AOpD.mono h fun x H' hh => AOpsDL.mono hk os _ _ hh
theorem AWr.mono : ∀ (c : Code) {Q Q' : Exit → Fr → AHeap → Prop} {F : Fr} {H : AHeap}, (∀ e F H, Q e F H → Q' e F H) → AWr P N n q c Q F H → AWr P N n q c Q' F H
  | .skip, _, _, _, _, hq, h => hq _ _ _ h
  | .label _, _, _, _, _, hq, h => hq _ _ _ h
  | .seq a b, _, _, _, _, hq, h => AWr.mono a (fun e F H hh => by cases e <;> first | exact AWr.mono b hq hh | exact hq _ _ _ hh) h
  | .cond c a b, _, _, _, _, hq, h => by
    obtain ⟨t, h1, h2, h3⟩ := h
    exact ⟨t, h1, fun e => AWr.mono a hq (h2 e), fun e => AWr.mono b hq (h3 e)⟩
  | .block id c, _, _, _, _, hq, h => AWr.mono c (fun e F H hh => by
      cases e with
      | exit id' =>
        simp only [AInBlock] at hh ⊢
        split
        · rename_i e; rw [if_pos e] at hh; exact hq _ _ _ hh
        · rename_i e; rw [if_neg e] at hh; exact hq _ _ _ hh
      | _ => exact hq _ _ _ hh) h
  | .exit _, _, _, _, _, hq, h => hq _ _ _ h
  | .ret, _, _, _, _, hq, h => hq _ _ _ h
  | .region id ops draw, _, _, _, _, hq, h => by
    cases draw
    · exact AOpsL.mono (fun F H => hq _ F H) _ _ _ h
    · exact AOpsDL.mono (fun F H => hq _ F H) _ _ _ h
  | .loop c, _, _, _, _, hq, h => AW.mono h hq
  | .rangeFunc .., _, _, _, _, _, h => h.elim
  | .scope _, _, _, _, _, _, h => h.elim
  | .goto _, _, _, _, _, _, h => h.elim
  | .refuse _, _, _, _, _, _, h => h.elim
/-- All regions of a piece of code are as the machine wants them. -/
def codeOk (N : Nat) (q : Bool) : Code → Bool
  | .seq a b => codeOk N q a && codeOk N q b
  | .cond _ a b => codeOk N q a && codeOk N q b
  | .block _ c => codeOk N q c
  | .loop c => codeOk N q c
  | .scope c => codeOk N q c
  | .region _ ops draw => bif draw then drawOk q N ops else dstsOk N ops
  | _ => true
theorem AW_of (hm : P.follows .mixedOrders = true) : ∀ (c : Code), codeOk N q c = true → ∀ (Q : Exit → Fr → AHeap → Prop) (F : Fr) (H : AHeap), AWr P N n q c Q F H → AW P N n c Q F H
  | .skip, _, _, _, _, h => AW_skip h
  | .label _, _, _, _, _, h => AW_label h
  | .seq a b, hc, Q, F, H, h => by
    simp only [codeOk, Bool.and_eq_true] at hc
    refine AW_seq (AW.mono (AW_of hm a hc.1 _ F H h) fun e F H hq => ?_)
    cases e with
    | normal => exact AW_of hm b hc.2 _ F H hq
    | _ => exact hq
  | .cond c a b, hc, Q, F, H, h => by
    simp only [codeOk, Bool.and_eq_true] at hc
    obtain ⟨t, h1, h2, h3⟩ := h
    exact AW_cond t h1 (fun e => AW_of hm a hc.1 _ F H (h2 e)) (fun e => AW_of hm b hc.2 _ F H (h3 e))
  | .block id c, hc, Q, F, H, h => AW_block (AW_of hm c hc _ F H h)
  | .exit _, _, _, _, _, h => AW_exit h
  | .ret, _, _, _, _, h => AW_ret h
  | .region id ops draw, hc, Q, F, H, h => by
    cases draw
    · exact AW_region hc (AOps_of _ _ _ h)
    · exact AW_draw q hm hc (AOpsD_of _ _ _ h)
  | .loop c, _, _, _, _, h => h
  | .rangeFunc .., _, _, _, _, h => h.elim
  | .scope _, _, _, _, _, h => h.elim
  | .goto _, _, _, _, _, h => h.elim
  | .refuse _, _, _, _, _, h => h.elim
/-- What is still to be done: code, operations, the end of a block, an aim. -/
inductive It where
  | code (c : Code)
  | ops (l : List LOp)
  | opsD (m : Nat) (l : List LOp)
  | endB (id : Nat)
  | inv (J : Fr → AHeap → Prop)
/-- An exit on its way through what is still to be done. -/
def St (P : Program) (N n : Nat) (q : Bool) (Q : Exit → Fr → AHeap → Prop) : List It → Exit → Fr → AHeap → Prop
  | [], e, F, H => Q e F H
  | .code c :: r, e, F, H => (match e with | .normal => AWr P N n q c (St P N n q Q r) F H | e => St P N n q Q r e F H)
  | .ops l :: r, e, F, H => (match e with | .normal => AOpsL P l F H (fun F H => St P N n q Q r .normal F H) | e => St P N n q Q r e F H)
  | .opsD m l :: r, e, F, H => (match e with | .normal => AOpsDL P q m l F H (fun F H => St P N n q Q r .normal F H) | e => St P N n q Q r e F H)
  | .endB id :: r, e, F, H => (match e with | .exit id' => if id' = id then St P N n q Q r .normal F H else St P N n q Q r (.exit id') F H | e => St P N n q Q r e F H)
  | .inv J :: r, e, F, H => (match e with | .normal => J F H | e => St P N n q Q r e F H)
/-- The machine goes on. -/
def AGo (P : Program) (N n : Nat) (q : Bool) (Q : Exit → Fr → AHeap → Prop) (r : List It) (F : Fr) (H : AHeap) : Prop := St P N n q Q r .normal F H
def AExit (P : Program) (N n : Nat) (q : Bool) (Q : Exit → Fr → AHeap → Prop) (id : Nat) (r : List It) (F : Fr) (H : AHeap) : Prop := St P N n q Q r (.exit id) F H
def ARet (Q : Exit → Fr → AHeap → Prop) (F : Fr) (H : AHeap) : Prop := Q .ret F H
/-- The rest of a region (d: in a region that draws; how many blocks were there before it). -/
def itOf (d : Option Nat) (os : List LOp) : It :=
  match d with
  | some m => .opsD m os
  | none => .ops os
theorem itOf_none {os : List LOp} : itOf none os = .ops os := rfl
theorem itOf_some {m : Nat} {os : List LOp} : itOf (some m) os = .opsD m os := rfl
/-- An operation's result is laid down, and the machine goes on. -/
def AK (P : Program) (N n : Nat) (q : Bool) (Q : Exit → Fr → AHeap → Prop) (d : Option Nat) (x : Option (AV × AHeap)) (dst : Option Tmp) (os : List LOp) (r : List It) (F : Fr) : Prop :=
  match x with
  | some p => AGo P N n q Q (itOf d os :: r) (putF dst p.1 F) p.2
  | none => False
/-- A call. -/
def ACallK (P : Program) (N n : Nat) (q : Bool) (Q : Exit → Fr → AHeap → Prop) (d : Option Nat) (f : FuncId) (args : List AV) (dst : Option Tmp) (os : List LOp) (r : List It) (F : Fr) (H : AHeap) : Prop :=
  okFn P f = true ∧ match d with
    | some m => ∃ x H', (q = true → H' = H) ∧ (H.length ≤ H'.length ∧ ∀ b, b < m → H'[b]? = H[b]?) ∧ ACalls P f args H (fun y H1 => y = x ∧ H1 = H') ∧ AGo P N n q Q (.opsD m os :: r) (putF dst x F) H'
    | none => ACalls P f args H fun x H' => AGo P N n q Q (.ops os :: r) (putF dst x F) H'
def lateD (d : Option Nat) (o : Op) (F : Fr) : Prop :=
  match d with
  | some m => lateOk m o F
  | none => True
theorem late_none {o : Op} {F : Fr} : lateD none o F = True := rfl
theorem late_some {m : Nat} {o : Op} {F : Fr} : lateD (some m) o F = lateOk m o F := rfl
theorem late_and {b m : Nat} {p : Prop} (h : b < m) : (b < m ∧ p) = p := by simp [h]
/-- An operation that is wanted. -/
def ADo (P : Program) (N n : Nat) (q : Bool) (Q : Exit → Fr → AHeap → Prop) (d : Option Nat) (o : Op) (dst : Option Tmp) (os : List LOp) (r : List It) (F : Fr) (H : AHeap) : Prop :=
  match calleeOf o F with
  | some p => ACallK P N n q Q d p.1 p.2 dst os r F H
  | none => lateD d o F ∧ AK P N n q Q d (aop P o F H) dst os r F
/-- An operation and whether it is wanted. -/
def AGd (P : Program) (N n : Nat) (q : Bool) (Q : Exit → Fr → AHeap → Prop) (d : Option Nat) (b : Option Bool) (o : Op) (dst : Option Tmp) (os : List LOp) (r : List It) (F : Fr) (H : AHeap) : Prop :=
  match b with
  | some true => ADo P N n q Q d o dst os r F H
  | some false => AGo P N n q Q (itOf d os :: r) (putF dst (.tup []) F) H
  | none => False
def ACond (P : Program) (N n : Nat) (q : Bool) (Q : Exit → Fr → AHeap → Prop) (x : AV) (a b : Code) (r : List It) (F : Fr) (H : AHeap) : Prop :=
  ∃ t, x = .bool t ∧ (t = true → AGo P N n q Q (.code a :: r) F H) ∧ (t = false → AGo P N n q Q (.code b :: r) F H)
section
variable {Q : Exit → Fr → AHeap → Prop} {r : List It} {F : Fr} {H : AHeap}
theorem go_nil : AGo P N n q Q [] F H = Q .normal F H := rfl
theorem go_skip : AGo P N n q Q (.code .skip :: r) F H = AGo P N n q Q r F H := rfl
theorem go_label {l : Nat} : AGo P N n q Q (.code (.label l) :: r) F H = AGo P N n q Q r F H := rfl
theorem st_code (c : Code) : St P N n q Q (.code c :: r) = AThen (fun F H => AWr P N n q c (St P N n q Q r) F H) (St P N n q Q r) := by
  funext e F H; cases e <;> rfl
theorem go_seq {a b : Code} : AGo P N n q Q (.code (.seq a b) :: r) F H = AGo P N n q Q (.code a :: .code b :: r) F H := by
  show AWr P N n q a (AThen _ _) F H = AWr P N n q a (St P N n q Q (.code b :: r)) F H
  rw [st_code]
theorem go_block {id : Nat} {c : Code} : AGo P N n q Q (.code (.block id c) :: r) F H = AGo P N n q Q (.code c :: .endB id :: r) F H := by
  show AWr P N n q c (AInBlock id _) F H = AWr P N n q c (St P N n q Q (.endB id :: r)) F H
  congr 1
  funext e F H
  cases e <;> rfl
theorem go_endB {id : Nat} : AGo P N n q Q (.endB id :: r) F H = AGo P N n q Q r F H := rfl
theorem go_exit {id : Nat} : AGo P N n q Q (.code (.exit id) :: r) F H = AExit P N n q Q id r F H := rfl
theorem exit_code {id : Nat} {c : Code} : AExit P N n q Q id (.code c :: r) F H = AExit P N n q Q id r F H := rfl
theorem exit_endB {id id' : Nat} : AExit P N n q Q id (.endB id' :: r) F H = bif id == id' then AGo P N n q Q r F H else AExit P N n q Q id r F H := by
  show (if id = id' then _ else _) = _
  by_cases e : id = id'
  · subst e; simp; rfl
  · have : (id == id') = false := by simp [e]
    rw [if_neg e, this]; rfl
theorem exit_inv {id : Nat} {J : Fr → AHeap → Prop} : AExit P N n q Q id (.inv J :: r) F H = AExit P N n q Q id r F H := rfl
theorem ret_any : ∀ r : List It, St P N n q Q r .ret F H = ARet Q F H
  | [] => rfl
  | .code _ :: r => ret_any r
  | .ops _ :: r => ret_any r
  | .opsD _ _ :: r => ret_any r
  | .endB _ :: r => ret_any r
  | .inv _ :: r => ret_any r
theorem go_ret : AGo P N n q Q (.code .ret :: r) F H = ARet Q F H := ret_any r
theorem go_inv {J : Fr → AHeap → Prop} : AGo P N n q Q (.inv J :: r) F H = J F H := rfl
theorem go_cond {c : Operand} {a b : Code} : AGo P N n q Q (.code (.cond c a b) :: r) F H = ACond P N n q Q (aev F c) a b r F H := rfl
theorem cond_t {a b : Code} : ACond P N n q Q (.bool true) a b r F H = AGo P N n q Q (.code a :: r) F H := by simp [ACond]
theorem cond_f {a b : Code} : ACond P N n q Q (.bool false) a b r F H = AGo P N n q Q (.code b :: r) F H := by simp [ACond]
theorem cond_split {t : Bool} {a b : Code} (h1 : t = true → AGo P N n q Q (.code a :: r) F H) (h2 : t = false → AGo P N n q Q (.code b :: r) F H) : ACond P N n q Q (.bool t) a b r F H := ⟨t, rfl, h1, h2⟩
theorem go_region {id : Nat} {ops : Array Oper} : AGo P N n q Q (.code (.region id ops false) :: r) F H = AGo P N n q Q (.ops (ops.toList.map (lightOf (dsts ops))) :: r) F H := rfl
theorem go_regionD {id : Nat} {ops : Array Oper} : AGo P N n q Q (.code (.region id ops true) :: r) F H = AGo P N n q Q (.opsD H.length (ops.toList.map (lightOf (dsts ops))) :: r) F H := rfl
theorem go_ops_nil : AGo P N n q Q (.ops [] :: r) F H = AGo P N n q Q r F H := rfl
theorem go_opsD_nil : AGo P N n q Q (.opsD m [] :: r) F H = AGo P N n q Q r F H := rfl
theorem go_ops {o : LOp} {os : List LOp} : AGo P N n q Q (.ops (o :: os) :: r) F H = AGd P N n q Q none (gdL F o.g) o.op o.dst os r F H := by
  show AOpsL P (o :: os) F H _ = _
  unfold AOpsL AGd
  cases hg : gdL F o.g with
  | none => rfl
  | some b =>
    cases b with
    | false => rfl
    | true =>
      simp only
      unfold AOp ADo
      cases hc : calleeOf o.op F with
      | some p => rfl
      | none =>
        simp only
        unfold AK
        cases hx : aop P o.op F H with
        | none => simp
        | some p => simp [lateD]; rfl
theorem go_opsD {o : LOp} {os : List LOp} : AGo P N n q Q (.opsD m (o :: os) :: r) F H = AGd P N n q Q (some m) (gdL F o.g) o.op o.dst os r F H := by
  show AOpsDL P q m (o :: os) F H _ = _
  unfold AOpsDL AGd
  cases hg : gdL F o.g with
  | none => rfl
  | some b =>
    cases b with
    | false => rfl
    | true =>
      simp only
      unfold AOpD ADo
      cases hc : calleeOf o.op F with
      | some p => rfl
      | none =>
        simp only
        unfold AK
        cases hx : aop P o.op F H with
        | none => simp
        | some p => simp [lateD]; exact fun _ => Iff.rfl
variable {d : Option Nat} {dst : Option Tmp} {os : List LOp} {o : Op}
theorem gd_t : AGd P N n q Q d (some true) o dst os r F H = ADo P N n q Q d o dst os r F H := rfl
theorem gd_f : AGd P N n q Q d (some false) o dst os r F H = AGo P N n q Q (itOf d os :: r) (putF dst (.tup []) F) H := rfl
theorem gd_split {b : Bool} (h1 : b = true → ADo P N n q Q d o dst os r F H) (h2 : b = false → AGo P N n q Q (itOf d os :: r) (putF dst (.tup []) F) H) : AGd P N n q Q d (some b) o dst os r F H := by
  cases b
  · exact h2 rfl
  · exact h1 rfl
theorem k_some {x : AV} {H' : AHeap} : AK P N n q Q d (some (x, H')) dst os r F = AGo P N n q Q (itOf d os :: r) (putF dst x F) H' := rfl
theorem k_none : AK P N n q Q d none dst os r F = False := rfl
theorem k_need_map {p : Prop} [Decidable p] {f : Unit → AV × AHeap} : AK P N n q Q d ((need p).map f) dst os r F = (p ∧ AK P N n q Q d (some (f ())) dst os r F) := by
  unfold need; by_cases h : p
  · simp [h]
  · simp [h, k_none]
theorem k_need_bind {p : Prop} [Decidable p] {f : Unit → Option (AV × AHeap)} : AK P N n q Q d ((need p).bind f) dst os r F = (p ∧ AK P N n q Q d (f ()) dst os r F) := by
  unfold need; by_cases h : p
  · simp [h]
  · simp [h, k_none]
theorem k_cond {b : Bool} {x y : Option (AV × AHeap)} : AK P N n q Q d (bif b then x else y) dst os r F = ((b = true → AK P N n q Q d x dst os r F) ∧ (b = false → AK P N n q Q d y dst os r F)) := by
  cases b <;> simp
theorem ite_need {α : Type} {p : Prop} [Decidable p] {x : α} : (if p then some x else none) = (need p).map fun _ => x := by
  unfold need; by_cases h : p <;> simp [h]
/-- A call by a contract. -/
theorem call_of {f : FuncId} {args : List AV} {R : AV → AHeap → Prop} (hok : okFn P f = true) (h : ACalls P f args H R) (k : ∀ x H', R x H' → AGo P N n q Q (.ops os :: r) (putF dst x F) H') : ACallK P N n q Q none f args dst os r F H :=
  ⟨hok, h.mono k⟩
theorem callD_of {f : FuncId} {args : List AV} {x : AV} (hok : okFn P f = true) (_hq : q = true → H = H) (h : ACalls P f args H fun y H1 => y = x ∧ H1 = H) (k : AGo P N n q Q (.opsD m os :: r) (putF dst x F) H) : ACallK P N n q Q (some m) f args dst os r F H :=
  ⟨hok, x, H, fun _ => rfl, ⟨Nat.le_refl _, fun _ _ => rfl⟩, h, k⟩
/-- A loop by its text. -/
theorem go_loop {c : Code} (hm : P.follows .mixedOrders = true) (hc : codeOk N q c = true) (I : Nat → Fr → AHeap → Prop) (k0 : Nat) (h0 : ∃ σ F2 H2, I k0 F2 H2 ∧ Abs n σ F H F2 H2)
    (round : ∀ k F H, I k F H → ∀ J : Fr → AHeap → Prop, (∀ F' H', (∃ k', k' < k ∧ ∃ σ F2 H2, I k' F2 H2 ∧ Abs n σ F' H' F2 H2) → J F' H') → AGo P N n q Q (.code c :: .inv J :: r) F H) : AGo P N n q Q (.code (.loop c) :: r) F H := by
  refine AW_loop I k0 h0 fun k F H hi => AW_of hm c hc _ F H ?_
  have := round k F H hi _ (fun _ _ h => h)
  have e : St P N n q Q (.inv (fun F' H' => ∃ k', k' < k ∧ ∃ σ F2 H2, I k' F2 H2 ∧ Abs n σ F' H' F2 H2) :: r) = AThen (fun F' H' => ∃ k', k' < k ∧ ∃ σ F2 H2, I k' F2 H2 ∧ Abs n σ F' H' F2 H2) (St P N n q Q r) := by
    funext e F H; cases e <;> rfl
  rw [← e]
  exact this
/-- A piece of code and what it leaves, and then the rest. -/
theorem go_cut {c : Code} (J : Fr → AHeap → Prop) (h1 : AGo P N n q Q (.code c :: .inv J :: r) F H) (h2 : ∀ F H, J F H → AGo P N n q Q r F H) : AGo P N n q Q (.code c :: r) F H :=
  AWr.mono c (fun e F H hq => by cases e <;> first | exact h2 F H hq | exact hq) h1
/-- A function's call by its text. -/
theorem ACalls_run {f : FuncId} {fn : Func} {args : List AV} {R : AV → AHeap → Prop} (hm : P.follows .mixedOrders = true) (hf : P.funcs[f]? = some fn) (q : Bool) (N : Nat) (hN : fn.ntmps = N) (ha : args.length ≤ N)
    (hc : (fn.body.map (codeOk N q)) = some true) (h : HBel H.length H → ∀ Q, (∀ F H', AEnd P fn H.length R .ret F H' → ARet Q F H') → (∀ F H', AEnd P fn H.length R .normal F H' → Q .normal F H') → ∀ c, fn.body = some c → AGo P N H.length q Q [.code c] (argF 0 args) H) : ACalls P f args H R := by
  cases hb : fn.body with
  | none => rw [hb] at hc; cases hc
  | some c =>
    rw [hb] at hc
    simp at hc
    exact ACalls_of hf hb hN ha fun hbel => AW_of hm c hc _ _ _ (h hbel (AEnd P fn H.length R) (fun _ _ k => k) (fun _ _ k => k) c hb)
end
end
end Go.Proofs.Ytjfnbcifafmefaa
