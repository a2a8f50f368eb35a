/- The abstract machine as a program that the kernel can run: calls at known arguments. Conditions: as each theorem states. -/
import Derived.Test.YtjfnbcifafmefaaAmP
namespace Go.Proofs.Ytjfnbcifafmefaa
set_option linter.unusedSimpArgs false
set_option linter.unusedVariables false
open Go.RowKit

mutual
def AV.eqb : AV → AV → Bool
  | .any, y => (match y with | .any => true | _ => false)
  | .int k n, y => (match y with | .int k' n' => decide (k = k') && decide (n = n') | _ => false)
  | .bool b, y => (match y with | .bool b' => b == b' | _ => false)
  | .str s, y => (match y with | .str s' => decide (s = s') | _ => false)
  | .ptr a, y => (match y with | .ptr a' => decide (a = a') | _ => false)
  | .sl a l c, y => (match y with | .sl a' l' c' => decide (a = a') && (decide (l = l') && decide (c = c')) | _ => false)
  | .mp r, y => (match y with | .mp r' => decide (r = r') | _ => false)
  | .fn f cs, y => (match y with | .fn f' cs' => decide (f = f') && AV.eqbs cs cs' | _ => false)
  | .nilfn, y => (match y with | .nilfn => true | _ => false)
  | .agg cs, y => (match y with | .agg cs' => AV.eqbs cs cs' | _ => false)
  | .tup cs, y => (match y with | .tup cs' => AV.eqbs cs cs' | _ => false)
def AV.eqbs : List AV → List AV → Bool
  | [], ys => (match ys with | [] => true | _ => false)
  | x :: xs, ys => (match ys with | y :: ys => AV.eqb x y && AV.eqbs xs ys | [] => false)
end
mutual
theorem AV.eqb_eq : ∀ (x y : AV), AV.eqb x y = true → x = y
  | .any, y, h => by cases y <;> first | rfl | (simp [AV.eqb] at h)
  | .int k n, y, h => by cases y <;> first | (simp [AV.eqb] at h; done) | (simp [AV.eqb] at h; rw [h.1, h.2])
  | .bool b, y, h => by cases y <;> first | (simp [AV.eqb] at h; done) | (simp [AV.eqb] at h; rw [h])
  | .str s, y, h => by cases y <;> first | (simp [AV.eqb] at h; done) | (simp [AV.eqb] at h; rw [h])
  | .ptr a, y, h => by cases y <;> first | (simp [AV.eqb] at h; done) | (simp [AV.eqb] at h; rw [h])
  | .sl a l c, y, h => by cases y <;> first | (simp [AV.eqb] at h; done) | (simp [AV.eqb] at h; rw [h.1, h.2.1, h.2.2])
  | .mp r, y, h => by cases y <;> first | (simp [AV.eqb] at h; done) | (simp [AV.eqb] at h; rw [h])
  | .fn f cs, y, h => by
    cases y <;> first | (simp [AV.eqb] at h; done) | skip
    simp [AV.eqb] at h
    rw [h.1, AV.eqbs_eq _ _ h.2]
  | .nilfn, y, h => by cases y <;> first | rfl | (simp [AV.eqb] at h)
  | .agg cs, y, h => by
    cases y <;> first | (simp [AV.eqb] at h; done) | skip
    simp [AV.eqb] at h
    rw [AV.eqbs_eq _ _ h]
  | .tup cs, y, h => by
    cases y <;> first | (simp [AV.eqb] at h; done) | skip
    simp [AV.eqb] at h
    rw [AV.eqbs_eq _ _ h]
theorem AV.eqbs_eq : ∀ (xs ys : List AV), AV.eqbs xs ys = true → xs = ys
  | [], ys, h => by cases ys <;> first | rfl | (simp [AV.eqbs] at h)
  | x :: xs, ys, h => by
    cases ys with
    | nil => simp [AV.eqbs] at h
    | cons y ys =>
      simp [AV.eqbs] at h
      rw [AV.eqb_eq _ _ h.1, AV.eqbs_eq _ _ h.2]
end
def ABlk.eqb : ABlk → ABlk → Bool
  | .dead, y => (match y with | .dead => true | _ => false)
  | .cells o e xs, y => (match y with | .cells o' e' xs' => (o == o') && (decide (e = e') && AV.eqbs xs xs') | _ => false)
  | .map es, y => (match y with | .map es' => AV.eqbs (es.map (·.1)) (es'.map (·.1)) && AV.eqbs (es.map (·.2)) (es'.map (·.2)) | _ => false)
theorem pairs_eq {α β : Type} : ∀ {l m : List (α × β)}, l.map (·.1) = m.map (·.1) → l.map (·.2) = m.map (·.2) → l = m
  | [], [], _, _ => rfl
  | [], _ :: _, h, _ => by simp at h
  | _ :: _, [], h, _ => by simp at h
  | (a, b) :: l, (c, d) :: m, h1, h2 => by
    simp only [List.map_cons, List.cons.injEq] at h1 h2
    rw [h1.1, h2.1, pairs_eq h1.2 h2.2]
theorem ABlk.eqb_eq {x y : ABlk} (h : ABlk.eqb x y = true) : x = y := by
  cases x <;> cases y <;> first | rfl | (simp [ABlk.eqb] at h; done) | skip
  · simp [ABlk.eqb] at h
    rw [h.1, h.2.1, AV.eqbs_eq _ _ h.2.2]
  · simp only [ABlk.eqb, Bool.and_eq_true] at h
    rw [pairs_eq (AV.eqbs_eq _ _ h.1) (AV.eqbs_eq _ _ h.2)]
/-- The memory begins as it was. -/
def prefixB : AHeap → AHeap → Bool
  | [], _ => true
  | x :: r, y :: s => ABlk.eqb x y && prefixB r s
  | _ :: _, [] => false
theorem prefixB_eq : ∀ {H H' : AHeap}, prefixB H H' = true → ∃ l, H' = H ++ l
  | [], H', _ => ⟨H', rfl⟩
  | x :: r, [], h => by simp [prefixB] at h
  | x :: r, y :: s, h => by
    simp only [prefixB, Bool.and_eq_true] at h
    obtain ⟨l, hl⟩ := prefixB_eq h.2
    exact ⟨l, by rw [← ABlk.eqb_eq h.1, hl]; rfl⟩
/-- A frame as a tree by the bits of a slot's number. -/
inductive FT where
  | nil
  | leaf (x : AV)
  | node (l r : FT)
def FT.get : Nat → FT → Nat → AV
  | 0, f, _ => (match f with | .leaf x => x | _ => .any)
  | d + 1, f, t => (match f with | .node l r => bif Nat.beq (t % 2) 0 then FT.get d l (t / 2) else FT.get d r (t / 2) | _ => .any)
def FT.set : Nat → Nat → AV → FT → FT
  | 0, _, x, _ => .leaf x
  | d + 1, t, x, f => (match f with
    | .node l r => bif Nat.beq (t % 2) 0 then .node (FT.set d (t / 2) x l) r else .node l (FT.set d (t / 2) x r)
    | _ => bif Nat.beq (t % 2) 0 then .node (FT.set d (t / 2) x .nil) .nil else .node .nil (FT.set d (t / 2) x .nil))
theorem FT.get_nil : ∀ (d s : Nat), FT.get d .nil s = .any
  | 0, _ => rfl
  | _ + 1, _ => rfl
theorem FT.get_set : ∀ (d t s : Nat) (x : AV) (f : FT), t < 2 ^ d → s < 2 ^ d → FT.get d (FT.set d t x f) s = if t = s then x else FT.get d f s
  | 0, t, s, x, f, ht, hs => by
    have : t = s := by simp at ht hs; omega
    rw [if_pos this]; rfl
  | d + 1, t, s, x, f, ht, hs => by
    have ht' : t / 2 < 2 ^ d := by rw [Nat.pow_succ] at ht; omega
    have hs' : s / 2 < 2 ^ d := by rw [Nat.pow_succ] at hs; omega
    have ih := FT.get_set d (t / 2) (s / 2) x
    have hb : ∀ u : Nat, Nat.beq (u % 2) 0 = decide (u % 2 = 0) := fun u => by
      by_cases h : u % 2 = 0
      · rw [h]; rfl
      · have : u % 2 = 1 := by omega
        rw [this]; rfl
    have key : ∀ l r : FT, FT.get (d + 1) (bif Nat.beq (t % 2) 0 then .node (FT.set d (t / 2) x l) r else .node l (FT.set d (t / 2) x r)) s = if t = s then x else FT.get (d + 1) (.node l r) s := fun l r => by
      rw [hb]
      by_cases h1 : t % 2 = 0
      · simp only [h1, decide_true, cond_true, FT.get]
        rw [hb]
        by_cases h2 : s % 2 = 0
        · simp only [h2, decide_true, cond_true]
          rw [ih l ht' hs']
          by_cases e : t = s
          · rw [if_pos (by rw [e]), if_pos e]
          · rw [if_neg (by omega), if_neg e]
        · simp only [h2, decide_false, cond_false]
          rw [if_neg (by omega)]
      · simp only [h1, decide_false, cond_false, FT.get]
        rw [hb]
        by_cases h2 : s % 2 = 0
        · simp only [h2, decide_true, cond_true]
          rw [if_neg (by omega)]
        · simp only [h2, decide_false, cond_false]
          rw [ih r ht' hs']
          by_cases e : t = s
          · rw [if_pos (by rw [e]), if_pos e]
          · rw [if_neg (by omega), if_neg e]
    cases f with
    | node l r => exact key l r
    | nil =>
      have := key .nil .nil
      rw [show FT.get (d + 1) (.node .nil .nil) s = FT.get (d + 1) .nil s by simp [FT.get, FT.get_nil]] at this
      exact this
    | leaf y =>
      have := key .nil .nil
      rw [show FT.get (d + 1) (.node .nil .nil) s = FT.get (d + 1) (.leaf y) s by simp [FT.get, FT.get_nil]] at this
      exact this
/-- What a slot holds. -/
def getT (f : FT) (t : Nat) : AV := bif Nat.blt t 1024 then FT.get 10 f t else .any
def putR (d : Option Tmp) (x : AV) (f : FT) : FT :=
  match d with
  | some t => FT.set 10 t x f
  | none => f
def okD (d : Option Tmp) : Bool :=
  match d with
  | some t => Nat.blt t 1024
  | none => true
theorem look_putR {f : FT} {G : Fr} (h : getT f = look G) {d : Option Tmp} (hd : okD d = true) (x : AV) : getT (putR d x f) = look (putF d x G) := by
  funext s
  cases d with
  | none => exact congrFun h s
  | some t =>
    have hs := congrFun h s
    have ht : t < 1024 := Nat.le_of_ble_eq_true hd
    show getT (FT.set 10 t x f) s = look ((t, x) :: G) s
    unfold getT at hs ⊢
    simp only [look]
    cases hb : Nat.blt s 1024 with
    | false =>
      rw [hb] at hs
      have hlt : ¬ s < 1024 := fun hh => by rw [show Nat.blt s 1024 = true from Nat.ble_eq_true_of_le hh] at hb; cases hb
      have : (t == s) = false := by rw [beq_eq_false_iff_ne]; exact fun e => hlt (e ▸ ht)
      rw [this]; exact hs
    | true =>
      rw [hb] at hs
      simp only [cond_true] at hs ⊢
      have hlt : s < 1024 := Nat.le_of_ble_eq_true hb
      rw [FT.get_set 10 t s x f (by simpa using ht) (by simpa using hlt), hs]
      by_cases e : t = s
      · simp [e]
      · have : (t == s) = false := by simp [e]
        rw [if_neg e, this]; rfl
theorem getT_nil : getT .nil = look [] := by
  funext s
  unfold getT
  cases Nat.blt s 1024 <;> simp [FT.get_nil, look]
/-- The arguments' frame. -/
def argT : Nat → List AV → FT
  | _, [] => .nil
  | i, x :: r => FT.set 10 i x (argT (i + 1) r)
theorem argT_eq : ∀ (xs : List AV) (i : Nat), i + xs.length ≤ 1024 → getT (argT i xs) = look (argF i xs)
  | [], i, _ => getT_nil
  | x :: r, i, h => by
    simp only [List.length_cons] at h
    exact look_putR (d := some i) (argT_eq r (i + 1) (by omega)) (Nat.ble_eq_true_of_le (by omega)) x
def ev (f : FT) : Operand → AV
  | .tmp t => getT f t
  | .const v => AV.ofValue v
  | .global _ => .any
  | .func g => .fn g []
theorem ev_eq {f : FT} {G : Fr} (h : getT f = look G) : ev f = aev G := by
  funext o; cases o <;> simp [ev, aev, h]
def aopE (P : Program) (o : Op) (e : Operand → AV) (H : AHeap) : Option (AV × AHeap) :=
  match o with
  | .move x => some (e x, H)
  | .assign x => some (e x, H)
  | .pick c a b => (match e c with | .bool t => some (bif t then e a else e b, H) | _ => none)
  | .alloc t => aAlloc P t H
  | .box _ x => aBox (e x) H
  | .build t ps => (aBuild P t (ps.toList.map fun p => (p.1, e p.2))).map fun r => (r, H)
  | .buildSlice t n ps => aBuildSlice P t n (ps.toList.map fun p => (p.1, e p.2)) H
  | .load t a => aLoad P t (e a) H
  | .store t a x => (aStore P t (e a) (e x) H).map fun H' => (.any, H')
  | .nilCheck x => (match e x with | .ptr (some a) => some (.ptr (some a), H) | .fn f c => some (.fn f c, H) | _ => none)
  | .binOp op t x y _ => (aBin P op t (e x) (e y)).map fun r => (r, H)
  | .unOp op _ x => (aUn op (e x)).map fun r => (r, H)
  | .convert s d x => (aConv P s d (e x) H).map fun r => (r, H)
  | .makeFunc fn first caps => (match fn with | .func f => (need (first.toList.length = 0)).map fun _ => (.fn f (caps.toList.map e), H) | _ => none)
  | .makeMap t r => (match r with | none => some (.mp (some H.length), H ++ [.map []]) | some x => (match e x with | .int _ _ => (tMap P t).map fun _ => (.mp (some H.length), H ++ [.map []]) | _ => none))
  | .makeSlice t l c => aMakeSlice P t (e l) (e c) H
  | .slice t x lo hi mx => (aSlice P t (e x) (lo.map e) (hi.map e) (mx.map e) H).map fun r => (r, H)
  | .fieldAddr t x f => (aFieldAddr P t (e x) f).map fun r => (r, H)
  | .field t x f => (aField P t (e x) f).map fun r => (r, H)
  | .indexAddr t x i => (aIndexAddr P t (e x) (e i)).map fun r => (r, H)
  | .index t x i => (aIndex P t (e x) (e i)).map fun r => (r, H)
  | .lookup t m k ok => (aLookup P t (e m) (e k) ok H).map fun r => (r, H)
  | .mapUpdate t m k x => (aMapUpdate P t (e m) (e k) (e x) H).map fun H' => (.any, H')
  | .extract x i => (aExtract (e x) i).map fun r => (r, H)
  | .call c => (match c.callee with | .builtin b => aBuiltin P b c.argTypes.toList (c.args.toList.map e) H | _ => none)
  | _ => none
theorem aopE_eq (P : Program) (o : Op) (G : Fr) (H : AHeap) : aopE P o (aev G) H = aop P o G H := by
  cases o <;> rfl
def calleeE (o : Op) (e : Operand → AV) : Option (FuncId × List AV) :=
  match o with
  | .call c => (match c.callee with | .value f => (match e f with | .fn k caps => some (k, c.args.toList.map e ++ caps) | _ => none) | _ => none)
  | _ => none
theorem calleeE_eq (o : Op) (G : Fr) : calleeE o (aev G) = calleeOf o G := by
  cases o <;> rfl
def gdE (f : FT) : Option (Option Tmp × Bool) → Option Bool
  | none => some true
  | some (none, _) => none
  | some (some t, want) => (match getT f t with | .bool b => some (b == want) | .tup [] => some false | _ => none)
theorem gdE_eq {f : FT} {G : Fr} (h : getT f = look G) (g : Option (Option Tmp × Bool)) : gdE f g = gdL G g := by
  cases g with
  | none => rfl
  | some p =>
    obtain ⟨a, b⟩ := p
    cases a with
    | none => rfl
    | some t =>
      simp only [gdE, gdL, h]
      cases look G t with
      | tup l => cases l <;> rfl
      | _ => rfl
def aResE (P : Program) : List ResultVar → FT → AHeap → Option (List AV)
  | [], _, _ => some []
  | .tmp t :: rs, f, H => (aResE P rs f H).map fun l => getT f t :: l
  | .cell a t :: rs, f, H => (aLoad P t (getT f a) H).bind fun x => (aResE P rs f H).map fun l => x.1 :: l
theorem aResE_eq {f : FT} {G : Fr} (h : getT f = look G) (P : Program) (H : AHeap) : ∀ rs : List ResultVar, aResE P rs f H = aRes P rs G H
  | [] => rfl
  | .tmp t :: rs => by simp [aResE, aRes, h, aResE_eq h P H rs]
  | .cell a t :: rs => by simp [aResE, aRes, h, aResE_eq h P H rs]
abbrev Caller := FuncId → List AV → AHeap → Option (AV × Option AHeap)
def CallOk (P : Program) (call : Caller) : Prop := ∀ f args H x o, call f args H = some (x, o) → okFn P f = true ∧ H.length ≤ (o.getD H).length ∧ ACalls P f args H (fun y H1 => y = x ∧ H1 = o.getD H)
def belowB (m : Nat) : AV → Bool
  | .ptr (some (b, _)) => Nat.blt b m
  | .sl (some (b, _)) _ _ => Nat.blt b m
  | _ => true
def lenB (m : Nat) : AV → Bool
  | .mp (some b) => Nat.blt b m
  | _ => true
theorem belowB_ok {m : Nat} : ∀ {x : AV}, belowB m x = true → belowV m x
  | .ptr (some (_, _)), h => Nat.le_of_ble_eq_true h
  | .sl (some (_, _)) _ _, h => Nat.le_of_ble_eq_true h
  | .ptr none, _ => trivial | .sl none _ _, _ => trivial | .mp _, _ => trivial
  | .any, _ => trivial | .int _ _, _ => trivial | .bool _, _ => trivial | .str _, _ => trivial | .fn _ _, _ => trivial | .nilfn, _ => trivial | .agg _, _ => trivial | .tup _, _ => trivial
theorem lenB_ok {m : Nat} : ∀ {x : AV}, lenB m x = true → lenV m x
  | .mp (some _), h => Nat.le_of_ble_eq_true h
  | .mp none, _ => trivial | .sl _ _ _, _ => trivial | .ptr _, _ => trivial
  | .any, _ => trivial | .int _ _, _ => trivial | .bool _, _ => trivial | .str _, _ => trivial | .fn _ _, _ => trivial | .nilfn, _ => trivial | .agg _, _ => trivial | .tup _, _ => trivial
def lateB (d : Option Nat) (o : Op) (e : Operand → AV) : Bool :=
  match d with
  | some m => (match o with
    | .load _ a => belowB m (e a)
    | .slice _ x _ _ _ => belowB m (e x)
    | .call c => (match c.callee, c.args.toList with | .builtin .len, x :: _ => lenB m (e x) | _, _ => true)
    | _ => true)
  | none => true
theorem lateB_ok {m : Nat} {o : Op} {G : Fr} (h : lateB (some m) o (aev G) = true) : lateOk m o G := by
  unfold lateB at h
  unfold lateOk
  simp only at h
  split
  · exact belowB_ok h
  · exact belowB_ok h
  · simp only at h
    split
    · rename_i h1 h2
      simp only [h1, h2] at h
      exact lenB_ok h
    · trivial
  · trivial
/-- A call leaves what is below m. -/
def keepsB (m : Nat) (H H' : AHeap) : Bool := (List.range m).all fun b => match H[b]?, H'[b]? with | some x, some y => ABlk.eqb y x | none, none => true | _, _ => false
theorem keepsB_ok {m : Nat} {H H' : AHeap} (h : keepsB m H H' = true) : ∀ b, b < m → H'[b]? = H[b]? := fun b hb => by
  have := List.all_eq_true.1 h b (List.mem_range.2 hb)
  revert this
  cases H[b]? <;> cases H'[b]? <;> simp
  exact fun h => (ABlk.eqb_eq h)
def keepD (d : Option Nat) (H H' : AHeap) : Bool := match d with | some m => keepsB m H H' | none => true
/-- Operations in a row (keep: a call must leave the memory as it was; d: in a region that draws, how many blocks were there before it). -/
def rOps (P : Program) (keep : Bool) (d : Option Nat) (call : Caller) : List LOp → FT → AHeap → Option (FT × AHeap)
  | [], F, H => some (F, H)
  | o :: os, F, H =>
    bif okD o.dst then
      match gdE F o.g with
      | none => none
      | some false => rOps P keep d call os (putR o.dst (.tup []) F) H
      | some true =>
        match calleeE o.op (ev F) with
        | some p =>
          match call p.1 p.2 H with
          | none => none
          | some (x, none) => rOps P keep d call os (putR o.dst x F) H
          | some (x, some H') => bif keep || !keepD d H H' then none else rOps P keep d call os (putR o.dst x F) H'
        | none =>
          bif lateB d o.op (ev F) then
            match aopE P o.op (ev F) H with
            | none => none
            | some (x, H') => rOps P keep d call os (putR o.dst x F) H'
          else none
    else none
section
variable {P : Program} {N n m : Nat} {d : Option Nat} {q keep : Bool} {call : Caller}
theorem rOps_ok (hcall : CallOk P call) : ∀ (os : List LOp) (F : FT) (H : AHeap) (F' : FT) (H' : AHeap), rOps P keep d call os F H = some (F', H') → ∀ G, getT F = look G → AOpsL P os G H (fun G' H1 => getT F' = look G' ∧ H1 = H')
  | [], F, H, F', H', h, G, hG => by
    simp only [rOps, Option.some.injEq, Prod.mk.injEq] at h
    obtain ⟨rfl, rfl⟩ := h
    exact ⟨hG, rfl⟩
  | o :: os, F, H, F', H', h, G, hG => by
    unfold rOps at h
    unfold AOpsL
    cases hd : okD o.dst with
    | false => rw [hd] at h; cases h
    | true =>
    rw [hd, cond_true] at h
    rw [gdE_eq hG, ev_eq hG, calleeE_eq, aopE_eq] at h
    cases hg : gdL G o.g with
    | none => rw [hg] at h; cases h
    | some b =>
      rw [hg] at h
      cases b
      · exact rOps_ok hcall os _ _ _ _ h _ (look_putR hG hd _)
      · simp only at h ⊢
        unfold AOp
        cases hc : calleeOf o.op G with
        | some p =>
          rw [hc] at h
          simp only at h ⊢
          cases hk : call p.1 p.2 H with
          | none => rw [hk] at h; cases h
          | some r =>
            obtain ⟨x, mm⟩ := r
            rw [hk] at h
            obtain ⟨h1, h1', h2⟩ := hcall _ _ _ _ _ hk
            cases mm with
            | none =>
              have key := rOps_ok hcall os _ _ _ _ h _ (look_putR hG hd x)
              exact ⟨h1, h2.mono fun y H1 hy => by rw [hy.1, hy.2]; exact key⟩
            | some H2 =>
              have h' : rOps P keep d call os (putR o.dst x F) H2 = some (F', H') := by
                simp only at h
                cases hqq : (keep || !keepD d H H2)
                · rw [hqq] at h; exact h
                · rw [hqq] at h; cases h
              have key := rOps_ok hcall os _ _ _ _ h' _ (look_putR hG hd x)
              exact ⟨h1, h2.mono fun y H1 hy => by rw [hy.1, hy.2]; exact key⟩
        | none =>
          rw [hc] at h
          simp only at h ⊢
          cases hlt : lateB d o.op (aev G) with
          | false => rw [hlt] at h; cases h
          | true =>
          rw [hlt, cond_true] at h
          cases hx : aop P o.op G H with
          | none => rw [hx] at h; cases h
          | some r =>
            obtain ⟨x, H1⟩ := r
            rw [hx] at h
            exact ⟨_, rfl, rOps_ok hcall os _ _ _ _ h _ (look_putR hG hd _)⟩
theorem rOpsD_ok (hcall : CallOk P call) : ∀ (os : List LOp) (F : FT) (H : AHeap) (F' : FT) (H' : AHeap), rOps P q (some m) call os F H = some (F', H') → ∀ G, getT F = look G → AOpsDL P q m os G H (fun G' H1 => getT F' = look G' ∧ H1 = H')
  | [], F, H, F', H', h, G, hG => by
    simp only [rOps, Option.some.injEq, Prod.mk.injEq] at h
    obtain ⟨rfl, rfl⟩ := h
    exact ⟨hG, rfl⟩
  | o :: os, F, H, F', H', h, G, hG => by
    unfold rOps at h
    unfold AOpsDL
    cases hd : okD o.dst with
    | false => rw [hd] at h; cases h
    | true =>
    rw [hd, cond_true] at h
    rw [gdE_eq hG, ev_eq hG, calleeE_eq, aopE_eq] at h
    cases hg : gdL G o.g with
    | none => rw [hg] at h; cases h
    | some b =>
      rw [hg] at h
      cases b
      · exact rOpsD_ok hcall os _ _ _ _ h _ (look_putR hG hd _)
      · simp only at h ⊢
        unfold AOpD
        cases hc : calleeOf o.op G with
        | some p =>
          rw [hc] at h
          simp only at h ⊢
          cases hk : call p.1 p.2 H with
          | none => rw [hk] at h; cases h
          | some r =>
            obtain ⟨x, mm⟩ := r
            rw [hk] at h
            obtain ⟨h1, h1', h2⟩ := hcall _ _ _ _ _ hk
            cases mm with
            | none =>
              have key := rOpsD_ok hcall os _ _ _ _ h _ (look_putR hG hd x)
              exact ⟨h1, x, H, fun _ => rfl, ⟨Nat.le_refl _, fun _ _ => rfl⟩, h2, key⟩
            | some H2 =>
              have hqq : q = false ∧ keepD (some m) H H2 = true := by
                cases hqq : (q || !keepD (some m) H H2)
                · simpa using hqq
                · simp only [hqq] at h; cases h
              obtain ⟨hqf, hkb⟩ := hqq
              have h' : rOps P q (some m) call os (putR o.dst x F) H2 = some (F', H') := by
                simp only at h
                rw [hqf, hkb] at h
                rw [hqf]; exact h
              have key := rOpsD_ok hcall os _ _ _ _ h' _ (look_putR hG hd x)
              exact ⟨h1, x, H2, (fun hq => by rw [hqf] at hq; cases hq), ⟨h1', keepsB_ok (H := H) (H' := H2) hkb⟩, h2, key⟩
        | none =>
          rw [hc] at h
          simp only at h ⊢
          cases hlt : lateB (some m) o.op (aev G) with
          | false => rw [hlt] at h; cases h
          | true =>
          rw [hlt, cond_true] at h
          cases hx : aop P o.op G H with
          | none => rw [hx] at h; cases h
          | some r =>
            obtain ⟨x, H1⟩ := r
            rw [hx] at h
            exact ⟨lateB_ok hlt, _, rfl, rOpsD_ok hcall os _ _ _ _ h _ (look_putR hG hd _)⟩
/-- Code, run (n: how many blocks were there). -/
def rCode (P : Program) (q : Bool) (n : Nat) (call : Caller) : Nat → Code → FT → AHeap → Option (Exit × FT × AHeap)
  | 0, _, _, _ => none
  | k + 1, .seq a b, F, H =>
    match rCode P q n call k a F H with
    | some (.normal, F1, H1) => rCode P q n call k b F1 H1
    | r => r
  | k + 1, .cond c a b, F, H =>
    match ev F c with
    | .bool true => rCode P q n call k a F H
    | .bool false => rCode P q n call k b F H
    | _ => none
  | k + 1, .block id c, F, H =>
    match rCode P q n call k c F H with
    | some (.exit id', F1, H1) => some (bif id' == id then .normal else .exit id', F1, H1)
    | r => r
  | k + 1, .loop c, F, H =>
    bif Nat.ble n H.length then
      match rCode P q n call k c F H with
      | some (.normal, F1, H1) => rCode P q n call k (.loop c) F1 H1
      | r => r
    else none
  | _ + 1, .region _ ops draw, F, H => (rOps P (draw && q) (bif draw then some H.length else none) call (ops.toList.map (lightOf (dsts ops))) F H).map fun r => (.normal, r.1, r.2)
  | _ + 1, .skip, F, H => some (.normal, F, H)
  | _ + 1, .label _, F, H => some (.normal, F, H)
  | _ + 1, .exit id, F, H => some (.exit id, F, H)
  | _ + 1, .ret, F, H => some (.ret, F, H)
  | _ + 1, _, _, _ => none
theorem Rel.env {E E' : Env} {x : AV} {v : Value} (h : Rel E x v) (hn : E'.n = E.n) (hl : ∀ b, E'.loc b = E.loc b) : Rel E' x v := by
  induction h with
  | any v => exact .any v
  | int k n => exact .int k n
  | bool b => exact .bool b
  | str s => exact .str s
  | nilptr => exact .nilptr
  | ptr b o hb => rw [← hl b]; exact .ptr b o (by rw [hn]; exact hb)
  | nilsl => exact .nilsl
  | nils b cap hb hc => exact .nils b cap (by rw [hn]; exact hb) hc
  | sl b o len cap c a hb h1 h2 h3 h4 h5 => exact .sl b o len cap c a (by rw [hn]; exact hb) h1 h2 h3 (by rw [hl]; exact h4) (by rw [hl]; exact h5)
  | nilmp => exact .nilmp
  | mp b hb => rw [← hl b]; exact .mp b (by rw [hn]; exact hb)
  | nilfn => exact .nilfn
  | fn f caps cs hl' _ ih => exact .fn f caps cs hl' ih
  | agg xs cs hl' _ ih => exact .agg xs cs hl' ih
  | tup xs cs hl' _ ih => exact .tup xs cs hl' ih
theorem RelL.env {E E' : Env} {xs : List AV} {vs : List Value} (h : RelL E xs vs) (hn : E'.n = E.n) (hl : ∀ b, E'.loc b = E.loc b) : RelL E' xs vs := ⟨h.1, fun i x v hx hv => (h.2 i x v hx hv).env hn hl⟩
theorem BlkOk.env {E E' : Env} {w : World} {L : Loc} {x : ABlk} (h : BlkOk E w L x) (hB : E'.B = E.B) (hn : E'.n = E.n) (hl : ∀ b, E'.loc b = E.loc b) : BlkOk E' w L x := by
  cases x with
  | dead => trivial
  | cells own es xs =>
    obtain ⟨h1, h2, h3, h4⟩ := h
    refine ⟨fun j x hj => ?_, fun ho => by rw [hB]; exact h2 ho, fun ho hl => by rw [hB]; exact h3 ho hl, h4⟩
    obtain ⟨a, v, hv, hr⟩ := h1 j x hj
    exact ⟨a, v, hv, hr.env hn hl⟩
  | map es =>
    obtain ⟨h1, h2, ents, clock, h3, h4, h5⟩ := h
    exact ⟨by rw [hB]; exact h1, h2, ents, clock, h3, h4.env hn hl, h5.env hn hl⟩
theorem Abs0.same (n : Nat) {F G : Fr} (h : look F = look G) {H : AHeap} (hn : n ≤ H.length) : Abs0 n id F H G H where
  small _ _ := rfl
  len := hn
  frame E E' h1 h2 h3 t v hv := by
    rw [← h]
    exact hv.env (h2.trans h1.symm) h3
  heap E E' h1 h2 h3 h4 w hw b x hx := by
    rw [h4 b]
    exact (hw b x hx).env h3 (h2.trans h1.symm) h4
  inj b c x y hx hy ox oy hbc := ⟨hbc, ⟨x, hx, ox⟩, y, hy, oy⟩
theorem Abs.same (n : Nat) {F G : Fr} (h : look F = look G) {H : AHeap} (hn : n ≤ H.length) : Abs n id F H G H := (Abs0.same n h hn).abs
/-- What a run says. -/
def Ran (q : Bool) (N n : Nat) (P : Program) (r : Exit × FT × AHeap) (c : Code) (F : FT) (H : AHeap) : Prop :=
  ∀ G, getT F = look G → AW P N n c (fun e G1 H1 => e = r.1 ∧ getT r.2.1 = look G1 ∧ H1 = r.2.2) G H
theorem rCode_ok (hm : P.follows .mixedOrders = true) (hcall : CallOk P call) : ∀ (K k : Nat), k ≤ K → ∀ c, codeOk N q c = true → ∀ (F : FT) (H : AHeap) (r : Exit × FT × AHeap), rCode P q n call k c F H = some r → Ran q N n P r c F H
  | K, 0, _, c, _, F, H, r, h => by unfold rCode at h; cases h
  | 0, k + 1, hk, _, _, _, _, _, _ => by omega
  | K + 1, k + 1, hk, c, hc, F, H, r, h => by
    have IH := rCode_ok hm hcall K
    intro G hG
    cases c with
    | skip =>
      simp only [rCode, Option.some.injEq] at h
      subst h
      exact AW_skip ⟨rfl, hG, rfl⟩
    | label l =>
      simp only [rCode, Option.some.injEq] at h
      subst h
      exact AW_label ⟨rfl, hG, rfl⟩
    | exit id =>
      simp only [rCode, Option.some.injEq] at h
      subst h
      exact AW_exit ⟨rfl, hG, rfl⟩
    | ret =>
      simp only [rCode, Option.some.injEq] at h
      subst h
      exact AW_ret ⟨rfl, hG, rfl⟩
    | seq a b =>
      simp only [codeOk, Bool.and_eq_true] at hc
      unfold rCode at h
      cases ha : rCode P q n call k a F H with
      | none => rw [ha] at h; cases h
      | some r1 =>
        obtain ⟨e1, F1, H1⟩ := r1
        rw [ha] at h
        refine AW_seq (AW.mono (IH k (by omega) a hc.1 F H _ ha G hG) ?_)
        rintro e G1 H2 ⟨h1, h2, h3⟩
        simp only at h1 h2 h3
        rw [h1, h3]
        cases e1 with
        | normal => exact IH k (by omega) b hc.2 F1 H1 _ h G1 h2
        | exit id => simp only [Option.some.injEq] at h; subst h; exact ⟨rfl, h2, rfl⟩
        | goto id => simp only [Option.some.injEq] at h; subst h; exact ⟨rfl, h2, rfl⟩
        | ret => simp only [Option.some.injEq] at h; subst h; exact ⟨rfl, h2, rfl⟩
        | panic ch => simp only [Option.some.injEq] at h; subst h; exact ⟨rfl, h2, rfl⟩
        | outgrown => simp only [Option.some.injEq] at h; subst h; exact ⟨rfl, h2, rfl⟩
    | cond c a b =>
      simp only [codeOk, Bool.and_eq_true] at hc
      unfold rCode at h
      rw [ev_eq hG] at h
      cases ht : aev G c with
      | bool t =>
        rw [ht] at h
        cases t with
        | true => exact AW_cond true ht (fun _ => IH k (by omega) a hc.1 F H _ h G hG) (fun e => by cases e)
        | false => exact AW_cond false ht (fun e => by cases e) (fun _ => IH k (by omega) b hc.2 F H _ h G hG)
      | _ => rw [ht] at h; cases h
    | block id c =>
      simp only [codeOk] at hc
      unfold rCode at h
      cases ha : rCode P q n call k c F H with
      | none => rw [ha] at h; cases h
      | some r1 =>
        obtain ⟨e1, F1, H1⟩ := r1
        rw [ha] at h
        refine AW_block (AW.mono (IH k (by omega) c hc F H _ ha G hG) ?_)
        rintro e G1 H2 ⟨h1, h2, h3⟩
        simp only at h1 h2 h3
        rw [h1, h3]
        cases e1 with
        | exit id' =>
          simp only [Option.some.injEq] at h
          subst h
          show (if id' = id then _ else _)
          by_cases e : id' = id
          · rw [if_pos e]; simp [e, h2]
          · have hb : (id' == id) = false := by simp [e]
            rw [if_neg e, hb]; exact ⟨rfl, h2, rfl⟩
        | normal => simp only [Option.some.injEq] at h; subst h; exact ⟨rfl, h2, rfl⟩
        | goto id => simp only [Option.some.injEq] at h; subst h; exact ⟨rfl, h2, rfl⟩
        | ret => simp only [Option.some.injEq] at h; subst h; exact ⟨rfl, h2, rfl⟩
        | panic ch => simp only [Option.some.injEq] at h; subst h; exact ⟨rfl, h2, rfl⟩
        | outgrown => simp only [Option.some.injEq] at h; subst h; exact ⟨rfl, h2, rfl⟩
    | loop c =>
      simp only [codeOk] at hc
      have nle : ∀ j F H, rCode P q n call j (.loop c) F H = some r → n ≤ H.length := fun j F H hh => by
        cases j with
        | zero => unfold rCode at hh; cases hh
        | succ j =>
          unfold rCode at hh
          cases hb : Nat.ble n H.length
          · rw [hb] at hh; cases hh
          · exact Nat.le_of_ble_eq_true hb
      refine AW_loop (fun j F' H' => j ≤ k + 1 ∧ ∃ F0, getT F0 = look F' ∧ rCode P q n call j (.loop c) F0 H' = some r) (k + 1) ⟨id, G, H, ⟨Nat.le_refl _, F, hG, h⟩, Abs.same n rfl (nle _ _ _ h)⟩ ?_
      rintro j F1 H1 ⟨hj, F0, hF0, hr⟩
      cases j with
      | zero => unfold rCode at hr; cases hr
      | succ j =>
        have hn := nle _ _ _ hr
        unfold rCode at hr
        rw [Nat.ble_eq_true_of_le hn, cond_true] at hr
        cases ha : rCode P q n call j c F0 H1 with
        | none => rw [ha] at hr; cases hr
        | some r1 =>
          obtain ⟨e1, F2, H2⟩ := r1
          rw [ha] at hr
          refine AW.mono (IH j (by omega) c hc F0 H1 _ ha F1 hF0) ?_
          rintro e G1 H3 ⟨h1, h2, h3⟩
          simp only at h1 h2 h3
          rw [h1, h3]
          cases e1 with
          | normal => exact ⟨j, by omega, id, G1, H2, ⟨by omega, F2, h2, hr⟩, Abs.same n rfl (nle _ _ _ hr)⟩
          | exit id => simp only [Option.some.injEq] at hr; subst hr; exact ⟨rfl, h2, rfl⟩
          | goto id => simp only [Option.some.injEq] at hr; subst hr; exact ⟨rfl, h2, rfl⟩
          | ret => simp only [Option.some.injEq] at hr; subst hr; exact ⟨rfl, h2, rfl⟩
          | panic ch => simp only [Option.some.injEq] at hr; subst hr; exact ⟨rfl, h2, rfl⟩
          | outgrown => simp only [Option.some.injEq] at hr; subst hr; exact ⟨rfl, h2, rfl⟩
    | region id ops draw =>
      unfold rCode at h
      simp only [Option.map_eq_some_iff] at h
      obtain ⟨⟨F1, H1⟩, h1, h2⟩ := h
      subst h2
      refine AW_of hm _ hc _ _ _ ?_
      cases draw with
      | false => exact AOpsL.mono (fun F H hh => ⟨rfl, hh⟩) _ _ _ (rOps_ok hcall _ _ _ _ _ h1 G hG)
      | true => exact AOpsDL.mono (fun F H hh => ⟨rfl, hh⟩) _ _ _ (rOpsD_ok hcall _ _ _ _ _ h1 G hG)
    | _ => unfold rCode at h; cases h
def lookT : List (Nat × Bool × Func) → Nat → Option (Bool × Func)
  | [], _ => none
  | p :: r, f => bif Nat.beq p.1 f then some p.2 else lookT r f
/-- A function, run: what it hands back, and the memory if it has changed. -/
def rFun (P : Program) (ext : Caller) (tb : List (Nat × Bool × Func)) (fuel : Nat) : Nat → Caller
  | 0, _, _, _ => none
  | k + 1, f, args, H =>
    match lookT tb f with
    | none => ext f args H
    | some (q, fn) =>
      match fn.body with
      | none => none
      | some c =>
        bif Nat.ble args.length fn.ntmps && Nat.ble args.length 1024 then
          match rCode P q H.length (rFun P ext tb fuel k) fuel c (argT 0 args) H with
          | none => none
          | some (e, F', H') =>
            bif (match e with | .ret => true | .normal => true | _ => false) then
              match (aResE P fn.results.toList F' H').map one1 with
              | none => none
              | some x => bif x.bel 0 && prefixB H H' then some (x, none) else bif Nat.ble H.length H'.length then some (x, some H') else none
            else none
        else none
/-- The functions of a table can be entered, and their regions are as the machine wants them. -/
inductive TbOk (P : Program) : List (Nat × Bool × Func) → Prop where
  | nil : TbOk P []
  | cons {f : Nat} {q : Bool} {fn : Func} {r : List (Nat × Bool × Func)} : okFn P f = true → P.funcs[f]? = some fn → (fn.body.map (codeOk fn.ntmps q)) = some true → TbOk P r → TbOk P ((f, q, fn) :: r)
theorem lookT_ok {P : Program} : ∀ {tb : List (Nat × Bool × Func)}, TbOk P tb → ∀ {f : Nat} {q : Bool} {fn : Func}, lookT tb f = some (q, fn) → okFn P f = true ∧ P.funcs[f]? = some fn ∧ (fn.body.map (codeOk fn.ntmps q)) = some true
  | _, .nil, f, q, fn, h => by cases h
  | _, .cons (f := g) h1 h2 h3 hr, f, q, fn, h => by
    unfold lookT at h
    cases hp : Nat.beq g f
    · simp only [hp, cond_false] at h
      exact lookT_ok hr h
    · simp only [hp, cond_true, Option.some.injEq, Prod.mk.injEq] at h
      have e : g = f := Nat.eq_of_beq_eq_true hp
      obtain ⟨rfl, rfl⟩ := h
      subst e
      exact ⟨h1, h2, h3⟩
theorem rFun_ok (hm : P.follows .mixedOrders = true) {ext : Caller} (hext : CallOk P ext) (tb : List (Nat × Bool × Func)) (htb : TbOk P tb) (fuel : Nat) : ∀ k, CallOk P (rFun P ext tb fuel k)
  | 0 => fun f args H x o h => by unfold rFun at h; cases h
  | k + 1 => fun f args H x o h => by
    have IH := rFun_ok hm hext tb htb fuel k
    unfold rFun at h
    cases hq : lookT tb f with
    | none => rw [hq] at h; exact hext f args H x o h
    | some p =>
      obtain ⟨q, fn⟩ := p
      rw [hq] at h
      obtain ⟨ht1, hf, ht2⟩ := lookT_ok htb hq
      refine ⟨ht1, ?_⟩
      suffices hall : H.length ≤ (o.getD H).length ∧ ACalls P f args H (fun y H1 => y = x ∧ H1 = o.getD H) from hall
      simp only at h
      cases hb : fn.body with
      | none => rw [hb] at h; cases h
      | some c =>
        rw [hb] at h ht2
        simp only [Option.map_some, Option.some.injEq] at h ht2
        cases hN : Nat.ble args.length fn.ntmps && Nat.ble args.length 1024
        · rw [hN] at h; cases h
        · rw [hN, cond_true] at h
          simp only [Bool.and_eq_true] at hN
          cases hr : rCode P q H.length (rFun P ext tb fuel k) fuel c (argT 0 args) H with
          | none => rw [hr] at h; cases h
          | some r =>
            obtain ⟨e, F', H'⟩ := r
            rw [hr] at h
            simp only at h
            have he : e = .ret ∨ e = .normal := by
              cases e <;> first | exact .inl rfl | exact .inr rfl | (simp at h)
            have h' : (match (aResE P fn.results.toList F' H').map one1 with
              | none => none
              | some x => bif x.bel 0 && prefixB H H' then some (x, none) else bif Nat.ble H.length H'.length then some (x, some H') else none) = some (x, o) := by
              rcases he with rfl | rfl <;> exact h
            clear h
            cases hx : (aResE P fn.results.toList F' H').map one1 with
            | none => rw [hx] at h'; cases h'
            | some y =>
              rw [hx] at h'
              simp only at h'
              have key : ∀ (R : AV → AHeap → Prop), (∀ G1, aResult P fn G1 H' = some y → HBel H.length H → AEnd P fn H.length R e G1 H') → ACalls P f args H R := fun R hR => by
                refine ACalls_of hf hb rfl (Nat.le_of_ble_eq_true hN.1) fun hbel => AW.mono (rCode_ok hm IH fuel fuel (Nat.le_refl _) c ht2 _ _ _ hr _ (argT_eq args 0 (by have := Nat.le_of_ble_eq_true hN.2; omega))) ?_
                rintro e1 G1 H1 ⟨h1, h2, h3⟩
                simp only at h1 h2 h3
                rw [h1, h3]
                exact hR G1 (by unfold aResult; rw [← aResE_eq h2]; exact hx) hbel
              cases hp : y.bel 0 && prefixB H H'
              · rw [hp, cond_false] at h'
                cases hle : Nat.ble H.length H'.length
                · rw [hle] at h'; cases h'
                · rw [hle, cond_true] at h'
                  simp only [Option.some.injEq, Prod.mk.injEq] at h'
                  obtain ⟨rfl, rfl⟩ := h'
                  refine ⟨Nat.le_of_ble_eq_true hle, key _ fun G1 hG1 _ => ?_⟩
                  have : ∃ x1, aResult P fn G1 H' = some x1 ∧ ∃ σ x2 H2, (x2 = y ∧ H2 = (some H').getD H) ∧ Abs H.length σ [(0, x1)] H' [(0, x2)] H2 :=
                    ⟨y, hG1, id, y, H', ⟨rfl, rfl⟩, Abs.same _ rfl (Nat.le_of_ble_eq_true hle)⟩
                  rcases he with rfl | rfl <;> exact this
              · rw [hp, cond_true] at h'
                simp only [Option.some.injEq, Prod.mk.injEq] at h'
                obtain ⟨rfl, rfl⟩ := h'
                simp only [Bool.and_eq_true] at hp
                obtain ⟨l, rfl⟩ := prefixB_eq hp.2
                exact ⟨Nat.le_refl _, key _ fun G1 hG1 hbel => end_plain he hbel hG1 hp.1 ⟨rfl, rfl⟩⟩
/-- No function from outside. -/
def noExt : Caller := fun _ _ _ => none
theorem noExt_ok (P : Program) : CallOk P noExt := fun _ _ _ _ _ h => by cases h
/-- A call at known arguments, by the kernel's own run. -/
theorem ran (hm : P.follows .mixedOrders = true) {ext : Caller} (hext : CallOk P ext) (tb : List (Nat × Bool × Func)) (htb : TbOk P tb) (fuel k : Nat) {f : FuncId} {args : List AV} {H : AHeap} {x : AV} {o : Option AHeap} (h : rFun P ext tb fuel k f args H = some (x, o)) : ACalls P f args H (fun y H1 => y = x ∧ H1 = o.getD H) :=
  (rFun_ok hm hext tb htb fuel k f args H x o h).2.2
theorem rel_closed {E E' : Env} {x : AV} {v : Value} (h : Rel E x v) : x.bel 0 = true → Rel E' x v := by
  induction h with
  | any v => exact fun _ => .any v
  | int k n => exact fun _ => .int k n
  | bool b => exact fun _ => .bool b
  | str s => exact fun _ => .str s
  | nilptr => exact fun _ => .nilptr
  | ptr b o hb => exact fun hx => by simp [AV.bel] at hx
  | nilsl => exact fun _ => .nilsl
  | nils b cap hb hc => exact fun hx => by simp [AV.bel] at hx
  | sl b o len cap c a hb h1 h2 h3 h4 h5 => exact fun hx => by simp [AV.bel] at hx
  | nilmp => exact fun _ => .nilmp
  | mp b hb => exact fun hx => by simp [AV.bel] at hx
  | nilfn => exact fun _ => .nilfn
  | fn f caps cs hl _ ih => exact fun hx => .fn f caps cs hl fun i x v h1 h2 => ih i x v h1 h2 (by simp only [AV.bel, AV.bels_eq] at hx; exact List.all_eq_true.1 hx _ (List.mem_of_getElem? h1))
  | agg xs cs hl _ ih => exact fun hx => .agg xs cs hl fun i x v h1 h2 => ih i x v h1 h2 (by simp only [AV.bel, AV.bels_eq] at hx; exact List.all_eq_true.1 hx _ (List.mem_of_getElem? h1))
  | tup xs cs hl _ ih => exact fun hx => .tup xs cs hl fun i x v h1 h2 => ih i x v h1 h2 (by simp only [AV.bel, AV.bels_eq] at hx; exact List.all_eq_true.1 hx _ (List.mem_of_getElem? h1))
/-- A call that takes and hands back plain values and leaves an empty memory empty leaves any memory as it was. -/
theorem ACalls.closed {f : FuncId} {args : List AV} {x : AV} (h : ACalls P f args [] (fun y H1 => y = x ∧ H1 = [])) (ha : args.all (AV.bel 0) = true) (hx : x.bel 0 = true) (H : AHeap) : ACalls P f args H (fun y H1 => y = x ∧ H1 = H) := by
  intro E w vs hE hv
  let E0 : Env := ⟨w.heap.size, w, 0, fun _ => ⟨0, 0, 0, 0⟩⟩
  have hE0 : Emb E0 [] w := ⟨rfl, Below.refl _ _, Nat.le_refl _, fun b x h => by simp at h, fun b c x y h => by simp at h⟩
  refine (h E0 w vs hE0 ⟨hv.1, fun i y v h1 h2 => rel_closed (hv.2 i y v h1 h2) (List.all_eq_true.1 ha _ (List.mem_of_getElem? h1))⟩).mono ?_
  rintro e w' ⟨E', v, H', y, he, ⟨rfl, rfl⟩, hle, hr, hemb⟩
  have hb := hemb.below
  rw [hle.B, hle.w0] at hb
  exact ⟨E, v, H, y, he, ⟨rfl, rfl⟩, .refl E, rel_closed hr hx, hE.up hb⟩
end
end Go.Proofs.Ytjfnbcifafmefaa
