/- Parts of the proof: walks and plain facts. Conditions: as each theorem states. -/
import Derived.Test.YtcokgigjmjlmnaaGreatG2
import Derived.Test.YtcokgigjmjlmnaaGreatG3
namespace Go.Proofs.YtcokgigjmjlmnaaGreat
set_option linter.unusedSimpArgs false
set_option linter.unusedVariables false
open Go.RowKit

mutual
def AV.eqb : AV → AV → Bool
  | .any, y => (match y with | .any => true | _ => false)
  | .int k n, y => (match y with | .int k' n' => decide (k = k') && decide (n = n') | _ => false)
  | .bool b, y => (match y with | .bool b' => b == b' | _ => false)
  | .str s, y => (match y with | .str s' => decide (s = s') | _ => false)
  | .ptr a, y => (match y with | .ptr a' => decide (a = a') | _ => false)
  | .sl a l c, y => (match y with | .sl a' l' c' => decide (a = a') && (decide (l = l') && decide (c = c')) | _ => false)
  | .mp r, y => (match y with | .mp r' => decide (r = r') | _ => false)
  | .fn f cs, y => (match y with | .fn f' cs' => decide (f = f') && AV.eqbs cs cs' | _ => false)
  | .nilfn, y => (match y with | .nilfn => true | _ => false)
  | .agg cs, y => (match y with | .agg cs' => AV.eqbs cs cs' | _ => false)
  | .tup cs, y => (match y with | .tup cs' => AV.eqbs cs cs' | _ => false)
def AV.eqbs : List AV → List AV → Bool
  | [], ys => (match ys with | [] => true | _ => false)
  | x :: xs, ys => (match ys with | y :: ys => AV.eqb x y && AV.eqbs xs ys | [] => false)
end
mutual
theorem AV.eqb_eq : ∀ (x y : AV), AV.eqb x y = true → x = y
  | .any, y, h => by cases y <;> first | rfl | (simp [AV.eqb] at h)
  | .int k n, y, h => by cases y <;> first | (simp [AV.eqb] at h; done) | (simp [AV.eqb] at h; rw [h.1, h.2])
  | .bool b, y, h => by cases y <;> first | (simp [AV.eqb] at h; done) | (simp [AV.eqb] at h; rw [h])
  | .str s, y, h => by cases y <;> first | (simp [AV.eqb] at h; done) | (simp [AV.eqb] at h; rw [h])
  | .ptr a, y, h => by cases y <;> first | (simp [AV.eqb] at h; done) | (simp [AV.eqb] at h; rw [h])
  | .sl a l c, y, h => by cases y <;> first | (simp [AV.eqb] at h; done) | (simp [AV.eqb] at h; rw [h.1, h.2.1, h.2.2])
  | .mp r, y, h => by cases y <;> first | (simp [AV.eqb] at h; done) | (simp [AV.eqb] at h; rw [h])
  | .fn f cs, y, h => by
    cases y <;> first | (simp [AV.eqb] at h; done) | skip
    simp [AV.eqb] at h
    rw [h.1, AV.eqbs_eq _ _ h.2]
  | .nilfn, y, h => by cases y <;> first | rfl | (simp [AV.eqb] at h)
  | .agg cs, y, h => by
    cases y <;> first | (simp [AV.eqb] at h; done) | skip
    simp [AV.eqb] at h
    rw [AV.eqbs_eq _ _ h]
  | .tup cs, y, h => by
    cases y <;> first | (simp [AV.eqb] at h; done) | skip
    simp [AV.eqb] at h
    rw [AV.eqbs_eq _ _ h]
theorem AV.eqbs_eq : ∀ (xs ys : List AV), AV.eqbs xs ys = true → xs = ys
  | [], ys, h => by cases ys <;> first | rfl | (simp [AV.eqbs] at h)
  | x :: xs, ys, h => by
    cases ys with
    | nil => simp [AV.eqbs] at h
    | cons y ys =>
      simp [AV.eqbs] at h
      rw [AV.eqb_eq _ _ h.1, AV.eqbs_eq _ _ h.2]
end
def ABlk.eqb : ABlk → ABlk → Bool
  | .dead, y => (match y with | .dead => true | _ => false)
  | .cells o e xs, y => (match y with | .cells o' e' xs' => (o == o') && (decide (e = e') && AV.eqbs xs xs') | _ => false)
  | .map es, y => (match y with | .map es' => AV.eqbs (es.map (·.1)) (es'.map (·.1)) && AV.eqbs (es.map (·.2)) (es'.map (·.2)) | _ => false)
theorem pairs_eq {α β : Type} : ∀ {l m : List (α × β)}, l.map (·.1) = m.map (·.1) → l.map (·.2) = m.map (·.2) → l = m
  | [], [], _, _ => rfl
  | [], _ :: _, h, _ => by simp at h
  | _ :: _, [], h, _ => by simp at h
  | (a, b) :: l, (c, d) :: m, h1, h2 => by
    simp only [List.map_cons, List.cons.injEq] at h1 h2
    rw [h1.1, h2.1, pairs_eq h1.2 h2.2]
theorem ABlk.eqb_eq {x y : ABlk} (h : ABlk.eqb x y = true) : x = y := by
  cases x <;> cases y <;> first | rfl | (simp [ABlk.eqb] at h; done) | skip
  · simp [ABlk.eqb] at h
    rw [h.1, h.2.1, AV.eqbs_eq _ _ h.2.2]
  · simp only [ABlk.eqb, Bool.and_eq_true] at h
    rw [pairs_eq (AV.eqbs_eq _ _ h.1) (AV.eqbs_eq _ _ h.2)]
/-- The memory begins as it was. -/
def prefixB : AHeap → AHeap → Bool
  | [], _ => true
  | x :: r, y :: s => ABlk.eqb x y && prefixB r s
  | _ :: _, [] => false
theorem prefixB_eq : ∀ {H H' : AHeap}, prefixB H H' = true → ∃ l, H' = H ++ l
  | [], H', _ => ⟨H', rfl⟩
  | x :: r, [], h => by simp [prefixB] at h
  | x :: r, y :: s, h => by
    simp only [prefixB, Bool.and_eq_true] at h
    obtain ⟨l, hl⟩ := prefixB_eq h.2
    exact ⟨l, by rw [← ABlk.eqb_eq h.1, hl]; rfl⟩
/-- A frame as a tree by the bits of a slot's number. -/
inductive FT where
  | nil
  | leaf (x : AV)
  | node (l r : FT)
def FT.get : Nat → FT → Nat → AV
  | 0, f, _ => (match f with | .leaf x => x | _ => .any)
  | d + 1, f, t => (match f with | .node l r => bif Nat.beq (t % 2) 0 then FT.get d l (t / 2) else FT.get d r (t / 2) | _ => .any)
def FT.set : Nat → Nat → AV → FT → FT
  | 0, _, x, _ => .leaf x
  | d + 1, t, x, f => (match f with
    | .node l r => bif Nat.beq (t % 2) 0 then .node (FT.set d (t / 2) x l) r else .node l (FT.set d (t / 2) x r)
    | _ => bif Nat.beq (t % 2) 0 then .node (FT.set d (t / 2) x .nil) .nil else .node .nil (FT.set d (t / 2) x .nil))
theorem FT.get_nil : ∀ (d s : Nat), FT.get d .nil s = .any
  | 0, _ => rfl
  | _ + 1, _ => rfl
theorem FT.get_set : ∀ (d t s : Nat) (x : AV) (f : FT), t < 2 ^ d → s < 2 ^ d → FT.get d (FT.set d t x f) s = if t = s then x else FT.get d f s
  | 0, t, s, x, f, ht, hs => by
    have : t = s := by simp at ht hs; omega
    rw [if_pos this]; rfl
  | d + 1, t, s, x, f, ht, hs => by
    have ht' : t / 2 < 2 ^ d := by rw [Nat.pow_succ] at ht; omega
    have hs' : s / 2 < 2 ^ d := by rw [Nat.pow_succ] at hs; omega
    have ih := FT.get_set d (t / 2) (s / 2) x
    have hb : ∀ u : Nat, Nat.beq (u % 2) 0 = decide (u % 2 = 0) := fun u => by
      by_cases h : u % 2 = 0
      · rw [h]; rfl
      · have : u % 2 = 1 := by omega
        rw [this]; rfl
    have key : ∀ l r : FT, FT.get (d + 1) (bif Nat.beq (t % 2) 0 then .node (FT.set d (t / 2) x l) r else .node l (FT.set d (t / 2) x r)) s = if t = s then x else FT.get (d + 1) (.node l r) s := fun l r => by
      rw [hb]
      by_cases h1 : t % 2 = 0
      · simp only [h1, decide_true, cond_true, FT.get]
        rw [hb]
        by_cases h2 : s % 2 = 0
        · simp only [h2, decide_true, cond_true]
          rw [ih l ht' hs']
          by_cases e : t = s
          · rw [if_pos (by rw [e]), if_pos e]
          · rw [if_neg (by omega), if_neg e]
        · simp only [h2, decide_false, cond_false]
          rw [if_neg (by omega)]
      · simp only [h1, decide_false, cond_false, FT.get]
        rw [hb]
        by_cases h2 : s % 2 = 0
        · simp only [h2, decide_true, cond_true]
          rw [if_neg (by omega)]
        · simp only [h2, decide_false, cond_false]
          rw [ih r ht' hs']
          by_cases e : t = s
          · rw [if_pos (by rw [e]), if_pos e]
          · rw [if_neg (by omega), if_neg e]
    cases f with
    | node l r => exact key l r
    | nil =>
      have := key .nil .nil
      rw [show FT.get (d + 1) (.node .nil .nil) s = FT.get (d + 1) .nil s by simp [FT.get, FT.get_nil]] at this
      exact this
    | leaf y =>
      have := key .nil .nil
      rw [show FT.get (d + 1) (.node .nil .nil) s = FT.get (d + 1) (.leaf y) s by simp [FT.get, FT.get_nil]] at this
      exact this
/-- What a slot holds. -/
def getT (f : FT) (t : Nat) : AV := bif Nat.blt t 1024 then FT.get 10 f t else .any
def putR (d : Option Tmp) (x : AV) (f : FT) : FT :=
  match d with
  | some t => FT.set 10 t x f
  | none => f
def okD (d : Option Tmp) : Bool :=
  match d with
  | some t => Nat.blt t 1024
  | none => true
theorem look_putR {f : FT} {G : Fr} (h : getT f = look G) {d : Option Tmp} (hd : okD d = true) (x : AV) : getT (putR d x f) = look (putF d x G) := by
  funext s
  cases d with
  | none => exact congrFun h s
  | some t =>
    have hs := congrFun h s
    have ht : t < 1024 := Nat.le_of_ble_eq_true hd
    show getT (FT.set 10 t x f) s = look ((t, x) :: G) s
    unfold getT at hs ⊢
    simp only [look]
    cases hb : Nat.blt s 1024 with
    | false =>
      rw [hb] at hs
      have hlt : ¬ s < 1024 := fun hh => by rw [show Nat.blt s 1024 = true from Nat.ble_eq_true_of_le hh] at hb; cases hb
      have : (t == s) = false := by rw [beq_eq_false_iff_ne]; exact fun e => hlt (e ▸ ht)
      rw [this]; exact hs
    | true =>
      rw [hb] at hs
      simp only [cond_true] at hs ⊢
      have hlt : s < 1024 := Nat.le_of_ble_eq_true hb
      rw [FT.get_set 10 t s x f (by simpa using ht) (by simpa using hlt), hs]
      by_cases e : t = s
      · simp [e]
      · have : (t == s) = false := by simp [e]
        rw [if_neg e, this]; rfl
theorem getT_nil : getT .nil = look [] := by
  funext s
  unfold getT
  cases Nat.blt s 1024 <;> simp [FT.get_nil, look]
/-- The arguments' frame. -/
def argT : Nat → List AV → FT
  | _, [] => .nil
  | i, x :: r => FT.set 10 i x (argT (i + 1) r)
theorem argT_eq : ∀ (xs : List AV) (i : Nat), i + xs.length ≤ 1024 → getT (argT i xs) = look (argF i xs)
  | [], i, _ => getT_nil
  | x :: r, i, h => by
    simp only [List.length_cons] at h
    exact look_putR (d := some i) (argT_eq r (i + 1) (by omega)) (Nat.ble_eq_true_of_le (by omega)) x
def ev (f : FT) : Operand → AV
  | .tmp t => getT f t
  | .const v => AV.ofValue v
  | .global _ => .any
  | .func g => .fn g []
theorem ev_eq {f : FT} {G : Fr} (h : getT f = look G) : ev f = aev G := by
  funext o; cases o <;> simp [ev, aev, h]
def aopE (P : Program) (o : Op) (e : Operand → AV) (H : AHeap) : Option (AV × AHeap) :=
  match o with
  | .move x => some (e x, H)
  | .assign x => some (e x, H)
  | .pick c a b => (match e c with | .bool t => some (bif t then e a else e b, H) | _ => none)
  | .alloc t => aAlloc P t H
  | .box _ x => aBox (e x) H
  | .build t ps => (aBuild P t (ps.toList.map fun p => (p.1, e p.2))).map fun r => (r, H)
  | .buildSlice t n ps => aBuildSlice P t n (ps.toList.map fun p => (p.1, e p.2)) H
  | .load t a => aLoad P t (e a) H
  | .store t a x => (aStore P t (e a) (e x) H).map fun H' => (.any, H')
  | .nilCheck x => (match e x with | .ptr (some a) => some (.ptr (some a), H) | .fn f c => some (.fn f c, H) | _ => none)
  | .binOp op t x y _ => (aBin P op t (e x) (e y)).map fun r => (r, H)
  | .unOp op _ x => (aUn op (e x)).map fun r => (r, H)
  | .convert s d x => (aConv P s d (e x) H).map fun r => (r, H)
  | .makeFunc fn first caps => (match fn with | .func f => (need (first.toList.length = 0)).map fun _ => (.fn f (caps.toList.map e), H) | _ => none)
  | .makeMap t r => (match r with | none => some (.mp (some H.length), H ++ [.map []]) | some x => (match e x with | .int _ _ => (tMap P t).map fun _ => (.mp (some H.length), H ++ [.map []]) | _ => none))
  | .makeSlice t l c => aMakeSlice P t (e l) (e c) H
  | .slice t x lo hi mx => (aSlice P t (e x) (lo.map e) (hi.map e) (mx.map e) H).map fun r => (r, H)
  | .fieldAddr t x f => (aFieldAddr P t (e x) f).map fun r => (r, H)
  | .field t x f => (aField P t (e x) f).map fun r => (r, H)
  | .indexAddr t x i => (aIndexAddr P t (e x) (e i)).map fun r => (r, H)
  | .index t x i => (aIndex P t (e x) (e i)).map fun r => (r, H)
  | .lookup t m k ok => (aLookup P t (e m) (e k) ok H).map fun r => (r, H)
  | .mapUpdate t m k x => (aMapUpdate P t (e m) (e k) (e x) H).map fun H' => (.any, H')
  | .extract x i => (aExtract (e x) i).map fun r => (r, H)
  | .call c => (match c.callee with | .builtin b => aBuiltin P b c.argTypes.toList (c.args.toList.map e) H | _ => none)
  | _ => none
theorem aopE_eq (P : Program) (o : Op) (G : Fr) (H : AHeap) : aopE P o (aev G) H = aop P o G H := by
  cases o <;> rfl
def calleeE (o : Op) (e : Operand → AV) : Option (FuncId × List AV) :=
  match o with
  | .call c => (match c.callee with | .value f => (match e f with | .fn k caps => some (k, c.args.toList.map e ++ caps) | _ => none) | _ => none)
  | _ => none
theorem calleeE_eq (o : Op) (G : Fr) : calleeE o (aev G) = calleeOf o G := by
  cases o <;> rfl
def gdE (f : FT) : Option (Option Tmp × Bool) → Option Bool
  | none => some true
  | some (none, _) => none
  | some (some t, want) => (match getT f t with | .bool b => some (b == want) | .tup [] => some false | _ => none)
theorem gdE_eq {f : FT} {G : Fr} (h : getT f = look G) (g : Option (Option Tmp × Bool)) : gdE f g = gdL G g := by
  cases g with
  | none => rfl
  | some p =>
    obtain ⟨a, b⟩ := p
    cases a with
    | none => rfl
    | some t =>
      simp only [gdE, gdL, h]
      cases look G t with
      | tup l => cases l <;> rfl
      | _ => rfl
def aResE (P : Program) : List ResultVar → FT → AHeap → Option (List AV)
  | [], _, _ => some []
  | .tmp t :: rs, f, H => (aResE P rs f H).map fun l => getT f t :: l
  | .cell a t :: rs, f, H => (aLoad P t (getT f a) H).bind fun x => (aResE P rs f H).map fun l => x.1 :: l
theorem aResE_eq {f : FT} {G : Fr} (h : getT f = look G) (P : Program) (H : AHeap) : ∀ rs : List ResultVar, aResE P rs f H = aRes P rs G H
  | [] => rfl
  | .tmp t :: rs => by simp [aResE, aRes, h, aResE_eq h P H rs]
  | .cell a t :: rs => by simp [aResE, aRes, h, aResE_eq h P H rs]
abbrev Caller := FuncId → List AV → AHeap → Option (AV × Option AHeap)
def CallOk (P : Program) (call : Caller) : Prop := ∀ f args H x o, call f args H = some (x, o) → okFn P f = true ∧ H.length ≤ (o.getD H).length ∧ ACalls P f args H (fun y H1 => y = x ∧ H1 = o.getD H)
def belowB (m : Nat) : AV → Bool
  | .ptr (some (b, _)) => Nat.blt b m
  | .sl (some (b, _)) _ _ => Nat.blt b m
  | _ => true
def lenB (m : Nat) : AV → Bool
  | .mp (some b) => Nat.blt b m
  | _ => true
theorem belowB_ok {m : Nat} : ∀ {x : AV}, belowB m x = true → belowV m x
  | .ptr (some (_, _)), h => Nat.le_of_ble_eq_true h
  | .sl (some (_, _)) _ _, h => Nat.le_of_ble_eq_true h
  | .ptr none, _ => trivial | .sl none _ _, _ => trivial | .mp _, _ => trivial
  | .any, _ => trivial | .int _ _, _ => trivial | .bool _, _ => trivial | .str _, _ => trivial | .fn _ _, _ => trivial | .nilfn, _ => trivial | .agg _, _ => trivial | .tup _, _ => trivial
theorem lenB_ok {m : Nat} : ∀ {x : AV}, lenB m x = true → lenV m x
  | .mp (some _), h => Nat.le_of_ble_eq_true h
  | .mp none, _ => trivial | .sl _ _ _, _ => trivial | .ptr _, _ => trivial
  | .any, _ => trivial | .int _ _, _ => trivial | .bool _, _ => trivial | .str _, _ => trivial | .fn _ _, _ => trivial | .nilfn, _ => trivial | .agg _, _ => trivial | .tup _, _ => trivial
def lateB (d : Option Nat) (o : Op) (e : Operand → AV) : Bool :=
  match d with
  | some m => (match o with
    | .load _ a => belowB m (e a)
    | .slice _ x _ _ _ => belowB m (e x)
    | .call c => (match c.callee, c.args.toList with | .builtin .len, x :: _ => lenB m (e x) | _, _ => true)
    | _ => true)
  | none => true
theorem lateB_ok {m : Nat} {o : Op} {G : Fr} (h : lateB (some m) o (aev G) = true) : lateOk m o G := by
  unfold lateB at h
  unfold lateOk
  simp only at h
  split
  · exact belowB_ok h
  · exact belowB_ok h
  · simp only at h
    split
    · rename_i h1 h2
      simp only [h1, h2] at h
      exact lenB_ok h
    · trivial
  · trivial
/-- A call leaves what is below m. -/
def keepsB (m : Nat) (H H' : AHeap) : Bool := (List.range m).all fun b => match H[b]?, H'[b]? with | some x, some y => ABlk.eqb y x | none, none => true | _, _ => false
theorem keepsB_ok {m : Nat} {H H' : AHeap} (h : keepsB m H H' = true) : ∀ b, b < m → H'[b]? = H[b]? := fun b hb => by
  have := List.all_eq_true.1 h b (List.mem_range.2 hb)
  revert this
  cases H[b]? <;> cases H'[b]? <;> simp
  exact fun h => (ABlk.eqb_eq h)
def keepD (d : Option Nat) (H H' : AHeap) : Bool := match d with | some m => keepsB m H H' | none => true
/-- Operations in a row (keep: a call must leave the memory as it was; d: in a region that draws, how many blocks were there before it). -/
def rOps (P : Program) (keep : Bool) (d : Option Nat) (call : Caller) : List LOp → FT → AHeap → Option (FT × AHeap)
  | [], F, H => some (F, H)
  | o :: os, F, H =>
    bif okD o.dst then
      match gdE F o.g with
      | none => none
      | some false => rOps P keep d call os (putR o.dst (.tup []) F) H
      | some true =>
        match calleeE o.op (ev F) with
        | some p =>
          match call p.1 p.2 H with
          | none => none
          | some (x, none) => rOps P keep d call os (putR o.dst x F) H
          | some (x, some H') => bif keep || !keepD d H H' then none else rOps P keep d call os (putR o.dst x F) H'
        | none =>
          bif lateB d o.op (ev F) then
            match aopE P o.op (ev F) H with
            | none => none
            | some (x, H') => rOps P keep d call os (putR o.dst x F) H'
          else none
    else none
section
section
variable {P : Program} {N n m : Nat} {d : Option Nat} {q keep : Bool} {call : Caller}
theorem rOps_ok (hcall : CallOk P call) : ∀ (os : List LOp) (F : FT) (H : AHeap) (F' : FT) (H' : AHeap), rOps P keep d call os F H = some (F', H') → ∀ G, getT F = look G → AOpsL P os G H (fun G' H1 => getT F' = look G' ∧ H1 = H')
  | [], F, H, F', H', h, G, hG => by
    simp only [rOps, Option.some.injEq, Prod.mk.injEq] at h
    obtain ⟨rfl, rfl⟩ := h
    exact ⟨hG, rfl⟩
  | o :: os, F, H, F', H', h, G, hG => by
    unfold rOps at h
    unfold AOpsL
    cases hd : okD o.dst with
    | false => rw [hd] at h; cases h
    | true =>
    rw [hd, cond_true] at h
    rw [gdE_eq hG, ev_eq hG, calleeE_eq, aopE_eq] at h
    cases hg : gdL G o.g with
    | none => rw [hg] at h; cases h
    | some b =>
      rw [hg] at h
      cases b
      · exact rOps_ok hcall os _ _ _ _ h _ (look_putR hG hd _)
      · simp only at h ⊢
        unfold AOp
        cases hc : calleeOf o.op G with
        | some p =>
          rw [hc] at h
          simp only at h ⊢
          cases hk : call p.1 p.2 H with
          | none => rw [hk] at h; cases h
          | some r =>
            obtain ⟨x, mm⟩ := r
            rw [hk] at h
            obtain ⟨h1, h1', h2⟩ := hcall _ _ _ _ _ hk
            cases mm with
            | none =>
              have key := rOps_ok hcall os _ _ _ _ h _ (look_putR hG hd x)
              exact ⟨h1, h2.mono fun y H1 hy => by rw [hy.1, hy.2]; exact key⟩
            | some H2 =>
              have h' : rOps P keep d call os (putR o.dst x F) H2 = some (F', H') := by
                simp only at h
                cases hqq : (keep || !keepD d H H2)
                · rw [hqq] at h; exact h
                · rw [hqq] at h; cases h
              have key := rOps_ok hcall os _ _ _ _ h' _ (look_putR hG hd x)
              exact ⟨h1, h2.mono fun y H1 hy => by rw [hy.1, hy.2]; exact key⟩
        | none =>
          rw [hc] at h
          simp only at h ⊢
          cases hlt : lateB d o.op (aev G) with
          | false => rw [hlt] at h; cases h
          | true =>
          rw [hlt, cond_true] at h
          cases hx : aop P o.op G H with
          | none => rw [hx] at h; cases h
          | some r =>
            obtain ⟨x, H1⟩ := r
            rw [hx] at h
            exact ⟨_, rfl, rOps_ok hcall os _ _ _ _ h _ (look_putR hG hd _)⟩
theorem rOpsD_ok (hcall : CallOk P call) : ∀ (os : List LOp) (F : FT) (H : AHeap) (F' : FT) (H' : AHeap), rOps P q (some m) call os F H = some (F', H') → ∀ G, getT F = look G → AOpsDL P q m os G H (fun G' H1 => getT F' = look G' ∧ H1 = H')
  | [], F, H, F', H', h, G, hG => by
    simp only [rOps, Option.some.injEq, Prod.mk.injEq] at h
    obtain ⟨rfl, rfl⟩ := h
    exact ⟨hG, rfl⟩
  | o :: os, F, H, F', H', h, G, hG => by
    unfold rOps at h
    unfold AOpsDL
    cases hd : okD o.dst with
    | false => rw [hd] at h; cases h
    | true =>
    rw [hd, cond_true] at h
    rw [gdE_eq hG, ev_eq hG, calleeE_eq, aopE_eq] at h
    cases hg : gdL G o.g with
    | none => rw [hg] at h; cases h
    | some b =>
      rw [hg] at h
      cases b
      · exact rOpsD_ok hcall os _ _ _ _ h _ (look_putR hG hd _)
      · simp only at h ⊢
        unfold AOpD
        cases hc : calleeOf o.op G with
        | some p =>
          rw [hc] at h
          simp only at h ⊢
          cases hk : call p.1 p.2 H with
          | none => rw [hk] at h; cases h
          | some r =>
            obtain ⟨x, mm⟩ := r
            rw [hk] at h
            obtain ⟨h1, h1', h2⟩ := hcall _ _ _ _ _ hk
            cases mm with
            | none =>
              have key := rOpsD_ok hcall os _ _ _ _ h _ (look_putR hG hd x)
              exact ⟨h1, x, H, fun _ => rfl, ⟨Nat.le_refl _, fun _ _ _ => rfl⟩, h2, key⟩
            | some H2 =>
              have hqq : q = false ∧ keepD (some m) H H2 = true := by
                cases hqq : (q || !keepD (some m) H H2)
                · simpa using hqq
                · simp only [hqq] at h; cases h
              obtain ⟨hqf, hkb⟩ := hqq
              have h' : rOps P q (some m) call os (putR o.dst x F) H2 = some (F', H') := by
                simp only at h
                rw [hqf, hkb] at h
                rw [hqf]; exact h
              have key := rOpsD_ok hcall os _ _ _ _ h' _ (look_putR hG hd x)
              exact ⟨h1, x, H2, (fun hq => by rw [hqf] at hq; cases hq), ⟨h1', fun b hb _ => keepsB_ok (H := H) (H' := H2) hkb b hb⟩, h2, key⟩
        | none =>
          rw [hc] at h
          simp only at h ⊢
          cases hlt : lateB (some m) o.op (aev G) with
          | false => rw [hlt] at h; cases h
          | true =>
          rw [hlt, cond_true] at h
          cases hx : aop P o.op G H with
          | none => rw [hx] at h; cases h
          | some r =>
            obtain ⟨x, H1⟩ := r
            rw [hx] at h
            exact ⟨lateB_ok hlt, _, rfl, rOpsD_ok hcall os _ _ _ _ h _ (look_putR hG hd _)⟩
/-- Code, run (n: how many blocks were there). -/
def rCode (P : Program) (q : Bool) (n : Nat) (call : Caller) : Nat → Code → FT → AHeap → Option (Exit × FT × AHeap)
  | 0, _, _, _ => none
  | k + 1, .seq a b, F, H =>
    match rCode P q n call k a F H with
    | some (.normal, F1, H1) => rCode P q n call k b F1 H1
    | r => r
  | k + 1, .cond c a b, F, H =>
    match ev F c with
    | .bool true => rCode P q n call k a F H
    | .bool false => rCode P q n call k b F H
    | _ => none
  | k + 1, .block id c, F, H =>
    match rCode P q n call k c F H with
    | some (.exit id', F1, H1) => some (bif id' == id then .normal else .exit id', F1, H1)
    | r => r
  | k + 1, .loop c, F, H =>
    bif Nat.ble n H.length then
      match rCode P q n call k c F H with
      | some (.normal, F1, H1) => rCode P q n call k (.loop c) F1 H1
      | r => r
    else none
  | _ + 1, .region _ ops draw, F, H => (rOps P (draw && q) (bif draw then some H.length else none) call (ops.toList.map (lightOf (dsts ops))) F H).map fun r => (.normal, r.1, r.2)
  | _ + 1, .skip, F, H => some (.normal, F, H)
  | _ + 1, .label _, F, H => some (.normal, F, H)
  | _ + 1, .exit id, F, H => some (.exit id, F, H)
  | _ + 1, .ret, F, H => some (.ret, F, H)
  | _ + 1, _, _, _ => none
theorem Rel.env {E E' : Env} {x : AV} {v : Value} (h : Rel E x v) (hn : E'.n = E.n) (hl : ∀ b, E'.loc b = E.loc b) : Rel E' x v := by
  induction h with
  | any v => exact .any v
  | int k n => exact .int k n
  | bool b => exact .bool b
  | str s => exact .str s
  | nilptr => exact .nilptr
  | ptr b o hb => rw [← hl b]; exact .ptr b o (by rw [hn]; exact hb)
  | nilsl => exact .nilsl
  | nils b cap hb hc => exact .nils b cap (by rw [hn]; exact hb) hc
  | sl b o len cap c a hb h1 h2 h3 h4 h5 => exact .sl b o len cap c a (by rw [hn]; exact hb) h1 h2 h3 (by rw [hl]; exact h4) (by rw [hl]; exact h5)
  | nilmp => exact .nilmp
  | mp b hb => rw [← hl b]; exact .mp b (by rw [hn]; exact hb)
  | nilfn => exact .nilfn
  | fn f caps cs hl' _ ih => exact .fn f caps cs hl' ih
  | agg xs cs hl' _ ih => exact .agg xs cs hl' ih
  | tup xs cs hl' _ ih => exact .tup xs cs hl' ih
theorem RelL.env {E E' : Env} {xs : List AV} {vs : List Value} (h : RelL E xs vs) (hn : E'.n = E.n) (hl : ∀ b, E'.loc b = E.loc b) : RelL E' xs vs := ⟨h.1, fun i x v hx hv => (h.2 i x v hx hv).env hn hl⟩
theorem BlkOk.env {E E' : Env} {w : World} {L : Loc} {x : ABlk} (h : BlkOk E w L x) (hB : E'.B = E.B) (hn : E'.n = E.n) (hl : ∀ b, E'.loc b = E.loc b) : BlkOk E' w L x := by
  cases x with
  | dead => trivial
  | cells own es xs =>
    obtain ⟨h1, h2, h3, h4⟩ := h
    refine ⟨fun j x hj => ?_, fun ho => by rw [hB]; exact h2 ho, fun ho hl => by rw [hB]; exact h3 ho hl, h4⟩
    obtain ⟨a, v, hv, hr⟩ := h1 j x hj
    exact ⟨a, v, hv, hr.env hn hl⟩
  | map es =>
    obtain ⟨h1, h2, ents, clock, h3, h4, h5⟩ := h
    exact ⟨by rw [hB]; exact h1, h2, ents, clock, h3, h4.env hn hl, h5.env hn hl⟩
theorem Abs0.same (n : Nat) {F G : Fr} (h : look F = look G) {H : AHeap} (hn : n ≤ H.length) : Abs0 n id F H G H where
  small _ _ := rfl
  len := hn
  frame E E' h1 h2 h3 t v hv := by
    rw [← h]
    exact hv.env (h2.trans h1.symm) h3
  heap E E' h1 h2 h3 h4 w hw b x hx := by
    rw [h4 b]
    exact (hw b x hx).env h3 (h2.trans h1.symm) h4
  inj b c x y hx hy ox oy hbc := ⟨hbc, ⟨x, hx, ox⟩, y, hy, oy⟩
theorem Abs.same (n : Nat) {F G : Fr} (h : look F = look G) {H : AHeap} (hn : n ≤ H.length) : Abs n id F H G H := (Abs0.same n h hn).abs
/-- What a run says. -/
def Ran (q : Bool) (N n : Nat) (P : Program) (r : Exit × FT × AHeap) (c : Code) (F : FT) (H : AHeap) : Prop :=
  ∀ G, getT F = look G → AW P N n c (fun e G1 H1 => e = r.1 ∧ getT r.2.1 = look G1 ∧ H1 = r.2.2) G H
theorem rCode_ok (hm : P.follows .mixedOrders = true) (hcall : CallOk P call) : ∀ (K k : Nat), k ≤ K → ∀ c, codeOk N q c = true → ∀ (F : FT) (H : AHeap) (r : Exit × FT × AHeap), rCode P q n call k c F H = some r → Ran q N n P r c F H
  | K, 0, _, c, _, F, H, r, h => by unfold rCode at h; cases h
  | 0, k + 1, hk, _, _, _, _, _, _ => by omega
  | K + 1, k + 1, hk, c, hc, F, H, r, h => by
    have IH := rCode_ok hm hcall K
    intro G hG
    cases c with
    | skip =>
      simp only [rCode, Option.some.injEq] at h
      subst h
      exact AW_skip ⟨rfl, hG, rfl⟩
    | label l =>
      simp only [rCode, Option.some.injEq] at h
      subst h
      exact AW_label ⟨rfl, hG, rfl⟩
    | exit id =>
      simp only [rCode, Option.some.injEq] at h
      subst h
      exact AW_exit ⟨rfl, hG, rfl⟩
    | ret =>
      simp only [rCode, Option.some.injEq] at h
      subst h
      exact AW_ret ⟨rfl, hG, rfl⟩
    | seq a b =>
      simp only [codeOk, Bool.and_eq_true] at hc
      unfold rCode at h
      cases ha : rCode P q n call k a F H with
      | none => rw [ha] at h; cases h
      | some r1 =>
        obtain ⟨e1, F1, H1⟩ := r1
        rw [ha] at h
        refine AW_seq (AW.mono (IH k (by omega) a hc.1 F H _ ha G hG) ?_)
        rintro e G1 H2 ⟨h1, h2, h3⟩
        simp only at h1 h2 h3
        rw [h1, h3]
        cases e1 with
        | normal => exact IH k (by omega) b hc.2 F1 H1 _ h G1 h2
        | exit id => simp only [Option.some.injEq] at h; subst h; exact ⟨rfl, h2, rfl⟩
        | goto id => simp only [Option.some.injEq] at h; subst h; exact ⟨rfl, h2, rfl⟩
        | ret => simp only [Option.some.injEq] at h; subst h; exact ⟨rfl, h2, rfl⟩
        | panic ch => simp only [Option.some.injEq] at h; subst h; exact ⟨rfl, h2, rfl⟩
        | outgrown => simp only [Option.some.injEq] at h; subst h; exact ⟨rfl, h2, rfl⟩
    | cond c a b =>
      simp only [codeOk, Bool.and_eq_true] at hc
      unfold rCode at h
      rw [ev_eq hG] at h
      cases ht : aev G c with
      | bool t =>
        rw [ht] at h
        cases t with
        | true => exact AW_cond true ht (fun _ => IH k (by omega) a hc.1 F H _ h G hG) (fun e => by cases e)
        | false => exact AW_cond false ht (fun e => by cases e) (fun _ => IH k (by omega) b hc.2 F H _ h G hG)
      | _ => rw [ht] at h; cases h
    | block id c =>
      simp only [codeOk] at hc
      unfold rCode at h
      cases ha : rCode P q n call k c F H with
      | none => rw [ha] at h; cases h
      | some r1 =>
        obtain ⟨e1, F1, H1⟩ := r1
        rw [ha] at h
        refine AW_block (AW.mono (IH k (by omega) c hc F H _ ha G hG) ?_)
        rintro e G1 H2 ⟨h1, h2, h3⟩
        simp only at h1 h2 h3
        rw [h1, h3]
        cases e1 with
        | exit id' =>
          simp only [Option.some.injEq] at h
          subst h
          show (if id' = id then _ else _)
          by_cases e : id' = id
          · rw [if_pos e]; simp [e, h2]
          · have hb : (id' == id) = false := by simp [e]
            rw [if_neg e, hb]; exact ⟨rfl, h2, rfl⟩
        | normal => simp only [Option.some.injEq] at h; subst h; exact ⟨rfl, h2, rfl⟩
        | goto id => simp only [Option.some.injEq] at h; subst h; exact ⟨rfl, h2, rfl⟩
        | ret => simp only [Option.some.injEq] at h; subst h; exact ⟨rfl, h2, rfl⟩
        | panic ch => simp only [Option.some.injEq] at h; subst h; exact ⟨rfl, h2, rfl⟩
        | outgrown => simp only [Option.some.injEq] at h; subst h; exact ⟨rfl, h2, rfl⟩
    | loop c =>
      simp only [codeOk] at hc
      have nle : ∀ j F H, rCode P q n call j (.loop c) F H = some r → n ≤ H.length := fun j F H hh => by
        cases j with
        | zero => unfold rCode at hh; cases hh
        | succ j =>
          unfold rCode at hh
          cases hb : Nat.ble n H.length
          · rw [hb] at hh; cases hh
          · exact Nat.le_of_ble_eq_true hb
      refine AW_loop (fun j F' H' => j ≤ k + 1 ∧ ∃ F0, getT F0 = look F' ∧ rCode P q n call j (.loop c) F0 H' = some r) (k + 1) ⟨id, G, H, ⟨Nat.le_refl _, F, hG, h⟩, Abs.same n rfl (nle _ _ _ h)⟩ ?_
      rintro j F1 H1 ⟨hj, F0, hF0, hr⟩
      cases j with
      | zero => unfold rCode at hr; cases hr
      | succ j =>
        have hn := nle _ _ _ hr
        unfold rCode at hr
        rw [Nat.ble_eq_true_of_le hn, cond_true] at hr
        cases ha : rCode P q n call j c F0 H1 with
        | none => rw [ha] at hr; cases hr
        | some r1 =>
          obtain ⟨e1, F2, H2⟩ := r1
          rw [ha] at hr
          refine AW.mono (IH j (by omega) c hc F0 H1 _ ha F1 hF0) ?_
          rintro e G1 H3 ⟨h1, h2, h3⟩
          simp only at h1 h2 h3
          rw [h1, h3]
          cases e1 with
          | normal => exact ⟨j, by omega, id, G1, H2, ⟨by omega, F2, h2, hr⟩, Abs.same n rfl (nle _ _ _ hr)⟩
          | exit id => simp only [Option.some.injEq] at hr; subst hr; exact ⟨rfl, h2, rfl⟩
          | goto id => simp only [Option.some.injEq] at hr; subst hr; exact ⟨rfl, h2, rfl⟩
          | ret => simp only [Option.some.injEq] at hr; subst hr; exact ⟨rfl, h2, rfl⟩
          | panic ch => simp only [Option.some.injEq] at hr; subst hr; exact ⟨rfl, h2, rfl⟩
          | outgrown => simp only [Option.some.injEq] at hr; subst hr; exact ⟨rfl, h2, rfl⟩
    | region id ops draw =>
      unfold rCode at h
      simp only [Option.map_eq_some_iff] at h
      obtain ⟨⟨F1, H1⟩, h1, h2⟩ := h
      subst h2
      refine AW_of hm _ hc _ _ _ ?_
      cases draw with
      | false => exact AOpsL.mono (fun F H hh => ⟨rfl, hh⟩) _ _ _ (rOps_ok hcall _ _ _ _ _ h1 G hG)
      | true => exact AOpsDL.mono (fun F H hh => ⟨rfl, hh⟩) _ _ _ (rOpsD_ok hcall _ _ _ _ _ h1 G hG)
    | _ => unfold rCode at h; cases h
def lookT : List (Nat × Bool × Func) → Nat → Option (Bool × Func)
  | [], _ => none
  | p :: r, f => bif Nat.beq p.1 f then some p.2 else lookT r f
/-- A function, run: what it hands back, and the memory if it has changed. -/
def rFun (P : Program) (ext : Caller) (tb : List (Nat × Bool × Func)) (fuel : Nat) : Nat → Caller
  | 0, _, _, _ => none
  | k + 1, f, args, H =>
    match lookT tb f with
    | none => ext f args H
    | some (q, fn) =>
      match fn.body with
      | none => none
      | some c =>
        bif Nat.ble args.length fn.ntmps && Nat.ble args.length 1024 then
          match rCode P q H.length (rFun P ext tb fuel k) fuel c (argT 0 args) H with
          | none => none
          | some (e, F', H') =>
            bif (match e with | .ret => true | .normal => true | _ => false) then
              match (aResE P fn.results.toList F' H').map one1 with
              | none => none
              | some x => bif x.bel 0 && prefixB H H' then some (x, none) else bif Nat.ble H.length H'.length then some (x, some H') else none
            else none
        else none
/-- The functions of a table can be entered, and their regions are as the machine wants them. -/
inductive TbOk (P : Program) : List (Nat × Bool × Func) → Prop where
  | nil : TbOk P []
  | cons {f : Nat} {q : Bool} {fn : Func} {r : List (Nat × Bool × Func)} : okFn P f = true → P.funcs[f]? = some fn → (fn.body.map (codeOk fn.ntmps q)) = some true → TbOk P r → TbOk P ((f, q, fn) :: r)
theorem lookT_ok {P : Program} : ∀ {tb : List (Nat × Bool × Func)}, TbOk P tb → ∀ {f : Nat} {q : Bool} {fn : Func}, lookT tb f = some (q, fn) → okFn P f = true ∧ P.funcs[f]? = some fn ∧ (fn.body.map (codeOk fn.ntmps q)) = some true
  | _, .nil, f, q, fn, h => by cases h
  | _, .cons (f := g) h1 h2 h3 hr, f, q, fn, h => by
    unfold lookT at h
    cases hp : Nat.beq g f
    · simp only [hp, cond_false] at h
      exact lookT_ok hr h
    · simp only [hp, cond_true, Option.some.injEq, Prod.mk.injEq] at h
      have e : g = f := Nat.eq_of_beq_eq_true hp
      obtain ⟨rfl, rfl⟩ := h
      subst e
      exact ⟨h1, h2, h3⟩
theorem rFun_ok (hm : P.follows .mixedOrders = true) {ext : Caller} (hext : CallOk P ext) (tb : List (Nat × Bool × Func)) (htb : TbOk P tb) (fuel : Nat) : ∀ k, CallOk P (rFun P ext tb fuel k)
  | 0 => fun f args H x o h => by unfold rFun at h; cases h
  | k + 1 => fun f args H x o h => by
    have IH := rFun_ok hm hext tb htb fuel k
    unfold rFun at h
    cases hq : lookT tb f with
    | none => rw [hq] at h; exact hext f args H x o h
    | some p =>
      obtain ⟨q, fn⟩ := p
      rw [hq] at h
      obtain ⟨ht1, hf, ht2⟩ := lookT_ok htb hq
      refine ⟨ht1, ?_⟩
      suffices hall : H.length ≤ (o.getD H).length ∧ ACalls P f args H (fun y H1 => y = x ∧ H1 = o.getD H) from hall
      simp only at h
      cases hb : fn.body with
      | none => rw [hb] at h; cases h
      | some c =>
        rw [hb] at h ht2
        simp only [Option.map_some, Option.some.injEq] at h ht2
        cases hN : Nat.ble args.length fn.ntmps && Nat.ble args.length 1024
        · rw [hN] at h; cases h
        · rw [hN, cond_true] at h
          simp only [Bool.and_eq_true] at hN
          cases hr : rCode P q H.length (rFun P ext tb fuel k) fuel c (argT 0 args) H with
          | none => rw [hr] at h; cases h
          | some r =>
            obtain ⟨e, F', H'⟩ := r
            rw [hr] at h
            simp only at h
            have he : e = .ret ∨ e = .normal := by
              cases e <;> first | exact .inl rfl | exact .inr rfl | (simp at h)
            have h' : (match (aResE P fn.results.toList F' H').map one1 with
              | none => none
              | some x => bif x.bel 0 && prefixB H H' then some (x, none) else bif Nat.ble H.length H'.length then some (x, some H') else none) = some (x, o) := by
              rcases he with rfl | rfl <;> exact h
            clear h
            cases hx : (aResE P fn.results.toList F' H').map one1 with
            | none => rw [hx] at h'; cases h'
            | some y =>
              rw [hx] at h'
              simp only at h'
              have key : ∀ (R : AV → AHeap → Prop), (∀ G1, aResult P fn G1 H' = some y → HBel H.length H → AEnd P fn H.length R e G1 H') → ACalls P f args H R := fun R hR => by
                refine ACalls_of hf hb rfl (Nat.le_of_ble_eq_true hN.1) fun hbel => AW.mono (rCode_ok hm IH fuel fuel (Nat.le_refl _) c ht2 _ _ _ hr _ (argT_eq args 0 (by have := Nat.le_of_ble_eq_true hN.2; omega))) ?_
                rintro e1 G1 H1 ⟨h1, h2, h3⟩
                simp only at h1 h2 h3
                rw [h1, h3]
                exact hR G1 (by unfold aResult; rw [← aResE_eq h2]; exact hx) hbel
              cases hp : y.bel 0 && prefixB H H'
              · rw [hp, cond_false] at h'
                cases hle : Nat.ble H.length H'.length
                · rw [hle] at h'; cases h'
                · rw [hle, cond_true] at h'
                  simp only [Option.some.injEq, Prod.mk.injEq] at h'
                  obtain ⟨rfl, rfl⟩ := h'
                  refine ⟨Nat.le_of_ble_eq_true hle, key _ fun G1 hG1 _ => ?_⟩
                  have : ∃ x1, aResult P fn G1 H' = some x1 ∧ ∃ σ x2 H2, (x2 = y ∧ H2 = (some H').getD H) ∧ Abs H.length σ [(0, x1)] H' [(0, x2)] H2 :=
                    ⟨y, hG1, id, y, H', ⟨rfl, rfl⟩, Abs.same _ rfl (Nat.le_of_ble_eq_true hle)⟩
                  rcases he with rfl | rfl <;> exact this
              · rw [hp, cond_true] at h'
                simp only [Option.some.injEq, Prod.mk.injEq] at h'
                obtain ⟨rfl, rfl⟩ := h'
                simp only [Bool.and_eq_true] at hp
                obtain ⟨l, rfl⟩ := prefixB_eq hp.2
                exact ⟨Nat.le_refl _, key _ fun G1 hG1 hbel => end_plain he hbel hG1 hp.1 ⟨rfl, rfl⟩⟩
/-- A call at known arguments, by the kernel's own run. -/
theorem ran (hm : P.follows .mixedOrders = true) {ext : Caller} (hext : CallOk P ext) (tb : List (Nat × Bool × Func)) (htb : TbOk P tb) (fuel k : Nat) {f : FuncId} {args : List AV} {H : AHeap} {x : AV} {o : Option AHeap} (h : rFun P ext tb fuel k f args H = some (x, o)) : ACalls P f args H (fun y H1 => y = x ∧ H1 = o.getD H) :=
  (rFun_ok hm hext tb htb fuel k f args H x o h).2.2
theorem rel_closed {E E' : Env} {x : AV} {v : Value} (h : Rel E x v) : x.bel 0 = true → Rel E' x v := by
  induction h with
  | any v => exact fun _ => .any v
  | int k n => exact fun _ => .int k n
  | bool b => exact fun _ => .bool b
  | str s => exact fun _ => .str s
  | nilptr => exact fun _ => .nilptr
  | ptr b o hb => exact fun hx => by simp [AV.bel] at hx
  | nilsl => exact fun _ => .nilsl
  | nils b cap hb hc => exact fun hx => by simp [AV.bel] at hx
  | sl b o len cap c a hb h1 h2 h3 h4 h5 => exact fun hx => by simp [AV.bel] at hx
  | nilmp => exact fun _ => .nilmp
  | mp b hb => exact fun hx => by simp [AV.bel] at hx
  | nilfn => exact fun _ => .nilfn
  | fn f caps cs hl _ ih => exact fun hx => .fn f caps cs hl fun i x v h1 h2 => ih i x v h1 h2 (by simp only [AV.bel, AV.bels_eq] at hx; exact List.all_eq_true.1 hx _ (List.mem_of_getElem? h1))
  | agg xs cs hl _ ih => exact fun hx => .agg xs cs hl fun i x v h1 h2 => ih i x v h1 h2 (by simp only [AV.bel, AV.bels_eq] at hx; exact List.all_eq_true.1 hx _ (List.mem_of_getElem? h1))
  | tup xs cs hl _ ih => exact fun hx => .tup xs cs hl fun i x v h1 h2 => ih i x v h1 h2 (by simp only [AV.bel, AV.bels_eq] at hx; exact List.all_eq_true.1 hx _ (List.mem_of_getElem? h1))
/-- A call that takes and hands back plain values and leaves an empty memory empty leaves any memory as it was. -/
theorem ACalls.closed {f : FuncId} {args : List AV} {x : AV} (h : ACalls P f args [] (fun y H1 => y = x ∧ H1 = [])) (ha : args.all (AV.bel 0) = true) (hx : x.bel 0 = true) (H : AHeap) : ACalls P f args H (fun y H1 => y = x ∧ H1 = H) := by
  intro E w vs hE hv
  let E0 : Env := ⟨w.heap.size, w, 0, fun _ => ⟨0, 0, 0, 0⟩⟩
  have hE0 : Emb E0 [] w := ⟨rfl, Below.refl _ _, Nat.le_refl _, fun b x h => by simp at h, fun b c x y h => by simp at h⟩
  refine (h E0 w vs hE0 ⟨hv.1, fun i y v h1 h2 => rel_closed (hv.2 i y v h1 h2) (List.all_eq_true.1 ha _ (List.mem_of_getElem? h1))⟩).mono ?_
  rintro e w' ⟨E', v, H', y, he, ⟨rfl, rfl⟩, hle, hr, hemb⟩
  have hb := hemb.below
  rw [hle.B, hle.w0] at hb
  exact ⟨E, v, H, y, he, ⟨rfl, rfl⟩, .refl E, rel_closed hr hx, hE.up hb⟩
end
end
/-- The functions that the machine can enter. -/
noncomputable def tb : List (Nat × Bool × Func) := [(79, false, Tryz.f79), (82, false, Tryz.f82), (92, false, Tryz.f92), (101, false, Tryz.f101), (103, false, Tryz.f103), (166, false, Tryz.f166), (169, false, Tryz.f169), (171, false, Tryz.f171), (172, false, Tryz.f172), (178, false, Tryz.f178), (189, false, Tryz.f189), (200, false, Tryz.f200), (223, false, Tryz.f223), (247, false, Tryz.f247), (252, false, Tryz.f252), (253, false, Tryz.f253), (255, false, Tryz.f255), (256, false, Tryz.f256), (268, false, Tryz.f268), (269, false, Tryz.f269), (271, false, Tryz.f271), (272, false, Tryz.f272), (291, false, Tryz.f291), (315, false, Tryz.f315), (316, false, Tryz.f316), (317, false, Tryz.f317), (318, false, Tryz.f318), (319, false, Tryz.f319), (320, false, Tryz.f320), (321, false, Tryz.f321), (322, false, Tryz.f322), (323, false, Tryz.f323), (326, false, Tryz.f326), (335, false, Tryz.f335), (336, false, Tryz.f336), (337, false, Tryz.f337), (338, false, Tryz.f338), (339, false, Tryz.f339), (340, false, Tryz.f340), (341, false, Tryz.f341), (342, false, Tryz.f342), (343, false, Tryz.f343), (344, false, Tryz.f344), (379, false, Tryz.f379), (380, false, Tryz.f380), (382, false, Tryz.f382), (383, false, Tryz.f383), (385, false, Tryz.f385), (386, false, Tryz.f386), (387, false, Tryz.f387), (388, false, Tryz.f388), (389, false, Tryz.f389), (390, false, Tryz.f390), (391, false, Tryz.f391), (406, false, Tryz.f406), (407, false, Tryz.f407), (408, false, Tryz.f408), (412, false, Tryz.f412), (413, false, Tryz.f413), (414, false, Tryz.f414), (415, false, Tryz.f415), (416, false, Tryz.f416), (417, false, Tryz.f417), (418, false, Tryz.f418), (419, false, Tryz.f419), (420, false, Tryz.f420), (421, false, Tryz.f421), (422, false, Tryz.f422), (423, false, Tryz.f423)]
set_option maxRecDepth 100000 in
theorem tb_ok : TbOk Tryz.prog tb :=
  .cons (by kernel_rfl) Tryz.func79 (by kernel_rfl) (
  .cons (by kernel_rfl) Tryz.func82 (by kernel_rfl) (
  .cons (by kernel_rfl) Tryz.func92 (by kernel_rfl) (
  .cons (by kernel_rfl) Tryz.func101 (by kernel_rfl) (
  .cons (by kernel_rfl) Tryz.func103 (by kernel_rfl) (
  .cons (by kernel_rfl) Tryz.func166 (by kernel_rfl) (
  .cons (by kernel_rfl) Tryz.func169 (by kernel_rfl) (
  .cons (by kernel_rfl) Tryz.func171 (by kernel_rfl) (
  .cons (by kernel_rfl) Tryz.func172 (by kernel_rfl) (
  .cons (by kernel_rfl) Tryz.func178 (by kernel_rfl) (
  .cons (by kernel_rfl) Tryz.func189 (by kernel_rfl) (
  .cons (by kernel_rfl) Tryz.func200 (by kernel_rfl) (
  .cons (by kernel_rfl) Tryz.func223 (by kernel_rfl) (
  .cons (by kernel_rfl) Tryz.func247 (by kernel_rfl) (
  .cons (by kernel_rfl) Tryz.func252 (by kernel_rfl) (
  .cons (by kernel_rfl) Tryz.func253 (by kernel_rfl) (
  .cons (by kernel_rfl) Tryz.func255 (by kernel_rfl) (
  .cons (by kernel_rfl) Tryz.func256 (by kernel_rfl) (
  .cons (by kernel_rfl) Tryz.func268 (by kernel_rfl) (
  .cons (by kernel_rfl) Tryz.func269 (by kernel_rfl) (
  .cons (by kernel_rfl) Tryz.func271 (by kernel_rfl) (
  .cons (by kernel_rfl) Tryz.func272 (by kernel_rfl) (
  .cons (by kernel_rfl) Tryz.func291 (by kernel_rfl) (
  .cons (by kernel_rfl) Tryz.func315 (by kernel_rfl) (
  .cons (by kernel_rfl) Tryz.func316 (by kernel_rfl) (
  .cons (by kernel_rfl) Tryz.func317 (by kernel_rfl) (
  .cons (by kernel_rfl) Tryz.func318 (by kernel_rfl) (
  .cons (by kernel_rfl) Tryz.func319 (by kernel_rfl) (
  .cons (by kernel_rfl) Tryz.func320 (by kernel_rfl) (
  .cons (by kernel_rfl) Tryz.func321 (by kernel_rfl) (
  .cons (by kernel_rfl) Tryz.func322 (by kernel_rfl) (
  .cons (by kernel_rfl) Tryz.func323 (by kernel_rfl) (
  .cons (by kernel_rfl) Tryz.func326 (by kernel_rfl) (
  .cons (by kernel_rfl) Tryz.func335 (by kernel_rfl) (
  .cons (by kernel_rfl) Tryz.func336 (by kernel_rfl) (
  .cons (by kernel_rfl) Tryz.func337 (by kernel_rfl) (
  .cons (by kernel_rfl) Tryz.func338 (by kernel_rfl) (
  .cons (by kernel_rfl) Tryz.func339 (by kernel_rfl) (
  .cons (by kernel_rfl) Tryz.func340 (by kernel_rfl) (
  .cons (by kernel_rfl) Tryz.func341 (by kernel_rfl) (
  .cons (by kernel_rfl) Tryz.func342 (by kernel_rfl) (
  .cons (by kernel_rfl) Tryz.func343 (by kernel_rfl) (
  .cons (by kernel_rfl) Tryz.func344 (by kernel_rfl) (
  .cons (by kernel_rfl) Tryz.func379 (by kernel_rfl) (
  .cons (by kernel_rfl) Tryz.func380 (by kernel_rfl) (
  .cons (by kernel_rfl) Tryz.func382 (by kernel_rfl) (
  .cons (by kernel_rfl) Tryz.func383 (by kernel_rfl) (
  .cons (by kernel_rfl) Tryz.func385 (by kernel_rfl) (
  .cons (by kernel_rfl) Tryz.func386 (by kernel_rfl) (
  .cons (by kernel_rfl) Tryz.func387 (by kernel_rfl) (
  .cons (by kernel_rfl) Tryz.func388 (by kernel_rfl) (
  .cons (by kernel_rfl) Tryz.func389 (by kernel_rfl) (
  .cons (by kernel_rfl) Tryz.func390 (by kernel_rfl) (
  .cons (by kernel_rfl) Tryz.func391 (by kernel_rfl) (
  .cons (by kernel_rfl) Tryz.func406 (by kernel_rfl) (
  .cons (by kernel_rfl) Tryz.func407 (by kernel_rfl) (
  .cons (by kernel_rfl) Tryz.func408 (by kernel_rfl) (
  .cons (by kernel_rfl) Tryz.func412 (by kernel_rfl) (
  .cons (by kernel_rfl) Tryz.func413 (by kernel_rfl) (
  .cons (by kernel_rfl) Tryz.func414 (by kernel_rfl) (
  .cons (by kernel_rfl) Tryz.func415 (by kernel_rfl) (
  .cons (by kernel_rfl) Tryz.func416 (by kernel_rfl) (
  .cons (by kernel_rfl) Tryz.func417 (by kernel_rfl) (
  .cons (by kernel_rfl) Tryz.func418 (by kernel_rfl) (
  .cons (by kernel_rfl) Tryz.func419 (by kernel_rfl) (
  .cons (by kernel_rfl) Tryz.func420 (by kernel_rfl) (
  .cons (by kernel_rfl) Tryz.func421 (by kernel_rfl) (
  .cons (by kernel_rfl) Tryz.func422 (by kernel_rfl) (
  .cons (by kernel_rfl) Tryz.func423 (by kernel_rfl) (
  .nil)))))))))))))))))))))))))))))))))))))))))))))))))))))))))))))))))))))
set_option linter.unusedSimpArgs false
set_option linter.unusedVariables false
open Go.RowKit
def ext : Caller := fun f args _ =>
  match args with
  | [.int .u64 x] => bif Nat.beq f 254 && (decide (0 ≤ x) && decide (x ≤ 18446744073709551615)) then some (.int .i64 (Lib.bitLen x.toNat), none) else none
  | _ => none
theorem ext_ok : CallOk Tryz.prog ext := fun f args H x o h => by
  unfold ext at h
  split at h
  · rename_i x'
    cases hb : Nat.beq f 254 && (decide (0 ≤ x') && decide (x' ≤ 18446744073709551615))
    · rw [hb] at h; cases h
    · rw [hb, cond_true] at h
      simp only [Option.some.injEq, Prod.mk.injEq] at h
      obtain ⟨rfl, rfl⟩ := h
      simp only [Bool.and_eq_true, decide_eq_true_eq] at hb
      obtain ⟨h1, h2, h3⟩ := hb
      have e := Nat.eq_of_beq_eq_true h1
      subst e
      refine ⟨by kernel_rfl, Nat.le_refl _, fun E w vs hE hv => ?_⟩
      obtain ⟨v1, l1, rfl, k1, hr⟩ := rels_cons hv
      obtain rfl := rels_nil hr
      obtain rfl := rel_int k1
      refine (Tryz.bits_Len x' w h2 h3).mono fun e w' ⟨he, hw⟩ => ?_
      subst hw
      exact ⟨E, _, H, _, he, ⟨rfl, rfl⟩, .refl E, .int _ _, hE⟩
  · cases h
open Go.RowKit
abbrev pv (p : Pt) : AV := .agg [.int .i64 p.1, .int .i64 p.2]
def gp (l : List Pt) (i : Nat) : Pt := (g1 l i, g2 l i)
theorem gp_eq {l : List Pt} {i : Nat} (h : i < l.length) : gp l i = l[i] := by
  simp [gp, g1, g2, List.getD_eq_getElem?_getD, h]
theorem prs_set0 {l : List Pt} {j : Nat} {v : Int} (h : j < l.length) : (prs l).set (j * 2) (.int .i64 v) = prs (l.set j (v, g2 l j)) := by
  induction l generalizing j with
  | nil => simp at h
  | cons p l ih =>
    cases j with
    | zero => simp [prs_cons, g2]
    | succ j =>
      rw [prs_cons, show (j + 1) * 2 = j * 2 + 1 + 1 by omega, List.set_cons_succ, List.set_cons_succ, ih (by simpa using h), List.set_cons_succ, prs_cons]
      simp [g2]
theorem prs_set1 {l : List Pt} {j : Nat} {v : Int} (h : j < l.length) : (prs l).set (j * 2 + 1) (.int .i64 v) = prs (l.set j (g1 l j, v)) := by
  induction l generalizing j with
  | nil => simp at h
  | cons p l ih =>
    cases j with
    | zero => simp [prs_cons, g1]
    | succ j =>
      rw [prs_cons, show (j + 1) * 2 + 1 = (j * 2 + 1) + 1 + 1 by omega, List.set_cons_succ, List.set_cons_succ, ih (by simpa using h), List.set_cons_succ, prs_cons]
      simp [g1]
section
variable (H : AHeap)
def within (x m : Int) : Bool := decide (0 - m ≤ x) && decide (x ≤ m)
theorem bsize_c (x m : Int) (h : 0 ≤ m ∧ m ≤ 4611686018427387904) : ACalls Tryz.prog 116 [.int .i64 x, .int .i64 m] H (fun v H' => v = .bool (within x m) ∧ H' = H) := by
  (refine ACalls_run try_mixed Tryz.func116 true _ rfl (Nat.le_of_ble_eq_true (by kernel_rfl)) (by kernel_rfl) ?_; intro hbel Q hQ hQ' c hc; unfold Tryz.f116 at hc; simp only [Option.some.injEq] at hc; subst hc; clear hQ')
  by_cases h1 : 0 - m ≤ x
  · simp -implicitDefEqProofs (disch := omega) only [h1, ge_iff_le, simprocAttr, amset, tyset, Function.comp_apply, one1, lenV, calleeOf, lateOk, belowV, aop, AV.ofValue, AV.ofCell, AV.cells, AV.flat, AV.one, arep, aBin, aAppend, aConv]
    repeat refine And.intro (by omega) ?_
    exact hQ _ _ (end_plain0 (.inl rfl) hbel (x := .bool (decide (x ≤ m))) (resT Tryz.results116) rfl ⟨by simp only [within, h1, decide_true, Bool.true_and], rfl⟩)
  · simp -implicitDefEqProofs (disch := omega) only [h1, ge_iff_le, simprocAttr, amset, tyset, Function.comp_apply, one1, lenV, calleeOf, lateOk, belowV, aop, AV.ofValue, AV.ofCell, AV.cells, AV.flat, AV.one, arep, aBin, aAppend, aConv]
    repeat refine And.intro (by omega) ?_
    exact hQ _ _ (end_plain0 (.inl rfl) hbel (x := .bool false) (resT Tryz.results116) rfl ⟨by simp only [within, h1, decide_false, Bool.false_and], rfl⟩)
theorem size_c (x m : Int) (h : 0 ≤ m ∧ m ≤ 4611686018427387904) : ACalls Tryz.prog 340 [.int .i64 x, .int .i64 m] H (fun v H' => v = .bool (within x m) ∧ H' = H) := by
  (refine ACalls_run try_mixed Tryz.func340 true _ rfl (Nat.le_of_ble_eq_true (by kernel_rfl)) (by kernel_rfl) ?_; intro hbel Q hQ hQ' c hc; unfold Tryz.f340 at hc; simp only [Option.some.injEq] at hc; subst hc; clear hQ')
  by_cases h1 : 0 - m ≤ x
  · simp -implicitDefEqProofs (disch := omega) only [h1, ge_iff_le, simprocAttr, amset, tyset, Function.comp_apply, one1, lenV, calleeOf, lateOk, belowV, aop, AV.ofValue, AV.ofCell, AV.cells, AV.flat, AV.one, arep, aBin, aAppend, aConv]
    repeat refine And.intro (by omega) ?_
    exact hQ _ _ (end_plain0 (.inl rfl) hbel (x := .bool (decide (x ≤ m))) (resT Tryz.results340) rfl ⟨by simp only [within, h1, decide_true, Bool.true_and], rfl⟩)
  · simp -implicitDefEqProofs (disch := omega) only [h1, ge_iff_le, simprocAttr, amset, tyset, Function.comp_apply, one1, lenV, calleeOf, lateOk, belowV, aop, AV.ofValue, AV.ofCell, AV.cells, AV.flat, AV.one, arep, aBin, aAppend, aConv]
    repeat refine And.intro (by omega) ?_
    exact hQ _ _ (end_plain0 (.inl rfl) hbel (x := .bool false) (resT Tryz.results340) rfl ⟨by simp only [within, h1, decide_false, Bool.false_and], rfl⟩)
theorem cross_c (x y : Pt) (hx : Bd 268435456 x) (hy : Bd 268435456 y) : ACalls Tryz.prog 388 [pv x, pv y] H (fun v H' => v = .int .i64 (crs x y) ∧ H' = H) := by
  have hb := crs_bd hx hy
  (refine ACalls_run try_mixed Tryz.func388 true _ rfl (Nat.le_of_ble_eq_true (by kernel_rfl)) (by kernel_rfl) ?_; intro hbel Q hQ hQ' c hc; unfold Tryz.f388 at hc; simp only [Option.some.injEq] at hc; subst hc; clear hQ')
  simp -implicitDefEqProofs (disch := omega) only [simprocAttr, amset, tyset, Function.comp_apply, one1, lenV, calleeOf, lateOk, belowV, aop, AV.ofValue, AV.ofCell, AV.cells, AV.flat, AV.one, arep, aBin, aAppend, aConv]
  repeat refine And.intro (by omega) ?_
  exact hQ _ _ (end_plain (.inl rfl) hbel (x := .int .i64 (x.1 * y.2 - x.2 * y.1)) (resT Tryz.results388) rfl ⟨rfl, rfl⟩)
def absI (n : Int) : Int := if n < 0 then -n else n
theorem abs_c (x : Int) (h : -4611686018427387904 ≤ x ∧ x ≤ 4611686018427387904) : ACalls Tryz.prog 343 [.int .i64 x] H (fun v H' => v = .int .i64 (absI x) ∧ H' = H) := by
  (refine ACalls_run try_mixed Tryz.func343 true _ rfl (Nat.le_of_ble_eq_true (by kernel_rfl)) (by kernel_rfl) ?_; intro hbel Q hQ hQ' c hc; unfold Tryz.f343 at hc; simp only [Option.some.injEq] at hc; subst hc; clear hQ')
  simp -implicitDefEqProofs (disch := omega) only [simprocAttr, amset, tyset, Function.comp_apply, one1, lenV, calleeOf, lateOk, belowV, aop, AV.ofValue, AV.ofCell, AV.cells, AV.flat, AV.one, arep, aBin, aAppend, aConv]
  repeat refine And.intro (by omega) ?_
  exact hQ _ _ (end_plain0 (.inl rfl) hbel (x := .int .i64 (if x < 0 - x then 0 - x else x)) (resT Tryz.results343) rfl ⟨by unfold absI; congr 1; split <;> split <;> omega, rfl⟩)
end
set_option linter.unusedSimpArgs false
set_option linter.unusedVariables false
open Go.RowKit
/-- A generator that is not allowed. -/
def wrongB (g : Pt) : Bool := !(within g.1 65536 && within g.2 65536)
def nearB (x : Int) : Bool := within x 2097152
def validB (x y : Int) (l : List Pt) : Bool := within x 8388608 && within y 8388608 && decide (l.length ≤ 16) && !l.any wrongB
theorem IsP.parts {H : AHeap} {s : AV} {l : List Pt} (h : IsP H s l) : ∃ a c, s = .sl a l.length c := by
  rcases h with ⟨rfl, rfl⟩ | ⟨b, own, cap, rfl, hb⟩
  · exact ⟨_, _, rfl⟩
  · exact ⟨_, _, rfl⟩
theorem IsP.pos {H : AHeap} {s : AV} {l : List Pt} (h : IsP H s l) (h0 : 0 < l.length) : ∃ b own cap, s = .sl (some (b, 0)) l.length cap ∧ H[b]? = some (.cells own 2 (prs l)) := by
  rcases h with ⟨rfl, rfl⟩ | ⟨b, own, cap, rfl, hb⟩
  · simp at h0
  · exact ⟨b, own, cap, rfl, hb⟩
section
variable (H : AHeap)
theorem wrong_c (g : Pt) : ACalls Tryz.prog 389 [pv g] H (fun v H' => v = .bool (wrongB g) ∧ H' = H) := by
  (refine ACalls_run try_mixed Tryz.func389 true _ rfl (Nat.le_of_ble_eq_true (by kernel_rfl)) (by kernel_rfl) ?_; intro hbel Q hQ hQ' c hc; unfold Tryz.f389 at hc; simp only [Option.some.injEq] at hc; subst hc; clear hQ')
  simp -implicitDefEqProofs (disch := omega) only [simprocAttr, amset, tyset, Function.comp_apply, one1, lenV, calleeOf, lateOk, belowV, aop, AV.ofValue, AV.ofCell, AV.cells, AV.flat, AV.one, arep, aBin, aAppend, aConv]
  refine call_v (by kernel_rfl) (size_c _ _ _ (by decide)) ?_
  cases h1 : within g.1 65536
  · simp -implicitDefEqProofs (disch := omega) only [simprocAttr, amset, tyset, Function.comp_apply, one1, lenV, calleeOf, lateOk, belowV, aop, AV.ofValue, AV.ofCell, AV.cells, AV.flat, AV.one, arep, aBin, aAppend, aConv]
    exact hQ _ _ (end_plain (.inl rfl) hbel (x := .bool true) (resT Tryz.results389) rfl ⟨by simp [wrongB, h1], rfl⟩)
  · simp -implicitDefEqProofs (disch := omega) only [simprocAttr, amset, tyset, Function.comp_apply, one1, lenV, calleeOf, lateOk, belowV, aop, AV.ofValue, AV.ofCell, AV.cells, AV.flat, AV.one, arep, aBin, aAppend, aConv]
    refine call_v (by kernel_rfl) (size_c _ _ _ (by decide)) ?_
    simp -implicitDefEqProofs (disch := omega) only [simprocAttr, amset, tyset, Function.comp_apply, one1, lenV, calleeOf, lateOk, belowV, aop, AV.ofValue, AV.ofCell, AV.cells, AV.flat, AV.one, arep, aBin, aAppend, aConv]
    exact hQ _ _ (end_plain (.inl rfl) hbel (x := .bool (!within g.2 65536)) (resT Tryz.results389) rfl ⟨by simp [wrongB, h1], rfl⟩)
theorem any_take {α : Type} {l : List α} {p : α → Bool} {i : Nat} (h : i < l.length) : (l.take (i + 1)).any p = ((l.take i).any p || p l[i]) := by
  rw [List.take_succ_eq_append_getElem h, List.any_append]; simp
set_option maxRecDepth 100000 in
theorem index_c (s : AV) (l : List Pt) (hs : IsP H s l) (hl : l.length ≤ 1000000) : ACalls Tryz.prog 408 [s, .fn 389 []] H (fun v H' => ∃ r, v = .int .i64 r ∧ decide (0 ≤ r) = l.any wrongB ∧ H' = H) := by
  rcases Nat.eq_zero_or_pos l.length with h0 | h0
  · obtain rfl : l = [] := List.eq_nil_of_length_eq_zero h0
    obtain ⟨a, c, rfl⟩ := hs.parts
    (refine ACalls_run try_mixed Tryz.func408 true _ rfl (Nat.le_of_ble_eq_true (by kernel_rfl)) (by kernel_rfl) ?_; intro hbel Q hQ hQ' c hc; unfold Tryz.f408 at hc; simp only [Option.some.injEq] at hc; subst hc; clear hQ')
    simp -implicitDefEqProofs (disch := omega) only [List.length_nil, simprocAttr, amset, tyset, Function.comp_apply, one1, lenV, calleeOf, lateOk, belowV, aop, AV.ofValue, AV.ofCell, AV.cells, AV.flat, AV.one, arep, aBin, aAppend, aConv]
    refine go_loop try_mixed (by kernel_rfl) (fun k F Hx => F = [(7, .int .i64 0), (8, .int .i64 0)] ∧ Hx = H) 1 ?_ ?_
    · refine ⟨_, _, _, ⟨rfl, rfl⟩, Abs.by0 hbel ?_⟩
      exact absT
    · rintro k F Hx ⟨rfl, rfl⟩ J hJ
      simp -implicitDefEqProofs (disch := omega) only [Int.lt_irrefl, simprocAttr, amset, tyset, Function.comp_apply, one1, lenV, calleeOf, lateOk, belowV, aop, AV.ofValue, AV.ofCell, AV.cells, AV.flat, AV.one, arep, aBin, aAppend, aConv]
      exact hQ _ _ (end_plain0 (.inl rfl) hbel (x := .int .i64 (-1)) (resT Tryz.results408) rfl ⟨_, rfl, rfl, rfl⟩)
  obtain ⟨b, own, cap, rfl, hb⟩ := hs.pos h0
  have hbl := getElem?_lt hb
  (refine ACalls_run try_mixed Tryz.func408 true _ rfl (Nat.le_of_ble_eq_true (by kernel_rfl)) (by kernel_rfl) ?_; intro hbel Q hQ hQ' c hc; unfold Tryz.f408 at hc; simp only [Option.some.injEq] at hc; subst hc; clear hQ')
  simp -implicitDefEqProofs (disch := omega) only [simprocAttr, amset, tyset, Function.comp_apply, one1, lenV, calleeOf, lateOk, belowV, aop, AV.ofValue, AV.ofCell, AV.cells, AV.flat, AV.one, arep, aBin, aAppend, aConv]
  refine go_loop try_mixed (by kernel_rfl) (fun k F Hx => ∃ i : Nat, i + k = l.length ∧ (l.take i).any wrongB = false ∧ F = [(0, .sl (some (b, 0)) l.length none), (1, .fn 389 []), (7, .int .i64 l.length), (8, .int .i64 (i : Nat))] ∧ Hx = H) l.length ?_ ?_
  · refine ⟨_, _, _, ⟨0, by omega, rfl, rfl, rfl⟩, Abs.by0 hbel ?_⟩
    exact absT
  · rintro k F Hx ⟨i, hik, ht, rfl, rfl⟩ J hJ
    by_cases hi : i < l.length
    · have hii : (i : Int) < (l.length : Int) := by omega
      have q1 := prs_load hi
      have hg : gp l i = l[i] := gp_eq hi
      simp -implicitDefEqProofs (disch := omega) only [hii, hb, q1, simprocAttr, amset, tyset, Function.comp_apply, one1, lenV, calleeOf, lateOk, belowV, aop, AV.ofValue, AV.ofCell, AV.cells, AV.flat, AV.one, arep, aBin, aAppend, aConv]
      repeat refine And.intro (by omega) ?_
      refine call_v (by kernel_rfl) (wrong_c _ (gp l i)) ?_
      have hst := any_take (p := wrongB) hi
      rw [← hg, ht, Bool.false_or] at hst
      cases h1 : wrongB (gp l i)
      · rw [h1] at hst
        simp -implicitDefEqProofs (disch := omega) only [simprocAttr, amset, tyset, Function.comp_apply, one1, lenV, calleeOf, lateOk, belowV, aop, AV.ofValue, AV.ofCell, AV.cells, AV.flat, AV.one, arep, aBin, aAppend, aConv]
        refine hJ _ _ ⟨k - 1, by omega, _, _, _, ⟨i + 1, by omega, hst, rfl, rfl⟩, Abs.by0 hbel ?_⟩
        exact absT
      · simp -implicitDefEqProofs (disch := omega) only [simprocAttr, amset, tyset, Function.comp_apply, one1, lenV, calleeOf, lateOk, belowV, aop, AV.ofValue, AV.ofCell, AV.cells, AV.flat, AV.one, arep, aBin, aAppend, aConv]
        exact hQ _ _ (end_plain0 (.inl rfl) hbel (x := .int .i64 (i : Nat)) (resT Tryz.results408) rfl ⟨_, rfl, by rw [decide_eq_true (by omega)]; symm; rw [List.any_eq_true]; exact ⟨l[i], List.getElem_mem hi, by rw [← hg]; exact h1⟩, rfl⟩)
    · have hnn : ¬ ((i : Int) < (l.length : Int)) := by omega
      simp -implicitDefEqProofs (disch := omega) only [hnn, simprocAttr, amset, tyset, Function.comp_apply, one1, lenV, calleeOf, lateOk, belowV, aop, AV.ofValue, AV.ofCell, AV.cells, AV.flat, AV.one, arep, aBin, aAppend, aConv]
      rw [List.take_of_length_le (by omega)] at ht
      exact hQ _ _ (end_plain0 (.inl rfl) hbel (x := .int .i64 (-1)) (resT Tryz.results408) rfl ⟨_, rfl, by rw [ht]; rfl, rfl⟩)
theorem contains_c (s : AV) (l : List Pt) (hs : IsP H s l) (hl : l.length ≤ 1000000) : ACalls Tryz.prog 390 [s, .fn 389 []] H (fun v H' => v = .bool (l.any wrongB) ∧ H' = H) := by
  have key := index_c H s l hs hl
  obtain ⟨a, c, rfl⟩ := hs.parts
  (refine ACalls_run try_mixed Tryz.func390 true _ rfl (Nat.le_of_ble_eq_true (by kernel_rfl)) (by kernel_rfl) ?_; intro hbel Q hQ hQ' c hc; unfold Tryz.f390 at hc; simp only [Option.some.injEq] at hc; subst hc; clear hQ')
  simp -implicitDefEqProofs (disch := omega) only [simprocAttr, amset, tyset, Function.comp_apply, one1, lenV, calleeOf, lateOk, belowV, aop, AV.ofValue, AV.ofCell, AV.cells, AV.flat, AV.one, arep, aBin, aAppend, aConv]
  refine call_of (by kernel_rfl) key ?_
  rintro x H' ⟨r, rfl, hr, rfl⟩
  simp -implicitDefEqProofs (disch := omega) only [simprocAttr, amset, tyset, Function.comp_apply, one1, lenV, calleeOf, lateOk, belowV, aop, AV.ofValue, AV.ofCell, AV.cells, AV.flat, AV.one, arep, aBin, aAppend, aConv]
  exact hQ _ _ (end_plain0 (.inl rfl) hbel (x := .bool (decide (0 ≤ r))) (resT Tryz.results390) rfl ⟨by rw [hr], rfl⟩)
set_option maxRecDepth 100000 in
theorem valid_c (x y : Int) (s : AV) (l : List Pt) (hs : IsP H s l) : ACalls Tryz.prog 337 [.agg [.int .i64 x, .int .i64 y, s]] H (fun v H' => v = .bool (validB x y l) ∧ H' = H) := by
  have key := fun l' => contains_c (H ++ l') s l (hs.app l')
  obtain ⟨a, c, rfl⟩ := hs.parts
  (refine ACalls_run try_mixed Tryz.func337 true _ rfl (Nat.le_of_ble_eq_true (by kernel_rfl)) (by kernel_rfl) ?_; intro hbel Q hQ hQ' c hc; unfold Tryz.f337 at hc; simp only [Option.some.injEq] at hc; subst hc; clear hQ')
  simp -implicitDefEqProofs (disch := omega) only [simprocAttr, amset, tyset, Function.comp_apply, one1, lenV, calleeOf, lateOk, belowV, aop, AV.ofValue, AV.ofCell, AV.cells, AV.flat, AV.one, arep, aBin, aAppend, aConv]
  refine call_v (by kernel_rfl) (size_c _ _ _ (by decide)) ?_
  cases h1 : within x 8388608
  · simp -implicitDefEqProofs (disch := omega) only [simprocAttr, amset, tyset, Function.comp_apply, one1, lenV, calleeOf, lateOk, belowV, aop, AV.ofValue, AV.ofCell, AV.cells, AV.flat, AV.one, arep, aBin, aAppend, aConv]
    exact hQ _ _ (end_plain (.inl rfl) hbel (x := .bool false) (resT Tryz.results337) rfl ⟨by simp [validB, h1], rfl⟩)
  simp -implicitDefEqProofs (disch := omega) only [simprocAttr, amset, tyset, Function.comp_apply, one1, lenV, calleeOf, lateOk, belowV, aop, AV.ofValue, AV.ofCell, AV.cells, AV.flat, AV.one, arep, aBin, aAppend, aConv]
  refine call_v (by kernel_rfl) (size_c _ _ _ (by decide)) ?_
  cases h2 : within y 8388608
  · simp -implicitDefEqProofs (disch := omega) only [simprocAttr, amset, tyset, Function.comp_apply, one1, lenV, calleeOf, lateOk, belowV, aop, AV.ofValue, AV.ofCell, AV.cells, AV.flat, AV.one, arep, aBin, aAppend, aConv]
    exact hQ _ _ (end_plain (.inl rfl) hbel (x := .bool false) (resT Tryz.results337) rfl ⟨by simp [validB, h1, h2], rfl⟩)
  by_cases h3 : (l.length : Int) ≤ 16
  · simp -implicitDefEqProofs (disch := omega) only [h3, simprocAttr, amset, tyset, Function.comp_apply, one1, lenV, calleeOf, lateOk, belowV, aop, AV.ofValue, AV.ofCell, AV.cells, AV.flat, AV.one, arep, aBin, aAppend, aConv]
    refine call_v (by kernel_rfl) (key _ (by omega)) ?_
    simp -implicitDefEqProofs (disch := omega) only [simprocAttr, amset, tyset, Function.comp_apply, one1, lenV, calleeOf, lateOk, belowV, aop, AV.ofValue, AV.ofCell, AV.cells, AV.flat, AV.one, arep, aBin, aAppend, aConv]
    exact hQ _ _ (end_plain (.inl rfl) hbel (x := .bool (!l.any wrongB)) (resT Tryz.results337) rfl ⟨by rw [validB, h1, h2, decide_eq_true (by omega)]; rfl, rfl⟩)
  · simp -implicitDefEqProofs (disch := omega) only [h3, simprocAttr, amset, tyset, Function.comp_apply, one1, lenV, calleeOf, lateOk, belowV, aop, AV.ofValue, AV.ofCell, AV.cells, AV.flat, AV.one, arep, aBin, aAppend, aConv]
    exact hQ _ _ (end_plain (.inl rfl) hbel (x := .bool false) (resT Tryz.results337) rfl ⟨by rw [validB, h1, h2, decide_eq_false (by omega)]; rfl, rfl⟩)
end
set_option linter.unusedSimpArgs false
set_option linter.unusedVariables false
open Go.RowKit
theorem IsI.partsI {k : IntKind} {H : AHeap} {s : AV} {l : List Int} (h : IsI H k s l) : ∃ a c, s = .sl a l.length c := by
  rcases h with ⟨rfl, rfl⟩ | ⟨b, own, cap, rfl, hb⟩
  · exact ⟨_, _, rfl⟩
  · exact ⟨_, _, rfl⟩
theorem IsI.posI {k : IntKind} {H : AHeap} {s : AV} {l : List Int} (h : IsI H k s l) (h0 : 0 < l.length) : ∃ b own cap, s = .sl (some (b, 0)) l.length cap ∧ H[b]? = some (.cells own 1 (ints k l)) := by
  rcases h with ⟨rfl, rfl⟩ | ⟨b, own, cap, rfl, hb⟩
  · simp at h0
  · exact ⟨b, own, cap, rfl, hb⟩
def farB (x : Int) : Bool := !nearB x
section
variable (H : AHeap)
theorem far_c (x : Int) : ACalls Tryz.prog 385 [.int .i64 x] H (fun v H' => v = .bool (farB x) ∧ H' = H) := by
  (refine ACalls_run try_mixed Tryz.func385 true _ rfl (Nat.le_of_ble_eq_true (by kernel_rfl)) (by kernel_rfl) ?_; intro hbel Q hQ hQ' c hc; unfold Tryz.f385 at hc; simp only [Option.some.injEq] at hc; subst hc; clear hQ')
  simp -implicitDefEqProofs (disch := omega) only [simprocAttr, amset, tyset, Function.comp_apply, one1, lenV, calleeOf, lateOk, belowV, aop, AV.ofValue, AV.ofCell, AV.cells, AV.flat, AV.one, arep, aBin, aAppend, aConv]
  refine call_v (by kernel_rfl) (size_c _ _ _ (by decide)) ?_
  simp -implicitDefEqProofs (disch := omega) only [simprocAttr, amset, tyset, Function.comp_apply, one1, lenV, calleeOf, lateOk, belowV, aop, AV.ofValue, AV.ofCell, AV.cells, AV.flat, AV.one, arep, aBin, aAppend, aConv]
  exact hQ _ _ (end_plain0 (.inl rfl) hbel (x := .bool (!within x 2097152)) (resT Tryz.results385) rfl ⟨rfl, rfl⟩)
set_option maxRecDepth 100000 in
theorem indexI_c (s : AV) (l : List Int) (hs : IsI H .i64 s l) (hl : l.length ≤ 1000000) : ACalls Tryz.prog 291 [s, .fn 385 []] H (fun v H' => ∃ r, v = .int .i64 r ∧ decide (0 ≤ r) = l.any farB ∧ H' = H) := by
  rcases Nat.eq_zero_or_pos l.length with h0 | h0
  · obtain rfl : l = [] := List.eq_nil_of_length_eq_zero h0
    obtain ⟨a, c, rfl⟩ := hs.partsI
    (refine ACalls_run try_mixed Tryz.func291 true _ rfl (Nat.le_of_ble_eq_true (by kernel_rfl)) (by kernel_rfl) ?_; intro hbel Q hQ hQ' c hc; unfold Tryz.f291 at hc; simp only [Option.some.injEq] at hc; subst hc; clear hQ')
    simp -implicitDefEqProofs (disch := omega) only [List.length_nil, simprocAttr, amset, tyset, Function.comp_apply, one1, lenV, calleeOf, lateOk, belowV, aop, AV.ofValue, AV.ofCell, AV.cells, AV.flat, AV.one, arep, aBin, aAppend, aConv]
    refine go_loop try_mixed (by kernel_rfl) (fun k F Hx => F = [(7, .int .i64 0), (8, .int .i64 0)] ∧ Hx = H) 1 ?_ ?_
    · refine ⟨_, _, _, ⟨rfl, rfl⟩, Abs.by0 hbel ?_⟩
      exact absT
    · rintro k F Hx ⟨rfl, rfl⟩ J hJ
      simp -implicitDefEqProofs (disch := omega) only [Int.lt_irrefl, simprocAttr, amset, tyset, Function.comp_apply, one1, lenV, calleeOf, lateOk, belowV, aop, AV.ofValue, AV.ofCell, AV.cells, AV.flat, AV.one, arep, aBin, aAppend, aConv]
      exact hQ _ _ (end_plain0 (.inl rfl) hbel (x := .int .i64 (-1)) (resT Tryz.results291) rfl ⟨_, rfl, rfl, rfl⟩)
  obtain ⟨b, own, cap, rfl, hb⟩ := hs.posI h0
  have hbl := getElem?_lt hb
  (refine ACalls_run try_mixed Tryz.func291 true _ rfl (Nat.le_of_ble_eq_true (by kernel_rfl)) (by kernel_rfl) ?_; intro hbel Q hQ hQ' c hc; unfold Tryz.f291 at hc; simp only [Option.some.injEq] at hc; subst hc; clear hQ')
  simp -implicitDefEqProofs (disch := omega) only [simprocAttr, amset, tyset, Function.comp_apply, one1, lenV, calleeOf, lateOk, belowV, aop, AV.ofValue, AV.ofCell, AV.cells, AV.flat, AV.one, arep, aBin, aAppend, aConv]
  refine go_loop try_mixed (by kernel_rfl) (fun k F Hx => ∃ i : Nat, i + k = l.length ∧ (l.take i).any farB = false ∧ F = [(0, .sl (some (b, 0)) l.length none), (1, .fn 385 []), (7, .int .i64 l.length), (8, .int .i64 (i : Nat))] ∧ Hx = H) l.length ?_ ?_
  · refine ⟨_, _, _, ⟨0, by omega, rfl, rfl, rfl⟩, Abs.by0 hbel ?_⟩
    exact absT
  · rintro k F Hx ⟨i, hik, ht, rfl, rfl⟩ J hJ
    by_cases hi : i < l.length
    · have hii : (i : Int) < (l.length : Int) := by omega
      have q1 := ints_get (k := .i64) (xs := l) (j := i) hi
      have hg : gi l i = l[i] := gi_lt hi
      simp -implicitDefEqProofs (disch := omega) only [hii, hb, q1, simprocAttr, amset, tyset, Function.comp_apply, one1, lenV, calleeOf, lateOk, belowV, aop, AV.ofValue, AV.ofCell, AV.cells, AV.flat, AV.one, arep, aBin, aAppend, aConv]
      repeat refine And.intro (by omega) ?_
      refine call_v (by kernel_rfl) (far_c _ (gi l i)) ?_
      have hst := any_take (p := farB) hi
      rw [← hg, ht, Bool.false_or] at hst
      cases h1 : farB (gi l i)
      · rw [h1] at hst
        simp -implicitDefEqProofs (disch := omega) only [simprocAttr, amset, tyset, Function.comp_apply, one1, lenV, calleeOf, lateOk, belowV, aop, AV.ofValue, AV.ofCell, AV.cells, AV.flat, AV.one, arep, aBin, aAppend, aConv]
        refine hJ _ _ ⟨k - 1, by omega, _, _, _, ⟨i + 1, by omega, hst, rfl, rfl⟩, Abs.by0 hbel ?_⟩
        exact absT
      · simp -implicitDefEqProofs (disch := omega) only [simprocAttr, amset, tyset, Function.comp_apply, one1, lenV, calleeOf, lateOk, belowV, aop, AV.ofValue, AV.ofCell, AV.cells, AV.flat, AV.one, arep, aBin, aAppend, aConv]
        exact hQ _ _ (end_plain0 (.inl rfl) hbel (x := .int .i64 (i : Nat)) (resT Tryz.results291) rfl ⟨_, rfl, by rw [decide_eq_true (by omega)]; symm; rw [List.any_eq_true]; exact ⟨l[i], List.getElem_mem hi, by rw [← hg]; exact h1⟩, rfl⟩)
    · have hnn : ¬ ((i : Int) < (l.length : Int)) := by omega
      simp -implicitDefEqProofs (disch := omega) only [hnn, simprocAttr, amset, tyset, Function.comp_apply, one1, lenV, calleeOf, lateOk, belowV, aop, AV.ofValue, AV.ofCell, AV.cells, AV.flat, AV.one, arep, aBin, aAppend, aConv]
      rw [List.take_of_length_le (by omega)] at ht
      exact hQ _ _ (end_plain0 (.inl rfl) hbel (x := .int .i64 (-1)) (resT Tryz.results291) rfl ⟨_, rfl, by rw [ht]; rfl, rfl⟩)
theorem containsI_c (s : AV) (l : List Int) (hs : IsI H .i64 s l) (hl : l.length ≤ 1000000) : ACalls Tryz.prog 223 [s, .fn 385 []] H (fun v H' => v = .bool (l.any farB) ∧ H' = H) := by
  have key := indexI_c H s l hs hl
  obtain ⟨a, c, rfl⟩ := hs.partsI
  (refine ACalls_run try_mixed Tryz.func223 true _ rfl (Nat.le_of_ble_eq_true (by kernel_rfl)) (by kernel_rfl) ?_; intro hbel Q hQ hQ' c hc; unfold Tryz.f223 at hc; simp only [Option.some.injEq] at hc; subst hc; clear hQ')
  simp -implicitDefEqProofs (disch := omega) only [simprocAttr, amset, tyset, Function.comp_apply, one1, lenV, calleeOf, lateOk, belowV, aop, AV.ofValue, AV.ofCell, AV.cells, AV.flat, AV.one, arep, aBin, aAppend, aConv]
  refine call_of (by kernel_rfl) key ?_
  rintro x H' ⟨r, rfl, hr, rfl⟩
  simp -implicitDefEqProofs (disch := omega) only [simprocAttr, amset, tyset, Function.comp_apply, one1, lenV, calleeOf, lateOk, belowV, aop, AV.ofValue, AV.ofCell, AV.cells, AV.flat, AV.one, arep, aBin, aAppend, aConv]
  exact hQ _ _ (end_plain0 (.inl rfl) hbel (x := .bool (decide (0 ≤ r))) (resT Tryz.results223) rfl ⟨by rw [hr], rfl⟩)
theorem near_c (s : AV) (l : List Int) (hs : IsI H .i64 s l) (hl : l.length ≤ 1000000) : ACalls Tryz.prog 335 [s] H (fun v H' => v = .bool (!l.any farB) ∧ H' = H) := by
  have key := containsI_c H s l hs hl
  obtain ⟨a, c, rfl⟩ := hs.partsI
  (refine ACalls_run try_mixed Tryz.func335 true _ rfl (Nat.le_of_ble_eq_true (by kernel_rfl)) (by kernel_rfl) ?_; intro hbel Q hQ hQ' c hc; unfold Tryz.f335 at hc; simp only [Option.some.injEq] at hc; subst hc; clear hQ')
  simp -implicitDefEqProofs (disch := omega) only [simprocAttr, amset, tyset, Function.comp_apply, one1, lenV, calleeOf, lateOk, belowV, aop, AV.ofValue, AV.ofCell, AV.cells, AV.flat, AV.one, arep, aBin, aAppend, aConv]
  refine call_v (by kernel_rfl) key ?_
  simp -implicitDefEqProofs (disch := omega) only [simprocAttr, amset, tyset, Function.comp_apply, one1, lenV, calleeOf, lateOk, belowV, aop, AV.ofValue, AV.ofCell, AV.cells, AV.flat, AV.one, arep, aBin, aAppend, aConv]
  exact hQ _ _ (end_plain0 (.inl rfl) hbel (x := .bool (!l.any farB)) (resT Tryz.results335) rfl ⟨rfl, rfl⟩)
end
set_option linter.unusedSimpArgs false
set_option linter.unusedVariables false
open Go.RowKit
set_option maxHeartbeats 4000000
set_option maxRecDepth 100000
theorem sortnil_c (H : AHeap) : ACalls Tryz.prog 386 [.sl none 0 (some 0), .fn 387 []] H (fun v H' => v = .tup [] ∧ H' = H) :=
  ACalls.closed (ran try_mixed ext_ok tb tb_ok 300 30 (x := .tup []) (o := none) (by kernel_rfl)) rfl rfl H
theorem dirs_step {l : List Pt} {i : Nat} (h : i < l.length) : dirs (l.take (i + 1)) = dirs (l.take i) ++ if nrm (gp l i) = (0, 0) then [] else [nrm (gp l i)] := by
  rw [List.take_succ_eq_append_getElem h, ← gp_eq h]
  unfold dirs
  rw [List.map_append, List.filter_append]
  congr 1
  by_cases h0 : nrm (gp l i) = (0, 0)
  · simp [h0]
  · simp [h0]
theorem nrm_bd {M : Int} {g : Pt} (h : Bd M g) : Bd M (nrm g) := by
  unfold Bd at *
  unfold nrm
  split
  · simp only; omega
  · exact h
theorem dirs_bd {M : Int} {l : List Pt} (h : ∀ e ∈ l, Bd M e) : ∀ e ∈ dirs l, Bd M e := fun e he => by
  unfold dirs at he
  simp only [List.mem_filter, List.mem_map, decide_eq_true_eq] at he
  obtain ⟨⟨g, hg, rfl⟩, -⟩ := he
  exact nrm_bd (h g hg)
theorem dirs_len (l : List Pt) : (dirs l).length ≤ l.length := by
  unfold dirs
  exact Nat.le_trans (List.length_filter_le _ _) (by simp)
theorem mst_len (L : List Pt) (g : Pt) : (mst L g).length ≤ L.length + 1 := by
  rcases List.eq_nil_or_concat L with rfl | ⟨o, k, rfl⟩
  · simp [mst_nil]
  · rw [List.concat_eq_append, mst_snoc]; split <;> simp
theorem mergeL_snoc (S : List Pt) (g : Pt) : mergeL (S ++ [g]) = mst (mergeL S) g := by unfold mergeL; rw [List.foldl_append]; rfl
theorem snoc_ind {P : List Pt → Prop} (h0 : P []) (h1 : ∀ S g, P S → P (S ++ [g])) (S : List Pt) : P S := by
  have : ∀ n (S : List Pt), S.length = n → P S := fun n => by
    induction n with
    | zero => intro S h; rw [List.eq_nil_of_length_eq_zero h]; exact h0
    | succ n ih =>
      intro S h
      rcases List.eq_nil_or_concat S with rfl | ⟨o, k, rfl⟩
      · simp at h
      · rw [List.concat_eq_append] at *
        exact h1 o k (ih o (by simpa using h))
  exact this _ S rfl
theorem mergeL_len (S : List Pt) : (mergeL S).length ≤ S.length := by
  refine snoc_ind (P := fun S => (mergeL S).length ≤ S.length) (by simp [mergeL]) (fun S g h => ?_) S
  rw [mergeL_snoc]
  have := mst_len (mergeL S) g
  simp; omega
theorem mergeL_bd {M : Int} (hM : 0 ≤ M) {S : List Pt} (h : ∀ e ∈ S, Bd M e) : ∀ e ∈ mergeL S, Bd (S.length * M) e := by
  revert h
  refine snoc_ind (P := fun S => (∀ e ∈ S, Bd M e) → ∀ e ∈ mergeL S, Bd (S.length * M) e) (fun _ => by simp [mergeL]) (fun S g ih h => ?_) S
  have ih := ih fun e he => h e (by simp [he])
  have hg := h g (by simp)
  have e1 : ((S ++ [g]).length : Int) * M = S.length * M + M := by
    rw [List.length_append, Int.natCast_add, Int.add_mul]; simp
  have e2 : 0 ≤ (S.length : Int) * M := Int.mul_nonneg (by omega) hM
  rw [mergeL_snoc, e1]
  generalize (S.length : Int) * M = z at *
  have up : ∀ e, Bd z e → Bd (z + M) e := fun e he => by unfold Bd at *; omega
  have up2 : Bd (z + M) g := by unfold Bd at *; omega
  rcases List.eq_nil_or_concat (mergeL S) with h0 | ⟨o, k, h0⟩
  · rw [h0, mst_nil]
    intro e he
    simp at he; subst he; exact up2
  · rw [List.concat_eq_append] at h0
    rw [h0] at ih ⊢
    rw [mst_snoc]
    have hk := ih k (by simp)
    split
    · intro e he
      rcases List.mem_append.1 he with he | he
      · exact up e (ih e (by simp [he]))
      · simp at he; subst he
        unfold Bd padd at *; simp only; omega
    · intro e he
      rcases List.mem_append.1 he with he | he
      · exact up e (ih e he)
      · simp at he; subst he; exact up2
theorem mst_pos {L : List Pt} {g : Pt} {p : Nat} (h : L.length = p + 1) : mst L g = if crs (gp L p) g = 0 then L.set p (padd (gp L p) g) else L ++ [g] := by
  rcases List.eq_nil_or_concat L with rfl | ⟨o, k, rfl⟩
  · simp at h
  · rw [List.concat_eq_append] at *
    have hp : p = o.length := by simp at h; omega
    have e : gp (o ++ [k]) p = k := by rw [gp_eq (by omega)]; simp [hp]
    rw [mst_snoc, e]
    split
    · rw [List.set_append_right _ _ (by omega), hp, Nat.sub_self]; rfl
    · rfl
theorem canonical_c (H : AHeap) (x y : Int) (b : Nat) (own : Bool) (cap : Option Nat) (l : List Pt) (hb : H[b]? = some (.cells own 2 (prs l))) (hl : l.length ≤ 40) (hB : ∀ e ∈ l, Bd 4194304 e) :
    ACalls Tryz.prog 336 [.agg [.int .i64 x, .int .i64 y, .sl (some (b, 0)) l.length cap]] H (fun v H' => v = .agg [.int .i64 x, .int .i64 y, (retP H (canonL l)).1] ∧ H' = (retP H (canonL l)).2) := by
  have hbl := getElem?_lt hb
  have hb0 := fun l => get_app (l := l) hb
  generalize hn : l.length = n at *
  (refine ACalls_run try_mixed Tryz.func336 true _ rfl (Nat.le_of_ble_eq_true (by kernel_rfl)) (by kernel_rfl) ?_; intro hbel Q hQ hQ' c hc; unfold Tryz.f336 at hc; simp only [Option.some.injEq] at hc; subst hc; clear hQ')
  simp -implicitDefEqProofs (disch := omega) only [simprocAttr, amset, tyset, Function.comp_apply, one1, lenV, calleeOf, lateOk, belowV, aop, AV.ofValue, AV.ofCell, AV.cells, AV.flat, AV.one, arep, aBin, aAppend, aConv]
  refine go_loop try_mixed (by kernel_rfl) (fun k F Hx => ∃ (i : Nat) (s : AV) (X : ABlk), i + k = n ∧ OutP (H.length + 2) s X (dirs (l.take i)) ∧
    F = [(1, .ptr (some (H.length, 0))), (2, .ptr (some (H.length + 1, 0))), (3, s), (11, .sl (some (b, 0)) n none), (12, .int .i64 n), (13, .int .i64 (i : Nat))] ∧
    Hx = H ++ [.cells true 0 [.int .i64 x, .int .i64 y, .sl (some (b, 0)) n cap], .cells true 0 [.int .i64 0, .int .i64 0, .sl none 0 (some 0)], X]) n ?_ ?_
  · refine ⟨_, _, _, ⟨0, _, _, by omega, .inl ⟨rfl, rfl, rfl⟩, rfl, rfl⟩, Abs.by hbel [0, 1, 2] (by decide) ?_⟩
    exact absT
  · rintro k F Hx ⟨i, s, X, hik, hO, rfl, rfl⟩ J hJ
    by_cases hi : i < l.length
    · have hii : (i : Int) < (n : Int) := by omega
      have q0 := prs_load hi
      have hg : gp l i = l[i] := gp_eq hi
      have hgb := hB l[i] (List.getElem_mem hi)
      rw [← hg] at hgb
      have hds := dirs_step hi
      simp -implicitDefEqProofs (disch := omega) only [hii, hb0, q0, simprocAttr, amset, tyset, Function.comp_apply, one1, lenV, calleeOf, lateOk, belowV, aop, AV.ofValue, AV.ofCell, AV.cells, AV.flat, AV.one, arep, aBin, aAppend, aConv]
      repeat refine And.intro (by omega) ?_
      have hbd : -4194304 ≤ g1 l i ∧ g1 l i ≤ 4194304 ∧ -4194304 ≤ g2 l i ∧ g2 l i ≤ 4194304 := hgb
      have hdl := dirs_len (l.take i)
      rw [List.length_take] at hdl
      have fin0 : nrm (gp l i) = (0, 0) → ∀ (F : Fr) (l1 : AHeap), (absF (H.length + l1.length) (sig H.length l1.length [0, 1, 2]) F [(1, .ptr (some (H.length, 0))), (2, .ptr (some (H.length + 1, 0))), (3, s), (11, .sl (some (b, 0)) n none), (12, .int .i64 n), (13, .int .i64 ((i + 1 : Nat) : Int))] ∧ absH (H.length + l1.length) (sig H.length l1.length [0, 1, 2]) l1 [0, 1, 2] [.cells true 0 [.int .i64 x, .int .i64 y, .sl (some (b, 0)) n cap], .cells true 0 [.int .i64 0, .int .i64 0, .sl none 0 (some 0)], X]) → J F (H ++ l1) := fun hf F l1 ha =>
        hJ _ _ ⟨k - 1, by omega, _, _, _, ⟨i + 1, _, _, by omega, by rw [hds, if_pos hf, List.append_nil]; exact hO, rfl, rfl⟩, Abs.by hbel [0, 1, 2] (by decide) ha⟩
      have fin1 : ∀ u v : Int, nrm (gp l i) = (u, v) → (u, v) ≠ ((0 : Int), (0 : Int)) → ∀ (F : Fr) (l1 : AHeap), (absF (H.length + l1.length) (sig H.length l1.length [0, 1, 5]) F [(1, .ptr (some (H.length, 0))), (2, .ptr (some (H.length + 1, 0))), (3, .sl (some (H.length + 2, 0)) ((dirs (l.take i)).length + 1) none), (11, .sl (some (b, 0)) n none), (12, .int .i64 n), (13, .int .i64 ((i + 1 : Nat) : Int))] ∧ absH (H.length + l1.length) (sig H.length l1.length [0, 1, 5]) l1 [0, 1, 5] [.cells true 0 [.int .i64 x, .int .i64 y, .sl (some (b, 0)) n cap], .cells true 0 [.int .i64 0, .int .i64 0, .sl none 0 (some 0)], .cells true 2 (prs (dirs (l.take i) ++ [(u, v)]))]) → J F (H ++ l1) := fun u v hf hne F l1 ha =>
        hJ _ _ ⟨k - 1, by omega, _, _, _, ⟨i + 1, _, _, by omega, by rw [hds, if_neg (by rw [hf]; exact hne), hf]; exact .inr ⟨by simp, by simp, rfl⟩, rfl, rfl⟩, Abs.by hbel [0, 1, 5] (by decide) ha⟩
      generalize dirs (l.take i) = L at *
      have hLt : List.take (L.length * 2) (prs L) = prs L := List.take_of_length_le (by rw [prs_len]; omega)
      by_cases h1 : g2 l i < 0
      · have hz : (0 - g2 l i == 0) = false := beq_eq_false_iff_ne.2 (by omega)
        have hf : nrm (gp l i) = (0 - g1 l i, 0 - g2 l i) := by unfold nrm; rw [if_pos (by simp only [gp]; omega)]; simp only [gp, Int.zero_sub]
        have hne : ((0 - g1 l i, 0 - g2 l i) : Int × Int) ≠ (0, 0) := by intro h; simp only [Prod.mk.injEq] at h; omega
        rcases hO with ⟨rfl, rfl, rfl⟩ | ⟨hL0, rfl, rfl⟩
        · simp -implicitDefEqProofs (disch := omega) only [h1, hz, Bool.and_false, simprocAttr, amset, tyset, Function.comp_apply, one1, lenV, calleeOf, lateOk, belowV, aop, AV.ofValue, AV.ofCell, AV.cells, AV.flat, AV.one, arep, aBin, aAppend, aConv]
          repeat refine And.intro (by omega) ?_
          refine fin1 _ _ hf hne _ _ ?_
          exact absT
        · simp -implicitDefEqProofs (disch := omega) only [prs_snoc, hLt, h1, hz, Bool.and_false, simprocAttr, amset, tyset, Function.comp_apply, one1, lenV, calleeOf, lateOk, belowV, aop, AV.ofValue, AV.ofCell, AV.cells, AV.flat, AV.one, arep, aBin, aAppend, aConv]
          repeat refine And.intro (by omega) ?_
          refine fin1 _ _ hf hne _ _ ?_
          exact absT
      · cases h2 : (g2 l i == 0)
        · have h2' := beq_eq_false_iff_ne.1 h2
          have hf : nrm (gp l i) = (g1 l i, g2 l i) := by unfold nrm; rw [if_neg (by simp only [gp]; omega)]; rfl
          have hne : ((g1 l i, g2 l i) : Int × Int) ≠ (0, 0) := by intro h; simp only [Prod.mk.injEq] at h; omega
          rcases hO with ⟨rfl, rfl, rfl⟩ | ⟨hL0, rfl, rfl⟩
          · simp -implicitDefEqProofs (disch := omega) only [h1, h2, Bool.and_false, simprocAttr, amset, tyset, Function.comp_apply, one1, lenV, calleeOf, lateOk, belowV, aop, AV.ofValue, AV.ofCell, AV.cells, AV.flat, AV.one, arep, aBin, aAppend, aConv]
            repeat refine And.intro (by omega) ?_
            refine fin1 _ _ hf hne _ _ ?_
            exact absT
          · simp -implicitDefEqProofs (disch := omega) only [prs_snoc, hLt, h1, h2, Bool.and_false, simprocAttr, amset, tyset, Function.comp_apply, one1, lenV, calleeOf, lateOk, belowV, aop, AV.ofValue, AV.ofCell, AV.cells, AV.flat, AV.one, arep, aBin, aAppend, aConv]
            repeat refine And.intro (by omega) ?_
            refine fin1 _ _ hf hne _ _ ?_
            exact absT
        · have h2' := beq_iff_eq.1 h2
          by_cases h3 : g1 l i < 0
          · have hz : (0 - g1 l i == 0) = false := beq_eq_false_iff_ne.2 (by omega)
            have hf : nrm (gp l i) = (0 - g1 l i, 0 - g2 l i) := by unfold nrm; rw [if_pos (by simp only [gp]; omega)]; simp only [gp, Int.zero_sub]
            have hne : ((0 - g1 l i, 0 - g2 l i) : Int × Int) ≠ (0, 0) := by intro h; simp only [Prod.mk.injEq] at h; omega
            rcases hO with ⟨rfl, rfl, rfl⟩ | ⟨hL0, rfl, rfl⟩
            · simp -implicitDefEqProofs (disch := omega) only [h1, h2, h3, hz, Bool.false_and, simprocAttr, amset, tyset, Function.comp_apply, one1, lenV, calleeOf, lateOk, belowV, aop, AV.ofValue, AV.ofCell, AV.cells, AV.flat, AV.one, arep, aBin, aAppend, aConv]
              repeat refine And.intro (by omega) ?_
              refine fin1 _ _ hf hne _ _ ?_
              exact absT
            · simp -implicitDefEqProofs (disch := omega) only [prs_snoc, hLt, h1, h2, h3, hz, Bool.false_and, simprocAttr, amset, tyset, Function.comp_apply, one1, lenV, calleeOf, lateOk, belowV, aop, AV.ofValue, AV.ofCell, AV.cells, AV.flat, AV.one, arep, aBin, aAppend, aConv]
              repeat refine And.intro (by omega) ?_
              refine fin1 _ _ hf hne _ _ ?_
              exact absT
          · cases h4 : (g1 l i == 0)
            · have h4' := beq_eq_false_iff_ne.1 h4
              have hf : nrm (gp l i) = (g1 l i, g2 l i) := by unfold nrm; rw [if_neg (by simp only [gp]; omega)]; rfl
              have hne : ((g1 l i, g2 l i) : Int × Int) ≠ (0, 0) := by intro h; simp only [Prod.mk.injEq] at h; omega
              rcases hO with ⟨rfl, rfl, rfl⟩ | ⟨hL0, rfl, rfl⟩
              · simp -implicitDefEqProofs (disch := omega) only [h1, h2, h3, h4, Bool.false_and, simprocAttr, amset, tyset, Function.comp_apply, one1, lenV, calleeOf, lateOk, belowV, aop, AV.ofValue, AV.ofCell, AV.cells, AV.flat, AV.one, arep, aBin, aAppend, aConv]
                repeat refine And.intro (by omega) ?_
                refine fin1 _ _ hf hne _ _ ?_
                exact absT
              · simp -implicitDefEqProofs (disch := omega) only [prs_snoc, hLt, h1, h2, h3, h4, Bool.false_and, simprocAttr, amset, tyset, Function.comp_apply, one1, lenV, calleeOf, lateOk, belowV, aop, AV.ofValue, AV.ofCell, AV.cells, AV.flat, AV.one, arep, aBin, aAppend, aConv]
                repeat refine And.intro (by omega) ?_
                refine fin1 _ _ hf hne _ _ ?_
                exact absT
            · have h4' := beq_iff_eq.1 h4
              simp -implicitDefEqProofs (disch := omega) only [h1, h2, h3, h4, simprocAttr, amset, tyset, Function.comp_apply, one1, lenV, calleeOf, lateOk, belowV, aop, AV.ofValue, AV.ofCell, AV.cells, AV.flat, AV.one, arep, aBin, aAppend, aConv]
              refine fin0 (by unfold nrm; rw [if_neg (by simp only [gp]; omega)]; exact Prod.ext h4' h2') _ _ ?_
              rcases hO with ⟨-, rfl, rfl⟩ | ⟨-, rfl, rfl⟩
              · exact absT
              · exact absT
    · have hnn : ¬ ((i : Int) < (n : Int)) := by omega
      rw [List.take_of_length_le (by omega)] at hO
      have hdb := dirs_bd hB
      have hdu := dirs_up (l := l)
      have hdl := dirs_len l
      have hme := fun S => merge_eq (l := l) (S := S)
      generalize dirs l = L at *
      rcases hO with ⟨rfl, rfl, rfl⟩ | ⟨hL0, rfl, rfl⟩
      · have hc0 : canonL l = [] := (hme [] (.refl _) .nil).symm
        rw [hc0, retP_nil] at hQ
        simp -implicitDefEqProofs (disch := omega) only [hnn, simprocAttr, amset, tyset, Function.comp_apply, one1, lenV, calleeOf, lateOk, belowV, aop, AV.ofValue, AV.ofCell, AV.cells, AV.flat, AV.one, arep, aBin, aAppend, aConv]
        refine call_v (by kernel_rfl) (sortnil_c _) ?_
        simp -implicitDefEqProofs (disch := omega) only [simprocAttr, amset, tyset, Function.comp_apply, one1, lenV, calleeOf, lateOk, belowV, aop, AV.ofValue, AV.ofCell, AV.cells, AV.flat, AV.one, arep, aBin, aAppend, aConv]
        refine go_loop try_mixed (by kernel_rfl) (fun k F Hx => F = [(2, .ptr (some (H.length, 0))), (6, .ptr (some (H.length + 1, 0))), (53, .int .i64 0), (54, .int .i64 0)] ∧ Hx = H ++ [.cells true 0 [.int .i64 0, .int .i64 0, .sl none 0 (some 0)], .cells true 0 [.int .i64 x, .int .i64 y, .sl none 0 (some 0)]]) 1 ?_ ?_
        · refine ⟨_, _, _, ⟨rfl, rfl⟩, Abs.by hbel [1, 3] (by decide) ?_⟩
          exact absT
        · rintro k F Hx ⟨rfl, rfl⟩ J hJ
          simp -implicitDefEqProofs (disch := omega) only [Int.lt_irrefl, simprocAttr, amset, tyset, Function.comp_apply, one1, lenV, calleeOf, lateOk, belowV, aop, AV.ofValue, AV.ofCell, AV.cells, AV.flat, AV.one, arep, aBin, aAppend, aConv]
          exact hQ _ _ (end_plain (.inl rfl) hbel (x := .agg [.int .i64 x, .int .i64 y, .sl none 0 (some 0)]) (resT Tryz.results336) rfl ⟨rfl, rfl⟩)
      · simp -implicitDefEqProofs (disch := omega) only [hnn, simprocAttr, amset, tyset, Function.comp_apply, one1, lenV, calleeOf, lateOk, belowV, aop, AV.ofValue, AV.ofCell, AV.cells, AV.flat, AV.one, arep, aBin, aAppend, aConv]
        refine call_of (by kernel_rfl) (sortz_a (l := L) (by rw [get_newk]; rfl) (fun e he => ⟨hdu e he, ?_⟩) rfl hL0 (by omega)) ?_
        · have := hdb e he
          unfold Bd at *
          omega
        rintro x1 H1 ⟨rfl, S, hp, hs, rfl⟩
        have hcan := hme S hp hs
        have hSl : L.length = S.length := hp.length_eq.symm
        have hSb : ∀ e ∈ S, Bd 4194304 e := fun e he => hdb e (hp.mem_iff.1 he)
        clear hme
        have hm40 : S.length ≤ 40 := by omega
        rw [hSl]
        generalize hm : S.length = m at *
        simp -implicitDefEqProofs (disch := omega) only [simprocAttr, amset, tyset, Function.comp_apply, one1, lenV, calleeOf, lateOk, belowV, aop, AV.ofValue, AV.ofCell, AV.cells, AV.flat, AV.one, arep, aBin, aAppend, aConv]
        refine go_loop try_mixed (by kernel_rfl) (fun k F Hx => ∃ (j : Nat) (s : AV) (X : ABlk), j + k = m ∧ OutP (H.length + 3) s X (mergeL (S.take j)) ∧
          F = [(2, .ptr (some (H.length, 0))), (6, .ptr (some (H.length + 2, 0))), (52, .sl (some (H.length + 1, 0)) m none), (53, .int .i64 m), (54, .int .i64 (j : Nat))] ∧
          Hx = H ++ [.cells true 0 [.int .i64 0, .int .i64 0, .sl none 0 (some 0)], .cells true 2 (prs S), .cells true 0 [.int .i64 x, .int .i64 y, s], X]) m ?_ ?_
        · refine ⟨_, _, _, ⟨0, _, _, by omega, .inl ⟨rfl, rfl, rfl⟩, rfl, rfl⟩, Abs.by hbel [1, 2, 3, 4] (by decide) ?_⟩
          exact absT
        · rintro k F Hx ⟨j, s, X, hjk, hO, rfl, rfl⟩ J hJ
          by_cases hj : j < S.length
          · have hjj : (j : Int) < (m : Int) := by omega
            have q0 := prs_load hj
            have hg : gp S j = S[j] := gp_eq hj
            have hgb := hSb S[j] (List.getElem_mem hj)
            rw [← hg] at hgb
            have hbd : -4194304 ≤ g1 S j ∧ g1 S j ≤ 4194304 ∧ -4194304 ≤ g2 S j ∧ g2 S j ≤ 4194304 := hgb
            have hst : mergeL (S.take (j + 1)) = mst (mergeL (S.take j)) (gp S j) := by rw [List.take_succ_eq_append_getElem hj, mergeL, List.foldl_append, hg]; rfl
            have hmb := mergeL_bd (M := 4194304) (by decide) (S := S.take j) (fun e he => hSb e (List.mem_of_mem_take he))
            have hml := mergeL_len (S.take j)
            rw [List.length_take] at hmb hml
            generalize mergeL (S.take j) = L at *
            have hLt : List.take (L.length * 2) (prs L) = prs L := List.take_of_length_le (by rw [prs_len]; omega)
            rcases hO with ⟨rfl, rfl, rfl⟩ | ⟨hL1, rfl, rfl⟩
            · have hneg : ¬ (0 : Int) ≤ 0 - 1 := by omega
              simp -implicitDefEqProofs (disch := omega) only [hjj, q0, hneg, simprocAttr, amset, tyset, Function.comp_apply, one1, lenV, calleeOf, lateOk, belowV, aop, AV.ofValue, AV.ofCell, AV.cells, AV.flat, AV.one, arep, aBin, aAppend, aConv]
              repeat refine And.intro (by omega) ?_
              refine hJ _ _ ⟨k - 1, by omega, _, [(2, .ptr (some (H.length, 0))), (6, .ptr (some (H.length + 2, 0))), (52, .sl (some (H.length + 1, 0)) m none), (53, .int .i64 m), (54, .int .i64 ((j + 1 : Nat) : Int))], H ++ [.cells true 0 [.int .i64 0, .int .i64 0, .sl none 0 (some 0)], .cells true 2 (prs S), .cells true 0 [.int .i64 x, .int .i64 y, .sl (some (H.length + 3, 0)) (0 + 1) none], .cells true 2 (prs [gp S j])], ⟨j + 1, .sl (some (H.length + 3, 0)) (0 + 1) none, .cells true 2 (prs [gp S j]), by omega, by rw [hst, mst_nil]; exact .inr ⟨by simp, rfl, rfl⟩, rfl, rfl⟩, Abs.by hbel [0, 1, 2, 6] (by decide) ?_⟩
              exact absT
            · obtain ⟨p, hp1⟩ : ∃ p, L.length = p + 1 := ⟨L.length - 1, by omega⟩
              have hpi : (L.length : Int) - 1 = (p : Int) := by omega
              have hpl : p < L.length := by omega
              have hp0 : (0 : Int) ≤ (p : Int) := by omega
              have hgk : gp L p = L[p] := gp_eq hpl
              have hkb := hmb L[p] (List.getElem_mem hpl)
              rw [← hgk] at hkb
              have hkb2 : Bd 268435456 (gp L p) := by
                have : ((S.take j).length : Int) * 4194304 ≤ 40 * 4194304 := Int.mul_le_mul_of_nonneg_right (by rw [List.length_take]; omega) (by decide)
                unfold Bd at *
                omega
              have hkbd : -268435456 ≤ g1 L p ∧ g1 L p ≤ 268435456 ∧ -268435456 ≤ g2 L p ∧ g2 L p ≤ 268435456 := hkb2
              have hgb2 : Bd 268435456 (gp S j) := by unfold Bd at *; omega
              have q1 := prs_load hpl
              have hms := mst_pos (g := gp S j) hp1
              simp -implicitDefEqProofs (disch := omega) only [hjj, q0, hpi, q1, hp0, simprocAttr, amset, tyset, Function.comp_apply, one1, lenV, calleeOf, lateOk, belowV, aop, AV.ofValue, AV.ofCell, AV.cells, AV.flat, AV.one, arep, aBin, aAppend, aConv]
              repeat refine And.intro (by omega) ?_
              refine call_d (by kernel_rfl) (cross_c _ (gp L p) (gp S j) hkb2 hgb2) ?_
              cases hc : (crs (gp L p) (gp S j) == 0)
              · rw [if_neg (beq_eq_false_iff_ne.1 hc)] at hms
                simp -implicitDefEqProofs (disch := omega) only [hc, prs_snoc, hLt, q1, q0, simprocAttr, amset, tyset, Function.comp_apply, one1, lenV, calleeOf, lateOk, belowV, aop, AV.ofValue, AV.ofCell, AV.cells, AV.flat, AV.one, arep, aBin, aAppend, aConv]
                repeat refine And.intro (by omega) ?_
                refine hJ _ _ ⟨k - 1, by omega, _, [(2, .ptr (some (H.length, 0))), (6, .ptr (some (H.length + 2, 0))), (52, .sl (some (H.length + 1, 0)) m none), (53, .int .i64 m), (54, .int .i64 ((j + 1 : Nat) : Int))], H ++ [.cells true 0 [.int .i64 0, .int .i64 0, .sl none 0 (some 0)], .cells true 2 (prs S), .cells true 0 [.int .i64 x, .int .i64 y, .sl (some (H.length + 3, 0)) (L.length + 1) none], .cells true 2 (prs (L ++ [gp S j]))], ⟨j + 1, .sl (some (H.length + 3, 0)) (L.length + 1) none, .cells true 2 (prs (L ++ [gp S j])), by omega, by rw [hst, hms]; exact .inr ⟨by simp, by simp, rfl⟩, rfl, rfl⟩, Abs.by hbel [0, 1, 2, 6] (by decide) ?_⟩
                exact absT
              · rw [if_pos (beq_iff_eq.1 hc)] at hms
                have q2 := prs_at0 hpl
                have q3 := prs_at1 hpl
                have q4 := prs_set0 (v := g1 L p + g1 S j) hpl
                have q5 := prs_at1 (l := L.set p (g1 L p + g1 S j, g2 L p)) (j := p) (by simpa using hpl)
                have q6 := prs_set1 (l := L.set p (g1 L p + g1 S j, g2 L p)) (j := p) (v := g2 L p + g2 S j) (by simpa using hpl)
                have q7 : g2 (L.set p (g1 L p + g1 S j, g2 L p)) p = g2 L p := by simp [g2, List.getD_eq_getElem?_getD, hpl]
                have q8 : g1 (L.set p (g1 L p + g1 S j, g2 L p)) p = g1 L p + g1 S j := by simp [g1, List.getD_eq_getElem?_getD, hpl]
                rw [List.set_set, q8] at q6
                rw [q7] at q5
                simp -implicitDefEqProofs (disch := omega) only [hc, q0, q1, q2, q3, q4, q5, q6, simprocAttr, amset, tyset, Function.comp_apply, one1, lenV, calleeOf, lateOk, belowV, aop, AV.ofValue, AV.ofCell, AV.cells, AV.flat, AV.one, arep, aBin, aAppend, aConv]
                repeat refine And.intro (by omega) ?_
                refine hJ _ _ ⟨k - 1, by omega, _, [(2, .ptr (some (H.length, 0))), (6, .ptr (some (H.length + 2, 0))), (52, .sl (some (H.length + 1, 0)) m none), (53, .int .i64 m), (54, .int .i64 ((j + 1 : Nat) : Int))], H ++ [.cells true 0 [.int .i64 0, .int .i64 0, .sl none 0 (some 0)], .cells true 2 (prs S), .cells true 0 [.int .i64 x, .int .i64 y, .sl (some (H.length + 3, 0)) L.length none], .cells true 2 (prs (L.set p (padd (gp L p) (gp S j))))], ⟨j + 1, .sl (some (H.length + 3, 0)) L.length none, .cells true 2 (prs (L.set p (padd (gp L p) (gp S j)))), by omega, by rw [hst, hms]; exact .inr ⟨by simpa using hL1, by simp, rfl⟩, rfl, rfl⟩, Abs.by hbel [0, 1, 2, 3] (by decide) ?_⟩
                exact absT
          · have hnn : ¬ ((j : Int) < (m : Int)) := by omega
            rw [List.take_of_length_le (by omega), hcan] at hO
            rcases hO with ⟨h, rfl, rfl⟩ | ⟨h, rfl, rfl⟩
            · rw [h, retP_nil] at hQ
              simp -implicitDefEqProofs (disch := omega) only [hnn, simprocAttr, amset, tyset, Function.comp_apply, one1, lenV, calleeOf, lateOk, belowV, aop, AV.ofValue, AV.ofCell, AV.cells, AV.flat, AV.one, arep, aBin, aAppend, aConv]
              exact hQ _ _ (end_plain (.inl rfl) hbel (x := .agg [.int .i64 x, .int .i64 y, .sl none 0 (some 0)]) (resT Tryz.results336) rfl ⟨rfl, rfl⟩)
            · rw [retP_pos h] at hQ
              simp -implicitDefEqProofs (disch := omega) only [hnn, simprocAttr, amset, tyset, Function.comp_apply, one1, lenV, calleeOf, lateOk, belowV, aop, AV.ofValue, AV.ofCell, AV.cells, AV.flat, AV.one, arep, aBin, aAppend, aConv]
              refine hQ _ _ (end_by (.inl rfl) hbel (x1 := .agg [.int .i64 x, .int .i64 y, .sl (some (H.length + 3, 0)) (canonL l).length none]) (.agg [.int .i64 x, .int .i64 y, .sl (some (H.length, 0)) (canonL l).length none]) (resT Tryz.results336) [3] (by decide) ⟨rfl, rfl⟩ ?_)
              exact absT
open Go.RowKit
open Go.RowKit
theorem pst_bd {A B : Int} (hA : 0 ≤ A) (hB : 0 ≤ B) {g x : Pt} {st : List Pt × Bool} (h : ∀ e ∈ st.1, Bd (A + B) e) (hx : Bd A x) (hg : Bd B g) : ∀ e ∈ (pst g st x).1, Bd (A + B) e := by
  have hx' : Bd (A + B) x := by unfold Bd at *; omega
  have hg' : Bd (A + B) g := by unfold Bd at *; omega
  have hp : Bd (A + B) (padd x g) := by unfold Bd padd at *; simp only; omega
  unfold pst
  split
  · intro e he
    simp only [List.mem_append, List.mem_singleton] at he
    rcases he with he | rfl
    · exact h e he
    · exact hp
  · split
    · intro e he
      simp only [List.mem_append, List.mem_cons, List.not_mem_nil, or_false] at he
      rcases he with he | rfl | rfl
      · exact h e he
      · exact hg'
      · exact hx'
    · intro e he
      simp only [List.mem_append, List.mem_singleton] at he
      rcases he with he | rfl
      · exact h e he
      · exact hx'
theorem putC_bd {A B : Int} (hA : 0 ≤ A) (hB : 0 ≤ B) {g : Pt} {C : List Pt} (hC : ∀ e ∈ C, Bd A e) (hg : Bd B g) : ∀ e ∈ putC C g, Bd (A + B) e := by
  have gen : ∀ (D : List Pt) (st : List Pt × Bool), (∀ e ∈ D, Bd A e) → (∀ e ∈ st.1, Bd (A + B) e) → ∀ e ∈ (D.foldl (pst g) st).1, Bd (A + B) e := fun D => by
    induction D with
    | nil => intro st _ h; exact h
    | cons d D ih =>
      intro st hD h
      rw [List.foldl_cons]
      exact ih _ (fun e he => hD e (by simp [he])) (pst_bd hA hB h (hD d (by simp)) hg)
  have h1 := gen C ([], false) hC (by simp)
  have hg' : Bd (A + B) g := by unfold Bd at *; omega
  unfold putC
  simp only
  split
  · exact h1
  · intro e he
    simp only [List.mem_append, List.mem_singleton] at he
    rcases he with he | rfl
    · exact h1 e he
    · exact hg'
theorem canonL_snoc (l : List Pt) (g : Pt) : canonL (l ++ [g]) = putL (canonL l) g := by unfold canonL; rw [List.foldl_append]; rfl
theorem canonL_bd {M : Int} (hM : 0 ≤ M) {l : List Pt} (h : ∀ e ∈ l, Bd M e) : ∀ e ∈ canonL l, Bd (l.length * M) e := by
  revert h
  refine snoc_ind (P := fun l => (∀ e ∈ l, Bd M e) → ∀ e ∈ canonL l, Bd (l.length * M) e) (fun _ => by simp [canonL]) (fun l g ih h => ?_) l
  have ih := ih fun e he => h e (by simp [he])
  have hg := nrm_bd (h g (by simp))
  have e1 : ((l ++ [g]).length : Int) * M = l.length * M + M := by
    rw [List.length_append, Int.natCast_add, Int.add_mul]; simp
  have e2 : 0 ≤ (l.length : Int) * M := Int.mul_nonneg (by omega) hM
  rw [canonL_snoc, e1]
  unfold putL
  split
  · intro e he
    have := ih e he
    unfold Bd at *; omega
  · exact putC_bd e2 hM ih hg
theorem putC_len {C : List Pt} {g : Pt} (hg : up g) (hs : C.Pairwise fun a b => 0 < crs a b) (hu : ∀ e ∈ C, up e) : (putC C g).length ≤ C.length + 1 ∧ 0 < (putC C g).length := by
  rcases split_at hg C hs hu with ⟨A, B, rfl, h1, h2⟩ | ⟨A, e, B, rfl, h1, h0, h2⟩
  · rw [putC_none h1 h2]; simp; omega
  · rw [putC_some h1 h0 h2]; simp; omega
theorem canonL_len (l : List Pt) : (canonL l).length ≤ l.length := by
  refine snoc_ind (P := fun l => (canonL l).length ≤ l.length) (by simp [canonL]) (fun l g h => ?_) l
  rw [canonL_snoc, List.length_append, List.length_singleton]
  unfold putL
  split
  · omega
  · rename_i h0
    have hc := canonL_can l
    have := (putC_len (nrm_up h0) hc.sorted hc.ups).1
    omega
open Go.RowKit
open Go.RowKit
theorem within_iff {x m : Int} : within x m = true ↔ -m ≤ x ∧ x ≤ m := by unfold within; simp
def far4 (a b c d : Int) : Bool := within a 2097152 && within b 2097152 && within c 2097152 && within d 2097152
theorem far4_any (a b c d : Int) : (!([a, b, c, d] : List Int).any farB) = far4 a b c d := by
  simp only [List.any_cons, List.any_nil, farB, nearB, far4]
  cases within a 2097152 <;> cases within b 2097152 <;> cases within c 2097152 <;> cases within d 2097152 <;> rfl
theorem far4_bd {a b c d : Int} (h : far4 a b c d = true) : (-2097152 ≤ a ∧ a ≤ 2097152) ∧ (-2097152 ≤ b ∧ b ≤ 2097152) ∧ (-2097152 ≤ c ∧ c ≤ 2097152) ∧ (-2097152 ≤ d ∧ d ≤ 2097152) := by
  unfold far4 at h
  simp only [Bool.and_eq_true, within_iff] at h
  exact ⟨h.1.1.1, h.1.1.2, h.1.2, h.2⟩
/-- The error of OfRect. -/
def rectE (x0 y0 x1 y1 : Int) : Int := if far4 x0 y0 x1 y1 = true ∧ x0 ≤ x1 ∧ y0 ≤ y1 ∧ x1 - x0 ≤ 65536 ∧ y1 - y0 ≤ 65536 then 0 else 1
def segE (x0 y0 x1 y1 : Int) : Int := if far4 x0 y0 x1 y1 = true ∧ within (x0 - x1) 65536 = true ∧ within (y0 - y1) 65536 = true then 0 else 1
theorem rectE_bad {x0 y0 x1 y1 : Int} (h : ¬ (far4 x0 y0 x1 y1 = true ∧ x0 ≤ x1 ∧ y0 ≤ y1 ∧ x1 - x0 ≤ 65536 ∧ y1 - y0 ≤ 65536)) : rectE x0 y0 x1 y1 = 1 := if_neg h
/-- A zonogon handed back. -/
def zR (H : AHeap) (x y : Int) (L : List Pt) : AV × AHeap := (.agg [.int .i64 x, .int .i64 y, (retP H L).1], (retP H L).2)
theorem zR_nil {H : AHeap} {x y : Int} : zR H x y [] = (.agg [.int .i64 x, .int .i64 y, .sl none 0 (some 0)], H) := rfl
theorem zR_pos {H : AHeap} {x y : Int} {L : List Pt} (h : 0 < L.length) : zR H x y L = (.agg [.int .i64 x, .int .i64 y, .sl (some (H.length, 0)) L.length none], H ++ [.cells true 2 (prs L)]) := by unfold zR; rw [retP_pos h]
set_option maxRecDepth 100000 in
theorem canonical0_c (H : AHeap) (x y : Int) : ACalls Tryz.prog 336 [.agg [.int .i64 x, .int .i64 y, .sl none 0 (some 0)]] H (fun v H' => v = .agg [.int .i64 x, .int .i64 y, .sl none 0 (some 0)] ∧ H' = H) := by
  (refine ACalls_run try_mixed Tryz.func336 true _ rfl (Nat.le_of_ble_eq_true (by kernel_rfl)) (by kernel_rfl) ?_; intro hbel Q hQ hQ' c hc; unfold Tryz.f336 at hc; simp only [Option.some.injEq] at hc; subst hc; clear hQ')
  simp -implicitDefEqProofs (disch := omega) only [simprocAttr, amset, tyset, Function.comp_apply, one1, lenV, calleeOf, lateOk, belowV, aop, AV.ofValue, AV.ofCell, AV.cells, AV.flat, AV.one, arep, aBin, aAppend, aConv]
  refine go_loop try_mixed (by kernel_rfl) (fun k F Hx => F = [(1, .ptr (some (H.length, 0))), (2, .ptr (some (H.length + 1, 0))), (3, .sl none 0 (some 0)), (12, .int .i64 0), (13, .int .i64 0)] ∧ Hx = H ++ [.cells true 0 [.int .i64 x, .int .i64 y, .sl none 0 (some 0)], .cells true 0 [.int .i64 0, .int .i64 0, .sl none 0 (some 0)]]) 1 ?_ ?_
  · refine ⟨_, _, _, ⟨rfl, rfl⟩, Abs.by hbel [0, 1] (by decide) ?_⟩
    exact absT
  · rintro k F Hx ⟨rfl, rfl⟩ J hJ
    simp -implicitDefEqProofs (disch := omega) only [Int.lt_irrefl, simprocAttr, amset, tyset, Function.comp_apply, one1, lenV, calleeOf, lateOk, belowV, aop, AV.ofValue, AV.ofCell, AV.cells, AV.flat, AV.one, arep, aBin, aAppend, aConv]
    refine call_v (by kernel_rfl) (sortnil_c _) ?_
    simp -implicitDefEqProofs (disch := omega) only [simprocAttr, amset, tyset, Function.comp_apply, one1, lenV, calleeOf, lateOk, belowV, aop, AV.ofValue, AV.ofCell, AV.cells, AV.flat, AV.one, arep, aBin, aAppend, aConv]
    refine go_loop try_mixed (by kernel_rfl) (fun k F Hx => F = [(2, .ptr (some (H.length, 0))), (6, .ptr (some (H.length + 1, 0))), (53, .int .i64 0), (54, .int .i64 0)] ∧ Hx = H ++ [.cells true 0 [.int .i64 0, .int .i64 0, .sl none 0 (some 0)], .cells true 0 [.int .i64 x, .int .i64 y, .sl none 0 (some 0)]]) 1 ?_ ?_
    · refine ⟨_, _, _, ⟨rfl, rfl⟩, Abs.by hbel [1, 2] (by decide) ?_⟩
      exact absT
    · rintro k F Hx ⟨rfl, rfl⟩ J hJ
      simp -implicitDefEqProofs (disch := omega) only [Int.lt_irrefl, simprocAttr, amset, tyset, Function.comp_apply, one1, lenV, calleeOf, lateOk, belowV, aop, AV.ofValue, AV.ofCell, AV.cells, AV.flat, AV.one, arep, aBin, aAppend, aConv]
      exact hQ _ _ (end_plain (.inl rfl) hbel (x := .agg [.int .i64 x, .int .i64 y, .sl none 0 (some 0)]) (resT Tryz.results336) rfl ⟨rfl, rfl⟩)
theorem canonical_a (H : AHeap) (x y : Int) (s : AV) (l : List Pt) (hs : IsP H s l) (hl : l.length ≤ 40) (hB : ∀ e ∈ l, Bd 4194304 e) :
    ACalls Tryz.prog 336 [.agg [.int .i64 x, .int .i64 y, s]] H (fun v H' => v = (zR H x y (canonL l)).1 ∧ H' = (zR H x y (canonL l)).2) := by
  rcases hs with ⟨rfl, rfl⟩ | ⟨b, own, cap, rfl, hb⟩
  · exact canonical0_c H x y
  · exact canonical_c H x y b own cap l hb hl hB
theorem valid_bd {x y : Int} {l : List Pt} (h : validB x y l = true) : l.length ≤ 16 ∧ ∀ e ∈ l, Bd 65536 e := by
  unfold validB at h
  simp only [Bool.and_eq_true, decide_eq_true_eq, Bool.not_eq_true'] at h
  refine ⟨h.1.2, fun e he => ?_⟩
  have := List.any_eq_false.1 h.2 e he
  simp only [wrongB, Bool.not_eq_true', Bool.not_eq_false, Bool.and_eq_true, within_iff] at this
  exact ⟨this.1.1, this.1.2, this.2.1, this.2.2⟩
open Go.RowKit
def dotP (n g : Pt) : Int := n.1 * g.1 + n.2 * g.2
def spr (n : Pt) : List Pt → Int
  | [] => 0
  | g :: l => absI (dotP n g) + spr n l
theorem spr_app (n : Pt) : ∀ l m : List Pt, spr n (l ++ m) = spr n l + spr n m
  | [], m => by simp [spr]
  | g :: l, m => by simp only [List.cons_append, spr, spr_app n l m]; omega
theorem absI_bd {x M : Int} (h : -M ≤ x ∧ x ≤ M) : 0 ≤ absI x ∧ absI x ≤ M := by unfold absI; split <;> omega
theorem dotP_bd {a b : Pt} {A B : Int} (h1 : Bd A a) (h2 : Bd B b) : (-(A * B) ≤ a.1 * b.1 ∧ a.1 * b.1 ≤ A * B) ∧ (-(A * B) ≤ a.2 * b.2 ∧ a.2 * b.2 ≤ A * B) :=
  ⟨mul_bd ⟨h1.1, h1.2.1⟩ ⟨h2.1, h2.2.1⟩, mul_bd ⟨h1.2.2.1, h1.2.2.2⟩ ⟨h2.2.2.1, h2.2.2.2⟩⟩
theorem spr_bd {n : Pt} (hn : Bd 268435456 n) : ∀ l : List Pt, (∀ e ∈ l, Bd 268435456 e) → 0 ≤ spr n l ∧ spr n l ≤ l.length * 144115188075855872
  | [], _ => by simp [spr]
  | g :: l, h => by
    have ih := spr_bd hn l fun e he => h e (by simp [he])
    have hd := dotP_bd hn (h g (by simp))
    have ha := absI_bd (x := dotP n g) (M := 144115188075855872) (by unfold dotP; omega)
    simp only [spr, List.length_cons, Int.natCast_add]
    omega
set_option maxRecDepth 100000 in
theorem spread_c (H : AHeap) (s : AV) (l : List Pt) (n : Pt) (hs : IsP H s l) (hl : l.length ≤ 40) (hB : ∀ e ∈ l, Bd 268435456 e) (hn : Bd 268435456 n) : ACalls Tryz.prog 344 [s, pv n] H (fun v H' => v = .int .i64 (spr n l) ∧ H' = H) := by
  rcases hs with ⟨rfl, rfl⟩ | ⟨b, own, cap, rfl, hb⟩
  · (refine ACalls_run try_mixed Tryz.func344 true _ rfl (Nat.le_of_ble_eq_true (by kernel_rfl)) (by kernel_rfl) ?_; intro hbel Q hQ hQ' c hc; unfold Tryz.f344 at hc; simp only [Option.some.injEq] at hc; subst hc; clear hQ')
    simp -implicitDefEqProofs (disch := omega) only [simprocAttr, amset, tyset, Function.comp_apply, one1, lenV, calleeOf, lateOk, belowV, aop, AV.ofValue, AV.ofCell, AV.cells, AV.flat, AV.one, arep, aBin, aAppend, aConv]
    refine go_loop try_mixed (by kernel_rfl) (fun k F Hx => F = [(5, .int .i64 0), (9, .int .i64 0), (10, .int .i64 0)] ∧ Hx = H) 1 ?_ ?_
    · refine ⟨_, _, _, ⟨rfl, (List.append_nil H).symm ▸ rfl⟩, Abs.by (l2 := []) hbel [] (by decide) ?_⟩
      exact absT
    · rintro k F Hx ⟨rfl, rfl⟩ J hJ
      simp -implicitDefEqProofs (disch := omega) only [Int.lt_irrefl, simprocAttr, amset, tyset, Function.comp_apply, one1, lenV, calleeOf, lateOk, belowV, aop, AV.ofValue, AV.ofCell, AV.cells, AV.flat, AV.one, arep, aBin, aAppend, aConv]
      exact hQ _ _ (end_plain0 (.inl rfl) hbel (x := .int .i64 0) (resT Tryz.results344) rfl ⟨rfl, rfl⟩)
  have hbl := getElem?_lt hb
  have hb0 := fun l => get_app (l := l) hb
  generalize hm : l.length = m at *
  (refine ACalls_run try_mixed Tryz.func344 true _ rfl (Nat.le_of_ble_eq_true (by kernel_rfl)) (by kernel_rfl) ?_; intro hbel Q hQ hQ' c hc; unfold Tryz.f344 at hc; simp only [Option.some.injEq] at hc; subst hc; clear hQ')
  simp -implicitDefEqProofs (disch := omega) only [simprocAttr, amset, tyset, Function.comp_apply, one1, lenV, calleeOf, lateOk, belowV, aop, AV.ofValue, AV.ofCell, AV.cells, AV.flat, AV.one, arep, aBin, aAppend, aConv]
  refine go_loop try_mixed (by kernel_rfl) (fun k F Hx => ∃ i : Nat, i + k = m ∧ F = [(3, .ptr (some (H.length, 0))), (5, .int .i64 (spr n (l.take i))), (8, .sl (some (b, 0)) m none), (9, .int .i64 m), (10, .int .i64 (i : Nat))] ∧ Hx = H ++ [.cells true 0 [.int .i64 n.1, .int .i64 n.2]]) m ?_ ?_
  · refine ⟨_, _, _, ⟨0, by omega, rfl, rfl⟩, Abs.by hbel [0] (by decide) ?_⟩
    exact absT
  · rintro k F Hx ⟨i, hik, rfl, rfl⟩ J hJ
    by_cases hi : i < l.length
    · have hii : (i : Int) < (m : Int) := by omega
      have q0 := prs_load hi
      have hg : gp l i = l[i] := gp_eq hi
      have hgb := hB l[i] (List.getElem_mem hi)
      rw [← hg] at hgb
      have hd := dotP_bd hn hgb
      have hsb := spr_bd hn (l.take i) fun e he => hB e (List.mem_of_mem_take he)
      have hsl : ((l.take i).length : Int) * 144115188075855872 ≤ 39 * 144115188075855872 := Int.mul_le_mul_of_nonneg_right (by rw [List.length_take]; omega) (by decide)
      have ha := absI_bd (x := dotP n (gp l i)) (M := 144115188075855872) (by unfold dotP; omega)
      have hst : spr n (l.take (i + 1)) = spr n (l.take i) + absI (dotP n (gp l i)) := by rw [List.take_succ_eq_append_getElem hi, spr_app, hg]; simp [spr]
      have hdd : n.1 * g1 l i + n.2 * g2 l i = dotP n (gp l i) := rfl
      have hd2 : (-(268435456 * 268435456) ≤ n.1 * g1 l i ∧ n.1 * g1 l i ≤ 268435456 * 268435456) ∧ (-(268435456 * 268435456) ≤ n.2 * g2 l i ∧ n.2 * g2 l i ≤ 268435456 * 268435456) := hd
      simp -implicitDefEqProofs (disch := omega) only [hii, hb0, q0, simprocAttr, amset, tyset, Function.comp_apply, one1, lenV, calleeOf, lateOk, belowV, aop, AV.ofValue, AV.ofCell, AV.cells, AV.flat, AV.one, arep, aBin, aAppend, aConv]
      repeat refine And.intro (by omega) ?_
      refine call_v (by kernel_rfl) (abs_c _ _ (by omega)) ?_
      rw [hdd]
      simp -implicitDefEqProofs (disch := omega) only [simprocAttr, amset, tyset, Function.comp_apply, one1, lenV, calleeOf, lateOk, belowV, aop, AV.ofValue, AV.ofCell, AV.cells, AV.flat, AV.one, arep, aBin, aAppend, aConv]
      repeat refine And.intro (by omega) ?_
      refine hJ _ _ ⟨k - 1, by omega, _, _, _, ⟨i + 1, by omega, rfl, rfl⟩, Abs.by hbel [0] (by decide) ?_⟩
      rw [hst]
      exact absT
    · have hnn : ¬ ((i : Int) < (m : Int)) := by omega
      simp -implicitDefEqProofs (disch := omega) only [hnn, simprocAttr, amset, tyset, Function.comp_apply, one1, lenV, calleeOf, lateOk, belowV, aop, AV.ofValue, AV.ofCell, AV.cells, AV.flat, AV.one, arep, aBin, aAppend, aConv]
      exact hQ _ _ (end_plain (.inl rfl) hbel (x := .int .i64 (spr n (l.take i))) (resT Tryz.results344) rfl ⟨by rw [List.take_of_length_le (by omega)], rfl⟩)
set_option maxRecDepth 100000 in
theorem clone_c (H : AHeap) (s : AV) (l : List Pt) (hs : IsP H s l) (hl : l.length ≤ 1000000) (h0 : 0 < l.length) : ACalls Tryz.prog 342 [s] H (fun v H' => v = .sl (some (H.length, 0)) l.length none ∧ H' = H ++ [.cells true 2 (prs l)]) := by
  obtain ⟨b, own, cap, rfl, hb⟩ := hs.pos h0
  have hbl := getElem?_lt hb
  have hb0 := fun l => get_app (l := l) hb
  generalize hm : l.length = m at *
  (refine ACalls_run try_mixed Tryz.func342 true _ rfl (Nat.le_of_ble_eq_true (by kernel_rfl)) (by kernel_rfl) ?_; intro hbel Q hQ hQ' c hc; unfold Tryz.f342 at hc; simp only [Option.some.injEq] at hc; subst hc; clear hQ')
  have htk : List.take (m * 2) (prs l) = prs l := List.take_of_length_le (by rw [prs_len]; omega)
  have hm0 : (m == 0) = false := beq_eq_false_iff_ne.2 (by omega)
  have hm1 : (m != 0) = true := bne_iff_ne.2 (by omega)
  simp -implicitDefEqProofs (disch := omega) only [hb, hb0, Option.isNone_some, hm0, h0, htk, nilKnown, hm1, simprocAttr, amset, tyset, Function.comp_apply, one1, lenV, calleeOf, lateOk, belowV, aop, AV.ofValue, AV.ofCell, AV.cells, AV.flat, AV.one, arep, aBin, aAppend, aConv]
  repeat refine And.intro (by omega) ?_
  refine hQ _ _ (end_by (.inl rfl) hbel (x1 := .sl (some (H.length + 1, 0)) m none) (.sl (some (H.length, 0)) m none) (resT Tryz.results342) [1] (by decide) ⟨rfl, rfl⟩ ?_)
  exact absT
theorem clonenil_c (H : AHeap) : ACalls Tryz.prog 342 [.sl none 0 (some 0)] H (fun v H' => v = .sl none 0 (some 0) ∧ H' = H) := by
  (refine ACalls_run try_mixed Tryz.func342 true _ rfl (Nat.le_of_ble_eq_true (by kernel_rfl)) (by kernel_rfl) ?_; intro hbel Q hQ hQ' c hc; unfold Tryz.f342 at hc; simp only [Option.some.injEq] at hc; subst hc; clear hQ')
  simp -implicitDefEqProofs (disch := omega) only [Option.isNone_none, nilKnown, simprocAttr, amset, tyset, Function.comp_apply, one1, lenV, calleeOf, lateOk, belowV, aop, AV.ofValue, AV.ofCell, AV.cells, AV.flat, AV.one, arep, aBin, aAppend, aConv]
  exact hQ _ _ (end_plain0 (.inl rfl) hbel (x := .sl none 0 (some 0)) (resT Tryz.results342) rfl ⟨rfl, rfl⟩)
theorem clone0_c (H : AHeap) (b : Nat) (hb : H[b]? = some (.cells false 2 [])) : ACalls Tryz.prog 342 [.sl (some (b, 1)) 0 (some 0)] H (fun v H' => v = .sl (some (H.length, 0)) 0 (some 0) ∧ H' = H ++ [.cells true 2 []]) := by
  have hb0 := fun l => get_app (l := l) hb
  have hbl := getElem?_lt hb
  (refine ACalls_run try_mixed Tryz.func342 true _ rfl (Nat.le_of_ble_eq_true (by kernel_rfl)) (by kernel_rfl) ?_; intro hbel Q hQ hQ' c hc; unfold Tryz.f342 at hc; simp only [Option.some.injEq] at hc; subst hc; clear hQ')
  have hk : nilKnown (some (b, 1)) 0 (some 0) = true := rfl
  simp -implicitDefEqProofs (disch := omega) only [hb, hb0, Option.isNone_some, hk, simprocAttr, amset, tyset, Function.comp_apply, one1, lenV, calleeOf, lateOk, belowV, aop, AV.ofValue, AV.ofCell, AV.cells, AV.flat, AV.one, arep, aBin, aAppend, aConv]
  refine hQ _ _ (end_by (.inl rfl) hbel (x1 := .sl (some (H.length, 0)) 0 (some 0)) (.sl (some (H.length, 0)) 0 (some 0)) (resT Tryz.results342) [0] (by decide) ⟨rfl, rfl⟩ ?_)
  exact absT
theorem cloneempty_c (H : AHeap) (b : Nat) (cap : Option Nat) (own : Bool) (hb : H[b]? = some (.cells own 2 [])) : ACalls Tryz.prog 342 [.sl (some (b, 0)) 0 cap] H (fun v H' => v = .sl (some (H.length, 0)) 0 (some 0) ∧ H' = H ++ [.cells false 2 []]) := by
  have hb0 := fun l => get_app (l := l) hb
  have hbl := getElem?_lt hb
  refine ACalls.nilsplit (es := 2) (x := .sl (some (H.length + 1, 0)) 0 (some 0)) (l1 := [.cells false 2 [], .cells true 2 []]) ?_ (fun c hc => ?_) ?_ [] rfl [1] (by decide) ?_
  · refine (clonenil_c H).weak0 [.cells false 2 []] rfl [0] (by decide) _ _ ?_
    exact absT
  · have hc1 : (c != 0) = true := bne_iff_ne.2 (by omega)
    (refine ACalls_run try_mixed Tryz.func342 true _ rfl (Nat.le_of_ble_eq_true (by kernel_rfl)) (by kernel_rfl) ?_; intro hbel Q hQ hQ' c hc; unfold Tryz.f342 at hc; simp only [Option.some.injEq] at hc; subst hc; clear hQ')
    simp -implicitDefEqProofs (disch := omega) only [hb, hb0, Option.isNone_some, nilKnown, hc1, Nat.reduceBNe, simprocAttr, amset, tyset, Function.comp_apply, one1, lenV, calleeOf, lateOk, belowV, aop, AV.ofValue, AV.ofCell, AV.cells, AV.flat, AV.one, arep, aBin, aAppend, aConv]
    refine hQ _ _ (end_byG (.inl rfl) hbel (x1 := .sl (some (H.length, 0)) 0 (some 0)) (l2 := [.cells false 2 []]) (.sl (some (H.length, 0)) 0 (some 0)) (resT Tryz.results342) [] rfl [0] (by decide) ⟨rfl, rfl⟩ ?_)
    exact absT
  · have hh := clone0_c (H ++ [.cells false 2 []]) H.length (by rw [get_new0]; rfl)
    refine hh.mono fun y H1 ⟨h1, h2⟩ => ⟨by rw [h1]; simp, by rw [h2]; simp⟩
  · exact absT
open Go.RowKit
theorem valid_bd3 {x y : Int} {l : List Pt} (h : validB x y l = true) : (-8388608 ≤ x ∧ x ≤ 8388608) ∧ -8388608 ≤ y ∧ y ≤ 8388608 := by
  unfold validB at h
  simp only [Bool.and_eq_true, within_iff] at h
  exact ⟨h.1.1.1, h.1.1.2⟩
theorem canonical_u (H : AHeap) (x y : Int) (s : AV) (l : List Pt) (hs : IsP H s l) (hl : l.length ≤ 40) (hB : ∀ e ∈ l, Bd 4194304 e) :
    ACalls Tryz.prog 336 [.agg [.int .i64 x, .int .i64 y, s]] H (fun v H' => v = .agg [.int .i64 x, .int .i64 y, .sl (some (H.length, 0)) (canonL l).length (capG (canonL l).length)] ∧ H' = H ++ [.cells (ownG (canonL l).length) 2 (prs (canonL l))]) := by
  have h := canonical_a H x y s l hs hl hB
  rcases Nat.eq_zero_or_pos (canonL l).length with h0 | h0
  · rw [List.eq_nil_of_length_eq_zero h0] at h ⊢
    simp only [zR_nil] at h
    refine ACalls.weak0 h [.cells false 2 []] rfl [0] (by decide) _ _ ?_
    exact absTf (jn @List.length_nil.{0} (jn @capG_0 (jn @ownG_0 @prs_nil)))
  · rw [zR_pos h0] at h
    refine ACalls.weak h [] rfl [0] (by decide) _ _ ?_
    rw [capG_p h0, ownG_p h0]
    generalize canonL l = L
    exact absT
theorem bounds_c (H : AHeap) (x : Int) (y : Int) (s : AV) (l : List (Int × Int)) (hs : Sl H 2 s l.length (prs l)) (hv : validB x y l = true) : ACalls Tryz.prog 341 [.agg [.int .i64 x, .int .i64 y, s]] H (fun v H' => v = .agg [.int .i64 (x - spr (1, 0) l), .int .i64 (y - spr (0, 1) l), .int .i64 (x + spr (1, 0) l), .int .i64 (y + spr (0, 1) l)] ∧ H' = H) := by
  obtain ⟨bs, os, cs, rfl, hbs⟩ := hs
  have hbls := getElem?_lt hbs
  have hb0s := fun l => get_app (l := l) hbs
  obtain ⟨hl16, hlB⟩ := valid_bd hv
  have hxy := valid_bd3 hv
  have hB2 : ∀ e ∈ l, Bd 268435456 e := fun e he => by have := hlB e he; unfold Bd at *; omega
  have hB4 : ∀ e ∈ l, Bd 4194304 e := fun e he => by have := hlB e he; unfold Bd at *; omega
  have hs1 := spr_bd (n := (1, 0)) (by unfold Bd; simp) l hB2
  have hs2 := spr_bd (n := (0, 1)) (by unfold Bd; simp) l hB2
  refine AcT true Tryz.func341 ?_; intro hbel Q hQ
  have g'1 := (jn @hbs @hb0s)
  refine runTf g'1 ?_
  refine call_d (by kernel_rfl) (spread_c _ _ l (1, 0) (.inr ⟨_, _, _, rfl, by first | exact hb0s _ | exact hbs⟩) (by omega) (by assumption) (by first | assumption | (unfold Bd; simp only; omega) | (unfold Bd at *; simp only at *; omega) | (unfold Bd; simp; omega) | (unfold Bd; simp))) ?_
  refine runTf g'1 ?_
  refine call_d (by kernel_rfl) (spread_c _ _ l (0, 1) (.inr ⟨_, _, _, rfl, by first | exact hb0s _ | exact hbs⟩) (by omega) (by assumption) (by first | assumption | (unfold Bd; simp only; omega) | (unfold Bd at *; simp only at *; omega) | (unfold Bd; simp; omega) | (unfold Bd; simp))) ?_
  refine runTf g'1 ?_
  exact hQ _ _ (end_plain (.inl rfl) hbel (x := .agg [.int .i64 (x - (spr (1, 0) l)), .int .i64 (y - (spr (0, 1) l)), .int .i64 (x + (spr (1, 0) l)), .int .i64 (y + (spr (0, 1) l))]) (resT Tryz.results341) rfl ⟨by simp [true_and], rfl⟩)
def ifv (b : Bool) (v : Int) : Int := if b = true then v else 0
theorem Bounds_c (H : AHeap) (x : Int) (y : Int) (s : AV) (l : List (Int × Int)) (hs : Sl H 2 s l.length (prs l)) : ACalls Tryz.prog 272 [.agg [.int .i64 x, .int .i64 y, s]] H (fun v H' => v = .tup [.agg [.int .i64 (ifv (validB x y l) (x - spr (1, 0) l)), .int .i64 (ifv (validB x y l) (y - spr (0, 1) l)), .int .i64 (ifv (validB x y l) (x + spr (1, 0) l)), .int .i64 (ifv (validB x y l) (y + spr (0, 1) l))], .int .i64 (if validB x y l = true then 0 else 1)] ∧ H' = H) := by
  obtain ⟨bs, os, cs, rfl, hbs⟩ := hs
  have hbls := getElem?_lt hbs
  have hb0s := fun l => get_app (l := l) hbs
  refine AcT true Tryz.func272 ?_; intro hbel Q hQ
  have g'2 := (jn @hbs @hb0s)
  refine runTf g'2 ?_
  refine call_v (by kernel_rfl) (valid_c _ x y _ l (.inr ⟨_, _, _, rfl, by first | exact hb0s _ | exact hbs⟩)) ?_
  refine runTf g'2 ?_
  refine cond_split (fun h1 => ?_) (fun h1 => ?_)
  · have h1d := h1
    try simp only [Bool.not_eq_true', Bool.not_eq_false', decide_eq_true_eq, decide_eq_false_iff_not, beq_iff_eq, bne_iff_ne, ne_eq, Bool.not_eq_true, Bool.not_eq_false, beq_eq_false_iff_ne, bne_eq_false_iff_eq, Classical.not_not, Bool.and_eq_true, Bool.and_eq_false_imp] at h1d
    have g'3 := (jn @h1 (jn @h1d g'2))
    refine runTf g'3 ?_
    exact hQ _ _ (end_plain (.inl rfl) hbel (x := .tup [.agg [.int .i64 0, .int .i64 0, .int .i64 0, .int .i64 0], .int .i64 1]) (resT Tryz.results272) rfl ⟨by simp [ifv, h1d], rfl⟩)
  · have h1d := h1
    try simp only [Bool.not_eq_true', Bool.not_eq_false', decide_eq_true_eq, decide_eq_false_iff_not, beq_iff_eq, bne_iff_ne, ne_eq, Bool.not_eq_true, Bool.not_eq_false, beq_eq_false_iff_ne, bne_eq_false_iff_eq, Classical.not_not, Bool.and_eq_true, Bool.and_eq_false_imp] at h1d
    have g'4 := (jn @h1 (jn @h1d g'2))
    refine runTf g'4 ?_
    refine call_v (by kernel_rfl) (bounds_c _ x y _ l ⟨_, _, _, rfl, by first | exact hb0s _ | exact hbs⟩ (by assumption)) ?_
    refine runTf g'4 ?_
    exact hQ _ _ (end_plain (.inl rfl) hbel (x := .tup [.agg [.int .i64 (x - spr (1, 0) l), .int .i64 (y - spr (0, 1) l), .int .i64 (x + spr (1, 0) l), .int .i64 (y + spr (0, 1) l)], .int .i64 0]) (resT Tryz.results272) rfl ⟨by simp [ifv, h1d], rfl⟩)
theorem gpb {M : Int} {l : List Pt} (h : ∀ e ∈ l, Bd M e) {i : Nat} (hi : i < l.length) : -M ≤ g1 l i ∧ g1 l i ≤ M ∧ -M ≤ g2 l i ∧ g2 l i ≤ M := by
  have := h l[i] (List.getElem_mem hi)
  rw [← gp_eq hi] at this
  exact this
open Go.RowKit
/-- The directions that are tried. -/
def nrmls (L : List Pt) : List Pt := [(1, 0), (0, 1)] ++ L.flatMap fun g => [(0 - g.2, g.1), g]
/-- A direction in which d is beyond the sum. -/
def beyond (L : List Pt) (d n : Pt) : Bool := decide (spr n L < absI (dotP n d))
def apartB (x y : Int) (l : List Pt) (x0 y0 x1 y1 : Int) : Bool :=
  validB x y l && (far4 x0 y0 x1 y1 && decide (x0 ≤ x1 ∧ y0 ≤ y1) && (nrmls (canonL (l ++ [(x1 - x0, 0), (0, y1 - y0)]))).any (beyond (canonL (l ++ [(x1 - x0, 0), (0, y1 - y0)])) (x0 + x1 - x, y0 + y1 - y)))
theorem nrmls_step {L : List Pt} {i : Nat} (h : i < L.length) : nrmls (L.take (i + 1)) = nrmls (L.take i) ++ [(0 - g2 L i, g1 L i), (g1 L i, g2 L i)] := by
  unfold nrmls
  rw [List.take_succ_eq_append_getElem h, List.flatMap_append, ← gp_eq h, List.append_assoc]
  simp [gp]
theorem nrmls_len (L : List Pt) : (nrmls L).length = 2 + 2 * L.length := by
  unfold nrmls
  rw [List.length_append]
  have : ∀ l : List Pt, (l.flatMap fun g => [(0 - g.2, g.1), g]).length = 2 * l.length := fun l => by
    induction l with
    | nil => rfl
    | cons g l ih => rw [List.flatMap_cons, List.length_append, ih]; simp; omega
  rw [this]; rfl
theorem nrmls_bd {M : Int} (hM : 1 ≤ M) {L : List Pt} (h : ∀ e ∈ L, Bd M e) : ∀ e ∈ nrmls L, Bd M e := fun e he => by
  unfold nrmls at he
  simp only [List.mem_append, List.mem_cons, List.not_mem_nil, or_false, List.mem_flatMap] at he
  rcases he with (rfl | rfl) | ⟨g, hg, rfl | rfl⟩
  · unfold Bd; simp only; omega
  · unfold Bd; simp only; omega
  · have := h g hg; unfold Bd at *; simp only; omega
  · exact h _ hg
theorem any_gp {p : Pt → Bool} {N : List Pt} {j : Nat} (hj : j < N.length) (h : p (gp N j) = true) : N.any p = true := List.any_eq_true.2 ⟨N[j], List.getElem_mem hj, by rw [← gp_eq hj]; exact h⟩
theorem nrmls_nil : nrmls [] = [(1, 0), (0, 1)] := rfl
open Go.RowKit
open Go.RowKit
/-- The first corner. -/
def cor0 (x y : Int) (l : List Pt) : Nat → Pt
  | 0 => (x, y)
  | i + 1 => ((cor0 x y l i).1 - g1 l i, (cor0 x y l i).2 - g2 l i)
/-- The reference's steps. -/
def stp (l : List Pt) (i : Nat) : Pt := if l.length ≤ i then (-g1 l (i % l.length), -g2 l (i % l.length)) else (g1 l (i % l.length), g2 l (i % l.length))
def rcp (l : List Pt) (p : Pt) : Nat → Pt
  | 0 => p
  | i + 1 => ((rcp l p i).1 + 2 * (stp l i).1, (rcp l p i).2 + 2 * (stp l i).2)
def rco (l : List Pt) (p : Pt) : Nat → List Pt
  | 0 => [p]
  | i + 1 => rco l p i ++ [((rcp l p i).1 + 2 * (stp l i).1, (rcp l p i).2 + 2 * (stp l i).2)]
/-- The corners, by the reference. -/
def corR (x y : Int) (l : List Pt) : List Pt := rco l (cor0 x y l l.length) (2 * l.length - 1)
theorem rco_len (l : List Pt) (p : Pt) : ∀ i, (rco l p i).length = i + 1
  | 0 => rfl
  | i + 1 => by simp [rco, rco_len l p i]
open Go.RowKit
theorem absI_neg (x : Int) : absI (-x) = absI x := by unfold absI; split <;> split <;> omega
theorem absI_le {x M : Int} : absI x ≤ M ↔ -M ≤ x ∧ x ≤ M := by unfold absI; split <;> omega
theorem absI_nn (x : Int) : 0 ≤ absI x := by unfold absI; split <;> omega
theorem absI_of_nn {x : Int} (h : 0 ≤ x) : absI x = x := by unfold absI; split <;> omega
theorem absI_of_np {x : Int} (h : x ≤ 0) : absI x = -x := by unfold absI; split <;> omega
theorem absI_zero : absI 0 = 0 := rfl
theorem dotP_add (n g h : Pt) : dotP n (padd g h) = dotP n g + dotP n h := by unfold dotP padd; simp only [Int.mul_add]; omega
theorem dotP_neg (n g : Pt) : dotP n (-g.1, -g.2) = -dotP n g := by unfold dotP; simp only [Int.mul_neg]; omega
theorem dotP_negl (n g : Pt) : dotP (-n.1, -n.2) g = -dotP n g := by unfold dotP; simp only [Int.neg_mul]; omega
theorem dotP_zero (n : Pt) : dotP n (0, 0) = 0 := by unfold dotP; simp
theorem par_pos {g h : Pt} (hg : up g) (hh : up h) (h0 : crs g h = 0) : ∃ a b : Int, 0 < a ∧ 0 < b ∧ a * h.1 = b * g.1 ∧ a * h.2 = b * g.2 := by
  unfold crs at h0
  have e1 : g.1 * h.2 = g.2 * h.1 := by omega
  rcases Int.lt_or_eq_of_le (up_y hg) with g2 | g2
  · have h2 : 0 < h.2 := by
      rcases Int.lt_or_eq_of_le (up_y hh) with h2 | h2
      · exact h2
      · exfalso
        rw [← h2, Int.mul_zero] at e1
        have : h.1 = 0 := by
          rcases Int.mul_eq_zero.1 e1.symm with h | h
          · omega
          · exact h
        unfold up at hh; omega
    exact ⟨g.2, h.2, g2, h2, by rw [← e1, Int.mul_comm], Int.mul_comm _ _⟩
  · have g1p : 0 < g.1 := by unfold up at hg; omega
    rw [← g2, Int.zero_mul] at e1
    have h2 : h.2 = 0 := by
      rcases Int.mul_eq_zero.1 e1 with h | h
      · omega
      · exact h
    have h1p : 0 < h.1 := by unfold up at hh; omega
    exact ⟨g.1, h.1, g1p, h1p, Int.mul_comm _ _, by rw [h2, ← g2]; simp⟩
theorem abs_par {g h : Pt} (hg : up g) (hh : up h) (h0 : crs g h = 0) (n : Pt) : absI (dotP n (padd g h)) = absI (dotP n g) + absI (dotP n h) := by
  obtain ⟨a, b, ha, hb, e1, e2⟩ := par_pos hg hh h0
  have e : a * dotP n h = b * dotP n g := by
    unfold dotP
    have q1 : a * (n.1 * h.1 + n.2 * h.2) = n.1 * (a * h.1) + n.2 * (a * h.2) := by grind
    have q2 : b * (n.1 * g.1 + n.2 * g.2) = n.1 * (b * g.1) + n.2 * (b * g.2) := by grind
    rw [q1, q2, e1, e2]
  rw [dotP_add]
  rcases Int.le_total 0 (dotP n g) with k | k
  · have h1 : 0 ≤ dotP n h := nonneg_of (a := a) (by rw [e]; exact Int.mul_nonneg (by omega) k) ha
    rw [absI_of_nn k, absI_of_nn h1, absI_of_nn (by omega)]
  · have h1 : 0 ≤ -dotP n h := nonneg_of (a := a) (by rw [Int.mul_neg, e, ← Int.mul_neg]; exact Int.mul_nonneg (by omega) (by omega)) ha
    rw [absI_of_np k, absI_of_np (by omega : dotP n h ≤ 0), absI_of_np (by omega)]; omega
theorem spr_cons (n g : Pt) (l : List Pt) : spr n (g :: l) = absI (dotP n g) + spr n l := rfl
theorem spr_nn (n : Pt) : ∀ l : List Pt, 0 ≤ spr n l
  | [] => by simp [spr]
  | g :: l => by have := spr_nn n l; have := absI_nn (dotP n g); rw [spr_cons]; omega
theorem spr_putC {C : List Pt} {g : Pt} (hg : up g) (hs : C.Pairwise fun a b => 0 < crs a b) (hu : ∀ e ∈ C, up e) (n : Pt) : spr n (putC C g) = spr n C + absI (dotP n g) := by
  rcases split_at hg C hs hu with ⟨A, B, rfl, h1, h2⟩ | ⟨A, e, B, rfl, h1, h0, h2⟩
  · rw [putC_none h1 h2, spr_app, spr_app, spr_cons]; omega
  · rw [putC_some h1 h0 h2, spr_app, spr_app, spr_cons, spr_cons, abs_par (hu e (by simp)) hg (by rw [crs_anti]; omega)]; omega
theorem abs_nrm (n g : Pt) : absI (dotP n (nrm g)) = absI (dotP n g) := by
  unfold nrm; split
  · rw [dotP_neg, absI_neg]
  · rfl
/-- The canonical form reaches as far as the generators. -/
theorem spr_canon (n : Pt) (l : List Pt) : spr n (canonL l) = spr n l := by
  refine snoc_ind (P := fun l => spr n (canonL l) = spr n l) rfl (fun S g ih => ?_) l
  have hc := canonL_can S
  rw [canonL_snoc, spr_app, spr_cons, ← abs_nrm n g]
  show spr n (putL (canonL S) g) = spr n S + (absI (dotP n (nrm g)) + 0)
  unfold putL
  split
  · rename_i h; rw [h, dotP_zero, ih, absI_zero]; omega
  · rename_i h; rw [spr_putC (nrm_up h) hc.sorted hc.ups, ih]; omega
theorem spr_negl (n : Pt) : ∀ l : List Pt, spr (-n.1, -n.2) l = spr n l
  | [] => rfl
  | g :: l => by rw [spr_cons, spr_cons, spr_negl n l, dotP_negl, absI_neg]
/-- d is not beyond the sum of the segments in any direction. -/
def inZ (L : List Pt) (d : Pt) : Prop := ∀ n : Pt, dotP n d ≤ spr n L
theorem inZ.abs {L : List Pt} {d : Pt} (h : inZ L d) (n : Pt) : absI (dotP n d) ≤ spr n L := by
  rw [absI_le]
  have h1 := h n
  have h2 := h (-n.1, -n.2)
  rw [dotP_negl, spr_negl] at h2
  omega
open Go.RowKit
theorem corR_len (x y : Int) (l : List Pt) : (corR x y l).length = 2 * l.length - 1 + 1 := rco_len _ _ _
open Go.RowKit
/-- The corners of any zonogon, by the reference. -/
def corV (x y : Int) (l : List Pt) : List Pt := if validB x y l = true then corR x y (canonL l) else []
open Go.RowKit
open Go.RowKit
open Go.RowKit
open Go.RowKit
theorem clone_u (H : AHeap) (s : AV) (l : List Pt) (hs : SlP H s l) (hl : l.length ≤ 1000000) : ACalls Tryz.prog 342 [s] H (fun v H' => v = .sl (some (H.length, 0)) l.length (capG l.length) ∧ H' = H ++ [.cells (ownG l.length) 2 (prs l)]) := by
  rcases Nat.eq_zero_or_pos l.length with h0 | h0
  · obtain rfl : l = [] := List.eq_nil_of_length_eq_zero h0
    obtain ⟨b, own, cap, rfl, hb⟩ := hs
    exact cloneempty_c H b cap own hb
  · rw [capG_p h0, ownG_p h0]
    exact clone_c H s l (.inr hs) hl h0
theorem apart_c (H : AHeap) (x : Int) (y : Int) (s : AV) (l : List (Int × Int)) (x0 : Int) (y0 : Int) (x1 : Int) (y1 : Int) (hs : Sl H 2 s l.length (prs l)) : ACalls Tryz.prog 275 [.agg [.int .i64 x, .int .i64 y, s], .agg [.int .i64 x0, .int .i64 y0, .int .i64 x1, .int .i64 y1]] H (fun v H' => v = .bool (apartB x y l x0 y0 x1 y1) ∧ H' = H) := by
  obtain ⟨bs, os, cs, rfl, hbs⟩ := hs
  have hbls := getElem?_lt hbs
  have hb0s := fun l => get_app (l := l) hbs
  (refine ACalls_pieces Tryz.func275 _ rfl (Nat.le_of_ble_eq_true (by kernel_rfl)) rfl ?_; intro hbel Q hQ hQ' c hc; unfold Tryz.f275 at hc; simp only [Option.some.injEq] at hc; subst hc; clear hQ')
  refine AW_step false try_mixed (by kernel_rfl) (fun F Hx => look F 2 = .ptr (some (H.length, 0)) ∧ look F 3 = .ptr (some (H.length + 1, 0)) ∧ look F 4 = .bool false ∧ Hx = H ++ [.cells true 0 [.int .i64 x, .int .i64 y, .sl (some (bs, 0)) l.length cs], .cells true 0 [.int .i64 x0, .int .i64 y0, .int .i64 x1, .int .i64 y1]]) ?_ ?_
  · skip
    have g'1 := (jn @hbs @hb0s)
    refine runTf g'1 ?_
    refine inv_of ?_
    exact absT
  rintro F Hx ⟨f1, f2, f3, rfl⟩
  refine AW_step false try_mixed (by kernel_rfl) (fun F Hx => validB x y l = true ∧ far4 x0 y0 x1 y1 = true ∧ (decide (x1 < x0)) = false ∧ (decide (y1 < y0)) = false ∧ look F 2 = .ptr (some (H.length, 0)) ∧ look F 3 = .ptr (some (H.length + 1, 0)) ∧ look F 4 = .bool false ∧ Hx = H ++ [.cells true 0 [.int .i64 x, .int .i64 y, .sl (some (bs, 0)) l.length cs], .cells true 0 [.int .i64 x0, .int .i64 y0, .int .i64 x1, .int .i64 y1], .cells true 1 [.int .i64 x0, .int .i64 y0, .int .i64 x1, .int .i64 y1]]) ?_ ?_
  · skip
    have g'2 := (jn @hbs (jn @hb0s (jn @f1 (jn @f2 @f3))))
    refine runTf g'2 ?_
    refine call_v (by kernel_rfl) (valid_c _ x y _ l (.inr ⟨_, _, _, rfl, by first | exact hb0s _ | exact hbs⟩)) ?_
    refine runTf g'2 ?_
    refine gd_split (fun h4 => ?_) (fun h4 => ?_)
    · have h4d := h4
      try simp only [Bool.not_eq_true', Bool.not_eq_false', decide_eq_true_eq, decide_eq_false_iff_not, beq_iff_eq, bne_iff_ne, ne_eq, Bool.not_eq_true, Bool.not_eq_false, beq_eq_false_iff_ne, bne_eq_false_iff_eq, Classical.not_not, Bool.and_eq_true, Bool.and_eq_false_imp] at h4d
      have g'3 := (jn @h4 (jn @h4d g'2))
      refine runTf g'3 ?_
      refine call_v (by kernel_rfl) (near_c _ _ [x0, y0, x1, y1] (.inr ⟨_, _, _, by first | rfl | (rw [List.length_append]; rfl), by first | rfl | (rw [get_newk]; rfl) | (rw [get_new0]; rfl) | (rw [get_newk, prs_append]; rfl) | (rw [get_new0, prs_append]; rfl)⟩) (by simp)) ?_
      rw [far4_any]
      refine runTf g'3 ?_
      refine gd_split (fun h5 => ?_) (fun h5 => ?_)
      · have h5d := h5
        try simp only [Bool.not_eq_true', Bool.not_eq_false', decide_eq_true_eq, decide_eq_false_iff_not, beq_iff_eq, bne_iff_ne, ne_eq, Bool.not_eq_true, Bool.not_eq_false, beq_eq_false_iff_ne, bne_eq_false_iff_eq, Classical.not_not, Bool.and_eq_true, Bool.and_eq_false_imp] at h5d
        have g'4 := (jn @h5 (jn @h5d g'3))
        refine runTf g'4 ?_
        refine gd_split (fun h6 => ?_) (fun h6 => ?_)
        · have h6d := h6
          try simp only [Bool.not_eq_true', Bool.not_eq_false', decide_eq_true_eq, decide_eq_false_iff_not, beq_iff_eq, bne_iff_ne, ne_eq, Bool.not_eq_true, Bool.not_eq_false, beq_eq_false_iff_ne, bne_eq_false_iff_eq, Classical.not_not, Bool.and_eq_true, Bool.and_eq_false_imp] at h6d
          have g'5 := (jn @h6 (jn @h6d g'4))
          refine runTf g'5 ?_
          refine cond_split (fun h7 => ?_) (fun h7 => ?_)
          · have h7d := h7
            try simp only [Bool.not_eq_true', Bool.not_eq_false', decide_eq_true_eq, decide_eq_false_iff_not, beq_iff_eq, bne_iff_ne, ne_eq, Bool.not_eq_true, Bool.not_eq_false, beq_eq_false_iff_ne, bne_eq_false_iff_eq, Classical.not_not, Bool.and_eq_true, Bool.and_eq_false_imp] at h7d
            have g'6 := (jn @h7 (jn @h7d g'5))
            refine runTf g'6 ?_
            exact hQ _ _ (end_plain (.inl rfl) hbel (x := .bool false) (resT Tryz.results275) rfl ⟨by first | (simp [apartB, h4d, h5d, h6d, h7d]; done) | (simp [apartB, h4d, h5d, h6d, h7d]; intros; omega), rfl⟩)
          · have h7d := h7
            try simp only [Bool.not_eq_true', Bool.not_eq_false', decide_eq_true_eq, decide_eq_false_iff_not, beq_iff_eq, bne_iff_ne, ne_eq, Bool.not_eq_true, Bool.not_eq_false, beq_eq_false_iff_ne, bne_eq_false_iff_eq, Classical.not_not, Bool.and_eq_true, Bool.and_eq_false_imp] at h7d
            have g'7 := (jn @h7 (jn @h7d g'5))
            refine runTf g'7 ?_
            refine inv_of ?_
            exact absTf (jn @f1 (jn @f2 @f3))
        · have h6d := h6
          try simp only [Bool.not_eq_true', Bool.not_eq_false', decide_eq_true_eq, decide_eq_false_iff_not, beq_iff_eq, bne_iff_ne, ne_eq, Bool.not_eq_true, Bool.not_eq_false, beq_eq_false_iff_ne, bne_eq_false_iff_eq, Classical.not_not, Bool.and_eq_true, Bool.and_eq_false_imp] at h6d
          have g'8 := (jn @h6 (jn @h6d g'4))
          refine runTf g'8 ?_
          exact hQ _ _ (end_plain (.inl rfl) hbel (x := .bool false) (resT Tryz.results275) rfl ⟨by first | (simp [apartB, h4d, h5d, h6d]; done) | (simp [apartB, h4d, h5d, h6d]; intros; omega), rfl⟩)
      · have h5d := h5
        try simp only [Bool.not_eq_true', Bool.not_eq_false', decide_eq_true_eq, decide_eq_false_iff_not, beq_iff_eq, bne_iff_ne, ne_eq, Bool.not_eq_true, Bool.not_eq_false, beq_eq_false_iff_ne, bne_eq_false_iff_eq, Classical.not_not, Bool.and_eq_true, Bool.and_eq_false_imp] at h5d
        have g'9 := (jn @h5 (jn @h5d g'3))
        refine runTf g'9 ?_
        exact hQ _ _ (end_plain (.inl rfl) hbel (x := .bool false) (resT Tryz.results275) rfl ⟨by first | (simp [apartB, h4d, h5d]; done) | (simp [apartB, h4d, h5d]; intros; omega), rfl⟩)
    · have h4d := h4
      try simp only [Bool.not_eq_true', Bool.not_eq_false', decide_eq_true_eq, decide_eq_false_iff_not, beq_iff_eq, bne_iff_ne, ne_eq, Bool.not_eq_true, Bool.not_eq_false, beq_eq_false_iff_ne, bne_eq_false_iff_eq, Classical.not_not, Bool.and_eq_true, Bool.and_eq_false_imp] at h4d
      have g'10 := (jn @h4 (jn @h4d g'2))
      refine runTf g'10 ?_
      exact hQ _ _ (end_plain (.inl rfl) hbel (x := .bool false) (resT Tryz.results275) rfl ⟨by first | (simp [apartB, h4d]; done) | (simp [apartB, h4d]; intros; omega), rfl⟩)
  rintro F Hx ⟨h8d, h9d, h10d, h11d, f12, f13, f14, rfl⟩
  obtain ⟨hl16, hlB⟩ := valid_bd h8d
  have hxy := valid_bd3 h8d
  have hfar := far4_bd h9d
  have hfinX : x0 ≤ x1 := Int.not_lt.1 (of_decide_eq_false h10d)
  have hfinY : y0 ≤ y1 := Int.not_lt.1 (of_decide_eq_false h11d)
  have hB4 : ∀ e ∈ l ++ [(x1 - x0, 0), (0, y1 - y0)], Bd 4194304 e := fun e he => by
      simp only [List.mem_append, List.mem_cons, List.not_mem_nil, or_false] at he
      rcases he with he | rfl | rfl
      · have := hlB e he; unfold Bd at *; omega
      · unfold Bd; simp only; omega
      · unfold Bd; simp only; omega
  have hll : (l ++ [(x1 - x0, 0), (0, y1 - y0)]).length = l.length + 2 := by simp
  have hcl := canonL_len (l ++ [(x1 - x0, 0), (0, y1 - y0)])
  have hcb : ∀ e ∈ (canonL (l ++ [(x1 - x0, 0), (0, y1 - y0)])), Bd 134217728 e := fun e he => by
      have := canonL_bd (M := 4194304) (by decide) hB4 e he
      have h40 : (((l ++ [(x1 - x0, 0), (0, y1 - y0)]).length : Nat) : Int) * 4194304 ≤ 18 * 4194304 := Int.mul_le_mul_of_nonneg_right (by omega) (by decide)
      unfold Bd at *; omega
  have hc28 : ∀ e ∈ (canonL (l ++ [(x1 - x0, 0), (0, y1 - y0)])), Bd 268435456 e := fun e he => by have := hcb e he; unfold Bd at *; omega
  have hNb := nrmls_bd (M := 134217728) (by decide) hcb
  have hNl := nrmls_len (canonL (l ++ [(x1 - x0, 0), (0, y1 - y0)]))
  refine AW_special false try_mixed [[0, 1, 2, 3, 4, 5, 6, 7, 8, 9, 10, 11, 12, 13, 14, 15, 16, 17, 18, 19, 20], [0, 1, 3, 4, 5, 6, 7, 8, 9, 10, 11, 12, 13, 14, 15, 2, 16, 17, 18, 19, 20]] (by kernel_rfl) (fun F2 H2 => F2 = [(2, .ptr (some (H.length, 0))), (3, .ptr (some (H.length + 1, 0))), (4, .bool false), (5, .sl (some (H.length + 2, 0)) ((canonL (l ++ [(x1 - x0, 0), (0, y1 - y0)])).length) (capG (canonL (l ++ [(x1 - x0, 0), (0, y1 - y0)])).length))] ∧ H2 = H ++ [.cells true 0 [.int .i64 x, .int .i64 y, .sl (some (bs, 0)) l.length cs], .cells true 0 [.int .i64 x0, .int .i64 y0, .int .i64 x1, .int .i64 y1], .cells (ownG (canonL (l ++ [(x1 - x0, 0), (0, y1 - y0)])).length) 2 (prs (canonL (l ++ [(x1 - x0, 0), (0, y1 - y0)])))]) ?_ ?_
  · refine reps_cons ?_ (reps_cons ?_ (reps_nil)) <;> intro J hJ
    · skip
      have g'11 := (jn @hbs (jn @hb0s (jn @f1 (jn @f2 (jn @f3 (jn @f12 (jn @f13 (jn @f14 (jn @h8d (jn @h9d (jn @h10d @h11d)))))))))))
      refine runDf g'11 ?_
      refine call_x (by kernel_rfl) (by simp) (clone_u _ _ l ⟨_, _, _, rfl, by first | exact hb0s _ | exact hbs⟩ (by first | omega | (simp only [List.length_cons, List.length_nil]; omega) | exact Nat.le_trans (mkL_len _ _) (by first | omega | simp) | exact Nat.le_trans (vL_len _ _) (by first | omega | simp) | exact Nat.le_trans corV_len (by omega) | exact Nat.le_trans (canonL_len _) (by first | omega | simp))) ?_
      have g'12 := (jn @prs_len (jn @prs_one (jn @capG_s g'11)))
      refine runDf g'12 ?_
      refine call_x (by kernel_rfl) (by simp) (canonical_u _ 0 0 _ (l ++ [(x1 - x0, 0), (0, y1 - y0)]) (.inr ⟨_, _, _, by first | rfl | (rw [List.length_append]; rfl), by first | rfl | (rw [get_newk]; rfl) | (rw [get_new0]; rfl) | (rw [get_newk, prs_append]; rfl) | (rw [get_new0, prs_append]; rfl)⟩) (by first | omega | (simp only [List.length_cons, List.length_nil]; omega) | exact Nat.le_trans (mkL_len _ _) (by first | omega | simp) | exact Nat.le_trans (vL_len _ _) (by first | omega | simp) | exact Nat.le_trans corV_len (by omega) | exact Nat.le_trans (canonL_len _) (by first | omega | simp)) (by assumption)) ?_
      refine runDf g'12 ?_
      refine inv_of (hJ _ _ ⟨_, _, _, ⟨rfl, rfl⟩, Abs.byG hbel [] rfl [0, 1, 6] (by decide) ?_⟩)
      exact absRf (jn @f1 (jn @f2 (jn @f3 (jn @f12 (jn @f13 @f14)))))
    · skip
      have g'13 := (jn @hbs (jn @hb0s (jn @f1 (jn @f2 (jn @f3 (jn @f12 (jn @f13 (jn @f14 (jn @h8d (jn @h9d (jn @h10d @h11d)))))))))))
      refine runDf g'13 ?_
      refine call_x (by kernel_rfl) (by simp) (clone_u _ _ l ⟨_, _, _, rfl, by first | exact hb0s _ | exact hbs⟩ (by first | omega | (simp only [List.length_cons, List.length_nil]; omega) | exact Nat.le_trans (mkL_len _ _) (by first | omega | simp) | exact Nat.le_trans (vL_len _ _) (by first | omega | simp) | exact Nat.le_trans corV_len (by omega) | exact Nat.le_trans (canonL_len _) (by first | omega | simp))) ?_
      have g'14 := (jn @prs_len (jn @prs_one (jn @capG_s g'13)))
      refine runDf g'14 ?_
      refine call_x (by kernel_rfl) (by simp) (canonical_u _ 0 0 _ (l ++ [(x1 - x0, 0), (0, y1 - y0)]) (.inr ⟨_, _, _, by first | rfl | (rw [List.length_append]; rfl), by first | rfl | (rw [get_newk]; rfl) | (rw [get_new0]; rfl) | (rw [get_newk, prs_append]; rfl) | (rw [get_new0, prs_append]; rfl)⟩) (by first | omega | (simp only [List.length_cons, List.length_nil]; omega) | exact Nat.le_trans (mkL_len _ _) (by first | omega | simp) | exact Nat.le_trans (vL_len _ _) (by first | omega | simp) | exact Nat.le_trans corV_len (by omega) | exact Nat.le_trans (canonL_len _) (by first | omega | simp)) (by assumption)) ?_
      refine runDf g'14 ?_
      refine inv_of (hJ _ _ ⟨_, _, _, ⟨rfl, rfl⟩, Abs.byG hbel [] rfl [0, 1, 6] (by decide) ?_⟩)
      exact absRf (jn @f1 (jn @f2 (jn @f3 (jn @f12 (jn @f13 @f14)))))
  rintro F2 H2 ⟨rfl, rfl⟩
  refine AW_fin false try_mixed (by kernel_rfl) ?_
  have g'15 := (jn @hbs (jn @hb0s (jn @h8d (jn @h9d (jn @h10d (jn @h11d (jn @prs_len @prs_one)))))))
  refine runTf g'15 ?_
  refine go_loop try_mixed (by kernel_rfl) (fun k F Hx => ∃ i : Nat, i + k = (canonL (l ++ [(x1 - x0, 0), (0, y1 - y0)])).length ∧ F = [(5, .sl (some (H.length, 0)) ((canonL (l ++ [(x1 - x0, 0), (0, y1 - y0)])).length) (capG (canonL (l ++ [(x1 - x0, 0), (0, y1 - y0)])).length)), (6, .ptr (some (H.length + 1, 0))), (7, .sl (some (H.length + 2, 0)) ((nrmls ((canonL (l ++ [(x1 - x0, 0), (0, y1 - y0)])).take i)).length) (capG (nrmls ((canonL (l ++ [(x1 - x0, 0), (0, y1 - y0)])).take i)).length)), (82, .sl (some (H.length, 0)) ((canonL (l ++ [(x1 - x0, 0), (0, y1 - y0)])).length) (capG (canonL (l ++ [(x1 - x0, 0), (0, y1 - y0)])).length)), (83, .int .i64 (((canonL (l ++ [(x1 - x0, 0), (0, y1 - y0)])).length : Nat) : Int)), (84, .int .i64 ((i : Nat) : Int))] ∧ Hx = H ++ [.cells (ownG (canonL (l ++ [(x1 - x0, 0), (0, y1 - y0)])).length) 2 (prs (canonL (l ++ [(x1 - x0, 0), (0, y1 - y0)]))), .cells true 0 [.int .i64 ((x0 + x1) - x), .int .i64 ((y0 + y1) - y)], .cells (ownG (nrmls ((canonL (l ++ [(x1 - x0, 0), (0, y1 - y0)])).take i)).length) 2 (prs (nrmls ((canonL (l ++ [(x1 - x0, 0), (0, y1 - y0)])).take i)))]) ((canonL (l ++ [(x1 - x0, 0), (0, y1 - y0)])).length) ?_ ?_
  · refine ⟨_, _, _, ⟨0, by omega, rfl, rfl⟩, Abs.byG hbel [] rfl [2, 3, 4] (by decide) ?_⟩
    exact absRf (jn @List.take_zero.{0} @nrmls_nil)
  · rintro k0 F Hx ⟨i, hm0, rfl, rfl⟩ J0 hJ0
    refine runTf g'15 ?_
    refine cond_split (fun h15 => ?_) (fun h15 => ?_)
    · have h15d := h15
      try simp only [Bool.not_eq_true', Bool.not_eq_false', decide_eq_true_eq, decide_eq_false_iff_not, beq_iff_eq, bne_iff_ne, ne_eq, Bool.not_eq_true, Bool.not_eq_false, beq_eq_false_iff_ne, bne_eq_false_iff_eq, Classical.not_not, Bool.and_eq_true, Bool.and_eq_false_imp] at h15d
      have hgi := gpb (i := i) hcb (by omega)
      have hst := nrmls_step (L := (canonL (l ++ [(x1 - x0, 0), (0, y1 - y0)]))) (i := i) (by omega)
      have hnl := nrmls_len ((canonL (l ++ [(x1 - x0, 0), (0, y1 - y0)])).take i)
      rw [List.length_take] at hnl
      have q16 := prs_load (l := canonL (l ++ [(x1 - x0, 0), (0, y1 - y0)])) (j := i) (by omega)
      have g'16 := (jn @h15 (jn @h15d (jn @q16 (jn @capG_s g'15))))
      refine runTf g'16 ?_
      refine hJ0 _ _ ⟨k0 - 1, by omega, _, _, _, ⟨i + 1, by omega, rfl, rfl⟩, Abs.byG hbel [] rfl [0, 1, 5] (by decide) ?_⟩
      exact absRf (jn @hst @Int.zero_sub)
    · have h15d := h15
      try simp only [Bool.not_eq_true', Bool.not_eq_false', decide_eq_true_eq, decide_eq_false_iff_not, beq_iff_eq, bne_iff_ne, ne_eq, Bool.not_eq_true, Bool.not_eq_false, beq_eq_false_iff_ne, bne_eq_false_iff_eq, Classical.not_not, Bool.and_eq_true, Bool.and_eq_false_imp] at h15d
      have hfinT : (canonL (l ++ [(x1 - x0, 0), (0, y1 - y0)])).take i = (canonL (l ++ [(x1 - x0, 0), (0, y1 - y0)])) := List.take_of_length_le (by omega)
      have g'17 := (jn @h15 (jn @h15d g'15))
      refine runTf g'17 ?_
      refine go_loop try_mixed (by kernel_rfl) (fun k F Hx => ∃ j : Nat, j + k = (nrmls (canonL (l ++ [(x1 - x0, 0), (0, y1 - y0)]))).length ∧ ((nrmls (canonL (l ++ [(x1 - x0, 0), (0, y1 - y0)]))).take j).any (beyond (canonL (l ++ [(x1 - x0, 0), (0, y1 - y0)])) (x0 + x1 - x, y0 + y1 - y)) = false ∧ F = [(5, .sl (some (H.length, 0)) ((canonL (l ++ [(x1 - x0, 0), (0, y1 - y0)])).length) (capG (canonL (l ++ [(x1 - x0, 0), (0, y1 - y0)])).length)), (6, .ptr (some (H.length + 1, 0))), (99, .sl (some (H.length + 2, 0)) ((nrmls (canonL (l ++ [(x1 - x0, 0), (0, y1 - y0)]))).length) (capG (nrmls (canonL (l ++ [(x1 - x0, 0), (0, y1 - y0)]))).length)), (100, .int .i64 (((nrmls (canonL (l ++ [(x1 - x0, 0), (0, y1 - y0)]))).length : Nat) : Int)), (101, .int .i64 ((j : Nat) : Int))] ∧ Hx = H ++ [.cells (ownG (canonL (l ++ [(x1 - x0, 0), (0, y1 - y0)])).length) 2 (prs (canonL (l ++ [(x1 - x0, 0), (0, y1 - y0)]))), .cells true 0 [.int .i64 ((x0 + x1) - x), .int .i64 ((y0 + y1) - y)], .cells (ownG (nrmls (canonL (l ++ [(x1 - x0, 0), (0, y1 - y0)]))).length) 2 (prs (nrmls (canonL (l ++ [(x1 - x0, 0), (0, y1 - y0)]))))]) ((nrmls (canonL (l ++ [(x1 - x0, 0), (0, y1 - y0)]))).length) ?_ ?_
      · refine ⟨_, _, _, ⟨0, by omega, by simp, rfl, rfl⟩, Abs.byG hbel [] rfl [0, 1, 2] (by decide) ?_⟩
        exact absRf @hfinT
      · rintro k1 F Hx ⟨j, hm1, ht, rfl, rfl⟩ J1 hJ1
        refine runTf g'17 ?_
        refine cond_split (fun h17 => ?_) (fun h17 => ?_)
        · have h17d := h17
          try simp only [Bool.not_eq_true', Bool.not_eq_false', decide_eq_true_eq, decide_eq_false_iff_not, beq_iff_eq, bne_iff_ne, ne_eq, Bool.not_eq_true, Bool.not_eq_false, beq_eq_false_iff_ne, bne_eq_false_iff_eq, Classical.not_not, Bool.and_eq_true, Bool.and_eq_false_imp] at h17d
          have hgj := gpb (i := j) hNb (by omega)
          have hst2 := any_take (p := beyond (canonL (l ++ [(x1 - x0, 0), (0, y1 - y0)])) (x0 + x1 - x, y0 + y1 - y)) (l := nrmls (canonL (l ++ [(x1 - x0, 0), (0, y1 - y0)]))) (i := j) (by omega)
          rw [← gp_eq (by omega)] at hst2
          have hp1 := mul_bd (a := g1 (nrmls (canonL (l ++ [(x1 - x0, 0), (0, y1 - y0)]))) j) (b := x0 + x1 - x) (A := 134217728) (B := 33554432) (by omega) (by omega)
          have hp2 := mul_bd (a := g2 (nrmls (canonL (l ++ [(x1 - x0, 0), (0, y1 - y0)]))) j) (b := y0 + y1 - y) (A := 134217728) (B := 33554432) (by omega) (by omega)
          have q18 := prs_load (l := nrmls (canonL (l ++ [(x1 - x0, 0), (0, y1 - y0)]))) (j := j) (by omega)
          have g'18 := (jn @h17 (jn @h17d (jn @q18 g'17)))
          refine runTf g'18 ?_
          refine call_d (by kernel_rfl) (abs_c _ _ (by omega)) ?_
          refine runTf g'18 ?_
          refine call_d (by kernel_rfl) (spread_c _ _ (canonL (l ++ [(x1 - x0, 0), (0, y1 - y0)])) (g1 (nrmls (canonL (l ++ [(x1 - x0, 0), (0, y1 - y0)]))) j, g2 (nrmls (canonL (l ++ [(x1 - x0, 0), (0, y1 - y0)]))) j) (.inr ⟨_, _, _, by first | rfl | (rw [List.length_append]; rfl), by first | rfl | (rw [get_newk]; rfl) | (rw [get_new0]; rfl) | (rw [get_newk, prs_append]; rfl) | (rw [get_new0, prs_append]; rfl)⟩) (by omega) (by assumption) (by first | assumption | (unfold Bd; simp only; omega) | (unfold Bd at *; simp only at *; omega) | (unfold Bd; simp; omega) | (unfold Bd; simp))) ?_
          refine runTf g'18 ?_
          refine cond_split (fun h19 => ?_) (fun h19 => ?_)
          · have h19d := h19
            try simp only [Bool.not_eq_true', Bool.not_eq_false', decide_eq_true_eq, decide_eq_false_iff_not, beq_iff_eq, bne_iff_ne, ne_eq, Bool.not_eq_true, Bool.not_eq_false, beq_eq_false_iff_ne, bne_eq_false_iff_eq, Classical.not_not, Bool.and_eq_true, Bool.and_eq_false_imp] at h19d
            have hfinA : (nrmls (canonL (l ++ [(x1 - x0, 0), (0, y1 - y0)]))).any (beyond (canonL (l ++ [(x1 - x0, 0), (0, y1 - y0)])) (x0 + x1 - x, y0 + y1 - y)) = true := any_gp (j := j) (by omega) (decide_eq_true h19d)
            have g'19 := (jn @h19 (jn @h19d g'18))
            refine runTf g'19 ?_
            exact hQ _ _ (end_plain (.inl rfl) hbel (x := .bool true) (resT Tryz.results275) rfl ⟨by first | (simp [apartB, h8d, h9d, h10d, h11d, h15d, h17d, h19d, hfinX, hfinY, hfinT, hfinA]; done) | (simp [apartB, h8d, h9d, h10d, h11d, h15d, h17d, h19d, hfinX, hfinY, hfinT, hfinA]; intros; omega), rfl⟩)
          · have h19d := h19
            try simp only [Bool.not_eq_true', Bool.not_eq_false', decide_eq_true_eq, decide_eq_false_iff_not, beq_iff_eq, bne_iff_ne, ne_eq, Bool.not_eq_true, Bool.not_eq_false, beq_eq_false_iff_ne, bne_eq_false_iff_eq, Classical.not_not, Bool.and_eq_true, Bool.and_eq_false_imp] at h19d
            have g'20 := (jn @h19 (jn @h19d g'18))
            refine runTf g'20 ?_
            refine hJ1 _ _ ⟨k1 - 1, by omega, _, _, _, ⟨j + 1, by omega, by rw [hst2, ht, Bool.false_or]; exact decide_eq_false h19d, rfl, rfl⟩, Abs.byG hbel [] rfl [0, 1, 2] (by decide) ?_⟩
            exact absR
        · have h17d := h17
          try simp only [Bool.not_eq_true', Bool.not_eq_false', decide_eq_true_eq, decide_eq_false_iff_not, beq_iff_eq, bne_iff_ne, ne_eq, Bool.not_eq_true, Bool.not_eq_false, beq_eq_false_iff_ne, bne_eq_false_iff_eq, Classical.not_not, Bool.and_eq_true, Bool.and_eq_false_imp] at h17d
          rw [List.take_of_length_le (by omega)] at ht
          have hfin := ht
          have g'21 := (jn @h17 (jn @h17d g'17))
          refine runTf g'21 ?_
          exact hQ _ _ (end_plain (.inl rfl) hbel (x := .bool false) (resT Tryz.results275) rfl ⟨by first | (simp [apartB, h8d, h9d, h10d, h11d, h15d, h17d, hfinX, hfinY, hfinT, hfin]; done) | (simp [apartB, h8d, h9d, h10d, h11d, h15d, h17d, hfinX, hfinY, hfinT, hfin]; intros; omega), rfl⟩)
open Go.RowKit
open Go.RowKit
/-- What is handed back, as one new block. -/
def mkL (e : Int) (L : List Pt) : List Pt := if e = 0 then L else []
def mkX (e : Int) (x : Int) : Int := if e = 0 then x else 0
open Go.RowKit
theorem ofrect_c (H : AHeap) (x0 : Int) (y0 : Int) (x1 : Int) (y1 : Int) : ACalls Tryz.prog 268 [.agg [.int .i64 x0, .int .i64 y0, .int .i64 x1, .int .i64 y1]] H (fun v H' => v = .tup [.agg [.int .i64 (mkX (rectE x0 y0 x1 y1) (x0 + x1)), .int .i64 (mkX (rectE x0 y0 x1 y1) (y0 + y1)), .sl (some (H.length, 0)) ((mkL (rectE x0 y0 x1 y1) (canonL [(x1 - x0, 0), (0, y1 - y0)])).length) (capG (mkL (rectE x0 y0 x1 y1) (canonL [(x1 - x0, 0), (0, y1 - y0)])).length)], .int .i64 (rectE x0 y0 x1 y1)] ∧ H' = H ++ [.cells (ownG (mkL (rectE x0 y0 x1 y1) (canonL [(x1 - x0, 0), (0, y1 - y0)])).length) 2 (prs (mkL (rectE x0 y0 x1 y1) (canonL [(x1 - x0, 0), (0, y1 - y0)])))]) := by
  refine AcT true Tryz.func268 ?_; intro hbel Q hQ
  refine runT ?_
  refine call_v (by kernel_rfl) (near_c _ _ [x0, y0, x1, y1] (.inr ⟨_, _, _, by first | rfl | (rw [List.length_append]; rfl), by first | rfl | (rw [get_newk]; rfl) | (rw [get_new0]; rfl) | (rw [get_newk, prs_append]; rfl) | (rw [get_new0, prs_append]; rfl)⟩) (by simp)) ?_
  rw [far4_any]
  refine runT ?_
  refine gd_split (fun h1 => ?_) (fun h1 => ?_)
  · have h1d := h1
    try simp only [Bool.not_eq_true', Bool.not_eq_false', decide_eq_true_eq, decide_eq_false_iff_not, beq_iff_eq, bne_iff_ne, ne_eq, Bool.not_eq_true, Bool.not_eq_false, beq_eq_false_iff_ne, bne_eq_false_iff_eq, Classical.not_not, Bool.and_eq_true, Bool.and_eq_false_imp] at h1d
    have hfar := far4_bd h1d
    have g'1 := (jn @h1 @h1d)
    refine runTf g'1 ?_
    refine gd_split (fun h2 => ?_) (fun h2 => ?_)
    · have h2d := h2
      try simp only [Bool.not_eq_true', Bool.not_eq_false', decide_eq_true_eq, decide_eq_false_iff_not, beq_iff_eq, bne_iff_ne, ne_eq, Bool.not_eq_true, Bool.not_eq_false, beq_eq_false_iff_ne, bne_eq_false_iff_eq, Classical.not_not, Bool.and_eq_true, Bool.and_eq_false_imp] at h2d
      have g'2 := (jn @h2 (jn @h2d g'1))
      refine runTf g'2 ?_
      refine gd_split (fun h3 => ?_) (fun h3 => ?_)
      · have h3d := h3
        try simp only [Bool.not_eq_true', Bool.not_eq_false', decide_eq_true_eq, decide_eq_false_iff_not, beq_iff_eq, bne_iff_ne, ne_eq, Bool.not_eq_true, Bool.not_eq_false, beq_eq_false_iff_ne, bne_eq_false_iff_eq, Classical.not_not, Bool.and_eq_true, Bool.and_eq_false_imp] at h3d
        have g'3 := (jn @h3 (jn @h3d g'2))
        refine runTf g'3 ?_
        refine gd_split (fun h4 => ?_) (fun h4 => ?_)
        · have h4d := h4
          try simp only [Bool.not_eq_true', Bool.not_eq_false', decide_eq_true_eq, decide_eq_false_iff_not, beq_iff_eq, bne_iff_ne, ne_eq, Bool.not_eq_true, Bool.not_eq_false, beq_eq_false_iff_ne, bne_eq_false_iff_eq, Classical.not_not, Bool.and_eq_true, Bool.and_eq_false_imp] at h4d
          have g'4 := (jn @h4 (jn @h4d g'3))
          refine runTf g'4 ?_
          refine cond_split (fun h5 => ?_) (fun h5 => ?_)
          · have h5d := h5
            try simp only [Bool.not_eq_true', Bool.not_eq_false', decide_eq_true_eq, decide_eq_false_iff_not, beq_iff_eq, bne_iff_ne, ne_eq, Bool.not_eq_true, Bool.not_eq_false, beq_eq_false_iff_ne, bne_eq_false_iff_eq, Classical.not_not, Bool.and_eq_true, Bool.and_eq_false_imp] at h5d
            have g'5 := (jn @h5 (jn @h5d g'4))
            refine runTf g'5 ?_
            refine hQ _ _ (end_byG (.inl rfl) hbel (x1 := .tup [.agg [.int .i64 0, .int .i64 0, .sl none 0 (some 0)], .int .i64 1]) (l2 := [.cells false 2 []]) (.tup [.agg [.int .i64 0, .int .i64 0, .sl (some (H.length, 0)) 0 (some 0)], .int .i64 1]) (resT Tryz.results268) [.cells false 2 []] rfl [3] (by decide) ⟨(by first | (simp [mkX, mkL, rectE, capG_0, ownG_0, prs_nil, h1d, h2d, h3d, h4d, h5d]; done) | (rw [show rectE x0 y0 x1 y1 = 1 from if_neg (fun h => by omega)]; rfl) | rw [rectE_bad (fun h => by omega)]; rfl | rw [show rectE x0 y0 x1 y1 = 0 from if_pos ⟨by assumption, by omega, by omega, by omega, by omega⟩]; rfl | rw [rectE_bad (fun h => by simp_all)]; rfl), (by first | (simp [mkX, mkL, rectE, capG_0, ownG_0, prs_nil, h1d, h2d, h3d, h4d, h5d]; done) | (rw [show rectE x0 y0 x1 y1 = 1 from if_neg (fun h => by omega)]; rfl) | rw [rectE_bad (fun h => by omega)]; rfl | rw [show rectE x0 y0 x1 y1 = 0 from if_pos ⟨by assumption, by omega, by omega, by omega, by omega⟩]; rfl | rw [rectE_bad (fun h => by simp_all)]; rfl)⟩ ?_)
            exact absW
          · have h5d := h5
            try simp only [Bool.not_eq_true', Bool.not_eq_false', decide_eq_true_eq, decide_eq_false_iff_not, beq_iff_eq, bne_iff_ne, ne_eq, Bool.not_eq_true, Bool.not_eq_false, beq_eq_false_iff_ne, bne_eq_false_iff_eq, Classical.not_not, Bool.and_eq_true, Bool.and_eq_false_imp] at h5d
            have g'6 := (jn @h5 (jn @h5d g'4))
            refine runTf g'6 ?_
            have hB4 : ∀ e ∈ [((x1 - x0 : Int), (0 : Int)), (0, y1 - y0)], Bd 4194304 e := fun e he => by
              simp only [List.mem_cons, List.not_mem_nil, or_false] at he
              first | (rcases he with rfl | rfl <;> (unfold Bd; simp only; omega)) | (subst he; unfold Bd; simp only; omega)
            refine call_v (by kernel_rfl) (canonical_u _ (x0 + x1) (y0 + y1) _ [(x1 - x0, 0), (0, y1 - y0)] (.inr ⟨_, _, _, by first | rfl | (rw [List.length_append]; rfl), by first | rfl | (rw [get_newk]; rfl) | (rw [get_new0]; rfl) | (rw [get_newk, prs_append]; rfl) | (rw [get_new0, prs_append]; rfl)⟩) (by first | omega | (simp only [List.length_cons, List.length_nil]; omega) | exact Nat.le_trans (mkL_len _ _) (by first | omega | simp) | exact Nat.le_trans (vL_len _ _) (by first | omega | simp) | exact Nat.le_trans corV_len (by omega) | exact Nat.le_trans (canonL_len _) (by first | omega | simp)) (by assumption)) ?_
            refine runTf g'6 ?_
            refine hQ _ _ (end_byG (.inl rfl) hbel (x1 := .tup [.agg [.int .i64 (x0 + x1), .int .i64 (y0 + y1), .sl (some (H.length + 4, 0)) ((canonL [(x1 - x0, 0), (0, y1 - y0)]).length) (capG (canonL [(x1 - x0, 0), (0, y1 - y0)]).length)], .int .i64 0]) (l2 := [.cells (ownG (canonL [(x1 - x0, 0), (0, y1 - y0)]).length) 2 (prs (canonL [(x1 - x0, 0), (0, y1 - y0)]))]) (.tup [.agg [.int .i64 (x0 + x1), .int .i64 (y0 + y1), .sl (some (H.length, 0)) ((canonL [(x1 - x0, 0), (0, y1 - y0)]).length) (capG (canonL [(x1 - x0, 0), (0, y1 - y0)]).length)], .int .i64 0]) (resT Tryz.results268) [] rfl [4] (by decide) ⟨(by first | (simp [mkX, mkL, rectE, capG_0, ownG_0, prs_nil, h1d, h2d, h3d, h4d, h5d]; done) | (rw [show rectE x0 y0 x1 y1 = 1 from if_neg (fun h => by omega)]; rfl) | rw [rectE_bad (fun h => by omega)]; rfl | rw [show rectE x0 y0 x1 y1 = 0 from if_pos ⟨by assumption, by omega, by omega, by omega, by omega⟩]; rfl | rw [rectE_bad (fun h => by simp_all)]; rfl), (by first | (simp [mkX, mkL, rectE, capG_0, ownG_0, prs_nil, h1d, h2d, h3d, h4d, h5d]; done) | (rw [show rectE x0 y0 x1 y1 = 1 from if_neg (fun h => by omega)]; rfl) | rw [rectE_bad (fun h => by omega)]; rfl | rw [show rectE x0 y0 x1 y1 = 0 from if_pos ⟨by assumption, by omega, by omega, by omega, by omega⟩]; rfl | rw [rectE_bad (fun h => by simp_all)]; rfl)⟩ ?_)
            exact absW
        · have h4d := h4
          try simp only [Bool.not_eq_true', Bool.not_eq_false', decide_eq_true_eq, decide_eq_false_iff_not, beq_iff_eq, bne_iff_ne, ne_eq, Bool.not_eq_true, Bool.not_eq_false, beq_eq_false_iff_ne, bne_eq_false_iff_eq, Classical.not_not, Bool.and_eq_true, Bool.and_eq_false_imp] at h4d
          have g'7 := (jn @h4 (jn @h4d g'3))
          refine runTf g'7 ?_
          refine hQ _ _ (end_byG (.inl rfl) hbel (x1 := .tup [.agg [.int .i64 0, .int .i64 0, .sl none 0 (some 0)], .int .i64 1]) (l2 := [.cells false 2 []]) (.tup [.agg [.int .i64 0, .int .i64 0, .sl (some (H.length, 0)) 0 (some 0)], .int .i64 1]) (resT Tryz.results268) [.cells false 2 []] rfl [3] (by decide) ⟨(by first | (simp [mkX, mkL, rectE, capG_0, ownG_0, prs_nil, h1d, h2d, h3d, h4d]; done) | (rw [show rectE x0 y0 x1 y1 = 1 from if_neg (fun h => by omega)]; rfl) | rw [rectE_bad (fun h => by omega)]; rfl | rw [show rectE x0 y0 x1 y1 = 0 from if_pos ⟨by assumption, by omega, by omega, by omega, by omega⟩]; rfl | rw [rectE_bad (fun h => by simp_all)]; rfl), (by first | (simp [mkX, mkL, rectE, capG_0, ownG_0, prs_nil, h1d, h2d, h3d, h4d]; done) | (rw [show rectE x0 y0 x1 y1 = 1 from if_neg (fun h => by omega)]; rfl) | rw [rectE_bad (fun h => by omega)]; rfl | rw [show rectE x0 y0 x1 y1 = 0 from if_pos ⟨by assumption, by omega, by omega, by omega, by omega⟩]; rfl | rw [rectE_bad (fun h => by simp_all)]; rfl)⟩ ?_)
          exact absW
      · have h3d := h3
        try simp only [Bool.not_eq_true', Bool.not_eq_false', decide_eq_true_eq, decide_eq_false_iff_not, beq_iff_eq, bne_iff_ne, ne_eq, Bool.not_eq_true, Bool.not_eq_false, beq_eq_false_iff_ne, bne_eq_false_iff_eq, Classical.not_not, Bool.and_eq_true, Bool.and_eq_false_imp] at h3d
        have g'8 := (jn @h3 (jn @h3d g'2))
        refine runTf g'8 ?_
        refine hQ _ _ (end_byG (.inl rfl) hbel (x1 := .tup [.agg [.int .i64 0, .int .i64 0, .sl none 0 (some 0)], .int .i64 1]) (l2 := [.cells false 2 []]) (.tup [.agg [.int .i64 0, .int .i64 0, .sl (some (H.length, 0)) 0 (some 0)], .int .i64 1]) (resT Tryz.results268) [.cells false 2 []] rfl [3] (by decide) ⟨(by first | (simp [mkX, mkL, rectE, capG_0, ownG_0, prs_nil, h1d, h2d, h3d]; done) | (rw [show rectE x0 y0 x1 y1 = 1 from if_neg (fun h => by omega)]; rfl) | rw [rectE_bad (fun h => by omega)]; rfl | rw [show rectE x0 y0 x1 y1 = 0 from if_pos ⟨by assumption, by omega, by omega, by omega, by omega⟩]; rfl | rw [rectE_bad (fun h => by simp_all)]; rfl), (by first | (simp [mkX, mkL, rectE, capG_0, ownG_0, prs_nil, h1d, h2d, h3d]; done) | (rw [show rectE x0 y0 x1 y1 = 1 from if_neg (fun h => by omega)]; rfl) | rw [rectE_bad (fun h => by omega)]; rfl | rw [show rectE x0 y0 x1 y1 = 0 from if_pos ⟨by assumption, by omega, by omega, by omega, by omega⟩]; rfl | rw [rectE_bad (fun h => by simp_all)]; rfl)⟩ ?_)
        exact absW
    · have h2d := h2
      try simp only [Bool.not_eq_true', Bool.not_eq_false', decide_eq_true_eq, decide_eq_false_iff_not, beq_iff_eq, bne_iff_ne, ne_eq, Bool.not_eq_true, Bool.not_eq_false, beq_eq_false_iff_ne, bne_eq_false_iff_eq, Classical.not_not, Bool.and_eq_true, Bool.and_eq_false_imp] at h2d
      have g'9 := (jn @h2 (jn @h2d g'1))
      refine runTf g'9 ?_
      refine hQ _ _ (end_byG (.inl rfl) hbel (x1 := .tup [.agg [.int .i64 0, .int .i64 0, .sl none 0 (some 0)], .int .i64 1]) (l2 := [.cells false 2 []]) (.tup [.agg [.int .i64 0, .int .i64 0, .sl (some (H.length, 0)) 0 (some 0)], .int .i64 1]) (resT Tryz.results268) [.cells false 2 []] rfl [3] (by decide) ⟨(by first | (simp [mkX, mkL, rectE, capG_0, ownG_0, prs_nil, h1d, h2d]; done) | (rw [show rectE x0 y0 x1 y1 = 1 from if_neg (fun h => by omega)]; rfl) | rw [rectE_bad (fun h => by omega)]; rfl | rw [show rectE x0 y0 x1 y1 = 0 from if_pos ⟨by assumption, by omega, by omega, by omega, by omega⟩]; rfl | rw [rectE_bad (fun h => by simp_all)]; rfl), (by first | (simp [mkX, mkL, rectE, capG_0, ownG_0, prs_nil, h1d, h2d]; done) | (rw [show rectE x0 y0 x1 y1 = 1 from if_neg (fun h => by omega)]; rfl) | rw [rectE_bad (fun h => by omega)]; rfl | rw [show rectE x0 y0 x1 y1 = 0 from if_pos ⟨by assumption, by omega, by omega, by omega, by omega⟩]; rfl | rw [rectE_bad (fun h => by simp_all)]; rfl)⟩ ?_)
      exact absW
  · have h1d := h1
    try simp only [Bool.not_eq_true', Bool.not_eq_false', decide_eq_true_eq, decide_eq_false_iff_not, beq_iff_eq, bne_iff_ne, ne_eq, Bool.not_eq_true, Bool.not_eq_false, beq_eq_false_iff_ne, bne_eq_false_iff_eq, Classical.not_not, Bool.and_eq_true, Bool.and_eq_false_imp] at h1d
    have g'10 := (jn @h1 @h1d)
    refine runTf g'10 ?_
    refine hQ _ _ (end_byG (.inl rfl) hbel (x1 := .tup [.agg [.int .i64 0, .int .i64 0, .sl none 0 (some 0)], .int .i64 1]) (l2 := [.cells false 2 []]) (.tup [.agg [.int .i64 0, .int .i64 0, .sl (some (H.length, 0)) 0 (some 0)], .int .i64 1]) (resT Tryz.results268) [.cells false 2 []] rfl [3] (by decide) ⟨(by first | (simp [mkX, mkL, rectE, capG_0, ownG_0, prs_nil, h1d]; done) | (rw [show rectE x0 y0 x1 y1 = 1 from if_neg (fun h => by omega)]; rfl) | rw [rectE_bad (fun h => by omega)]; rfl | rw [show rectE x0 y0 x1 y1 = 0 from if_pos ⟨by assumption, by omega, by omega, by omega, by omega⟩]; rfl | rw [rectE_bad (fun h => by simp_all)]; rfl), (by first | (simp [mkX, mkL, rectE, capG_0, ownG_0, prs_nil, h1d]; done) | (rw [show rectE x0 y0 x1 y1 = 1 from if_neg (fun h => by omega)]; rfl) | rw [rectE_bad (fun h => by omega)]; rfl | rw [show rectE x0 y0 x1 y1 = 0 from if_pos ⟨by assumption, by omega, by omega, by omega, by omega⟩]; rfl | rw [rectE_bad (fun h => by simp_all)]; rfl)⟩ ?_)
    exact absW
theorem ofseg_c (H : AHeap) (x0 : Int) (y0 : Int) (x1 : Int) (y1 : Int) : ACalls Tryz.prog 271 [.agg [.int .i64 x0, .int .i64 y0], .agg [.int .i64 x1, .int .i64 y1]] H (fun v H' => v = .tup [.agg [.int .i64 (mkX (segE x0 y0 x1 y1) (x0 + x1)), .int .i64 (mkX (segE x0 y0 x1 y1) (y0 + y1)), .sl (some (H.length, 0)) ((mkL (segE x0 y0 x1 y1) (canonL [(x1 - x0, y1 - y0)])).length) (capG (mkL (segE x0 y0 x1 y1) (canonL [(x1 - x0, y1 - y0)])).length)], .int .i64 (segE x0 y0 x1 y1)] ∧ H' = H ++ [.cells (ownG (mkL (segE x0 y0 x1 y1) (canonL [(x1 - x0, y1 - y0)])).length) 2 (prs (mkL (segE x0 y0 x1 y1) (canonL [(x1 - x0, y1 - y0)])))]) := by
  refine AcT true Tryz.func271 ?_; intro hbel Q hQ
  refine runT ?_
  refine call_v (by kernel_rfl) (near_c _ _ [x0, y0, x1, y1] (.inr ⟨_, _, _, by first | rfl | (rw [List.length_append]; rfl), by first | rfl | (rw [get_newk]; rfl) | (rw [get_new0]; rfl) | (rw [get_newk, prs_append]; rfl) | (rw [get_new0, prs_append]; rfl)⟩) (by simp)) ?_
  rw [far4_any]
  refine runT ?_
  refine gd_split (fun h1 => ?_) (fun h1 => ?_)
  · have h1d := h1
    try simp only [Bool.not_eq_true', Bool.not_eq_false', decide_eq_true_eq, decide_eq_false_iff_not, beq_iff_eq, bne_iff_ne, ne_eq, Bool.not_eq_true, Bool.not_eq_false, beq_eq_false_iff_ne, bne_eq_false_iff_eq, Classical.not_not, Bool.and_eq_true, Bool.and_eq_false_imp] at h1d
    have hfar := far4_bd h1d
    have g'11 := (jn @h1 @h1d)
    refine runTf g'11 ?_
    refine call_v (by kernel_rfl) (size_c _ _ _ (by decide)) ?_
    refine runTf g'11 ?_
    refine gd_split (fun h2 => ?_) (fun h2 => ?_)
    · have h2d := h2
      try simp only [Bool.not_eq_true', Bool.not_eq_false', decide_eq_true_eq, decide_eq_false_iff_not, beq_iff_eq, bne_iff_ne, ne_eq, Bool.not_eq_true, Bool.not_eq_false, beq_eq_false_iff_ne, bne_eq_false_iff_eq, Classical.not_not, Bool.and_eq_true, Bool.and_eq_false_imp] at h2d
      have g'12 := (jn @h2 (jn @h2d g'11))
      refine runTf g'12 ?_
      refine call_v (by kernel_rfl) (size_c _ _ _ (by decide)) ?_
      refine runTf g'12 ?_
      refine cond_split (fun h3 => ?_) (fun h3 => ?_)
      · have h3d := h3
        try simp only [Bool.not_eq_true', Bool.not_eq_false', decide_eq_true_eq, decide_eq_false_iff_not, beq_iff_eq, bne_iff_ne, ne_eq, Bool.not_eq_true, Bool.not_eq_false, beq_eq_false_iff_ne, bne_eq_false_iff_eq, Classical.not_not, Bool.and_eq_true, Bool.and_eq_false_imp] at h3d
        have g'13 := (jn @h3 (jn @h3d g'12))
        refine runTf g'13 ?_
        refine hQ _ _ (end_byG (.inl rfl) hbel (x1 := .tup [.agg [.int .i64 0, .int .i64 0, .sl none 0 (some 0)], .int .i64 1]) (l2 := [.cells false 2 []]) (.tup [.agg [.int .i64 0, .int .i64 0, .sl (some (H.length, 0)) 0 (some 0)], .int .i64 1]) (resT Tryz.results271) [.cells false 2 []] rfl [4] (by decide) ⟨by simp [mkX, mkL, segE, capG_0, ownG_0, prs_nil, h1d, h2d, h3d], by simp [mkX, mkL, segE, capG_0, ownG_0, prs_nil, h1d, h2d, h3d]⟩ ?_)
        exact absW
      · have h3d := h3
        try simp only [Bool.not_eq_true', Bool.not_eq_false', decide_eq_true_eq, decide_eq_false_iff_not, beq_iff_eq, bne_iff_ne, ne_eq, Bool.not_eq_true, Bool.not_eq_false, beq_eq_false_iff_ne, bne_eq_false_iff_eq, Classical.not_not, Bool.and_eq_true, Bool.and_eq_false_imp] at h3d
        have g'14 := (jn @h3 (jn @h3d g'12))
        refine runTf g'14 ?_
        have hB4 : ∀ e ∈ [((x1 - x0 : Int), (y1 - y0 : Int))], Bd 4194304 e := fun e he => by
          simp only [List.mem_cons, List.not_mem_nil, or_false] at he
          first | (rcases he with rfl | rfl <;> (unfold Bd; simp only; omega)) | (subst he; unfold Bd; simp only; omega)
        refine call_v (by kernel_rfl) (canonical_u _ (x0 + x1) (y0 + y1) _ [(x1 - x0, y1 - y0)] (.inr ⟨_, _, _, by first | rfl | (rw [List.length_append]; rfl), by first | rfl | (rw [get_newk]; rfl) | (rw [get_new0]; rfl) | (rw [get_newk, prs_append]; rfl) | (rw [get_new0, prs_append]; rfl)⟩) (by first | omega | (simp only [List.length_cons, List.length_nil]; omega) | exact Nat.le_trans (mkL_len _ _) (by first | omega | simp) | exact Nat.le_trans (vL_len _ _) (by first | omega | simp) | exact Nat.le_trans corV_len (by omega) | exact Nat.le_trans (canonL_len _) (by first | omega | simp)) (by assumption)) ?_
        refine runTf g'14 ?_
        refine hQ _ _ (end_byG (.inl rfl) hbel (x1 := .tup [.agg [.int .i64 (x0 + x1), .int .i64 (y0 + y1), .sl (some (H.length + 5, 0)) ((canonL [(x1 - x0, y1 - y0)]).length) (capG (canonL [(x1 - x0, y1 - y0)]).length)], .int .i64 0]) (l2 := [.cells (ownG (canonL [(x1 - x0, y1 - y0)]).length) 2 (prs (canonL [(x1 - x0, y1 - y0)]))]) (.tup [.agg [.int .i64 (x0 + x1), .int .i64 (y0 + y1), .sl (some (H.length, 0)) ((canonL [(x1 - x0, y1 - y0)]).length) (capG (canonL [(x1 - x0, y1 - y0)]).length)], .int .i64 0]) (resT Tryz.results271) [] rfl [5] (by decide) ⟨by simp [mkX, mkL, segE, capG_0, ownG_0, prs_nil, h1d, h2d, h3d], by simp [mkX, mkL, segE, capG_0, ownG_0, prs_nil, h1d, h2d, h3d]⟩ ?_)
        exact absW
    · have h2d := h2
      try simp only [Bool.not_eq_true', Bool.not_eq_false', decide_eq_true_eq, decide_eq_false_iff_not, beq_iff_eq, bne_iff_ne, ne_eq, Bool.not_eq_true, Bool.not_eq_false, beq_eq_false_iff_ne, bne_eq_false_iff_eq, Classical.not_not, Bool.and_eq_true, Bool.and_eq_false_imp] at h2d
      have g'15 := (jn @h2 (jn @h2d g'11))
      refine runTf g'15 ?_
      refine hQ _ _ (end_byG (.inl rfl) hbel (x1 := .tup [.agg [.int .i64 0, .int .i64 0, .sl none 0 (some 0)], .int .i64 1]) (l2 := [.cells false 2 []]) (.tup [.agg [.int .i64 0, .int .i64 0, .sl (some (H.length, 0)) 0 (some 0)], .int .i64 1]) (resT Tryz.results271) [.cells false 2 []] rfl [4] (by decide) ⟨by simp [mkX, mkL, segE, capG_0, ownG_0, prs_nil, h1d, h2d], by simp [mkX, mkL, segE, capG_0, ownG_0, prs_nil, h1d, h2d]⟩ ?_)
      exact absW
  · have h1d := h1
    try simp only [Bool.not_eq_true', Bool.not_eq_false', decide_eq_true_eq, decide_eq_false_iff_not, beq_iff_eq, bne_iff_ne, ne_eq, Bool.not_eq_true, Bool.not_eq_false, beq_eq_false_iff_ne, bne_eq_false_iff_eq, Classical.not_not, Bool.and_eq_true, Bool.and_eq_false_imp] at h1d
    have g'16 := (jn @h1 @h1d)
    refine runTf g'16 ?_
    refine hQ _ _ (end_byG (.inl rfl) hbel (x1 := .tup [.agg [.int .i64 0, .int .i64 0, .sl none 0 (some 0)], .int .i64 1]) (l2 := [.cells false 2 []]) (.tup [.agg [.int .i64 0, .int .i64 0, .sl (some (H.length, 0)) 0 (some 0)], .int .i64 1]) (resT Tryz.results271) [.cells false 2 []] rfl [4] (by decide) ⟨by simp [mkX, mkL, segE, capG_0, ownG_0, prs_nil, h1d], by simp [mkX, mkL, segE, capG_0, ownG_0, prs_nil, h1d]⟩ ?_)
    exact absW
open Go.RowKit Go.Sort
set_option maxRecDepth 100000 in
theorem grow_a {H : AHeap} {n : Nat} (h0 : 0 < n) (h1 : n ≤ 1000) : ACalls Tryz.prog 391 [.sl none 0 (some 0), .int .i64 n] H
    (fun v H' => v = .sl (some (H.length, 0)) 0 none ∧ H' = H ++ [.cells true 2 []]) := fun E w vs hE hv => by
  obtain ⟨v1, l1, rfl, k1, h1'⟩ := rels_cons hv
  obtain ⟨v2, l2, rfl, k2, h2'⟩ := rels_cons h1'
  obtain rfl := rels_nil h2'
  obtain rfl := rel_int k2
  obtain rfl : v1 = .slice none 0 0 := by cases k1; rfl
  have hby : Tryz.prog.types[Tryz.grow391_ren.t 25].bytes = 16 := by kernel_rfl
  have h := Any8.slices_Grow_grow Tryz.grow391 _ _ rfl rfl (by decide) none 0 0 n [] w (Nat.le_refl _) (by omega) (by rw [hby]; omega) (by omega) rfl (fun _ => rfl) (fun a ha => by cases ha)
  refine Calls.mono h ?_
  rintro e w' ⟨rfl, rfl⟩
  have g1 := grownCap_ge w (0 + n) 0 (Tryz.grow391_ren.t 25)
  have g2 := grownCap_le_maxLen w (0 + n) 0 (Tryz.grow391_ren.t 25) (by unfold maxLen; omega)
  generalize grownCap w (0 + n) 0 (Tryz.grow391_ren.t 25) = G at *
  clear hby h
  generalize ht : Tryz.grow391_ren.t 25 = t at *
  have hsz : (#[] ++ Builtin.zeroCells (Value.agg #[Value.int .i64 0, Value.int .i64 0]).cells (0 + n - 0) ++ Builtin.zeroCells (Value.agg #[Value.int .i64 0, Value.int .i64 0]).cells (G - (0 + n))).size = G * 2 := by
    have e : (Value.agg #[Value.int .i64 0, Value.int .i64 0]).cells.size = 2 := rfl
    rw [Array.size_append, Array.size_append, size_zeroCells, size_zeroCells, e]
    simp; omega
  generalize (#[] ++ Builtin.zeroCells (Value.agg #[Value.int .i64 0, Value.int .i64 0]).cells (0 + n - 0) ++ Builtin.zeroCells (Value.agg #[Value.int .i64 0, Value.int .i64 0]).cells (G - (0 + n))) = arr at *
  have hb : Below w.heap.size w (w.drew.alloc (.cells arr t)) := (below_drewN (Below.refl _ _) 1).alloc (Nat.le_refl _) _
  refine ⟨E.push ⟨w.heap.size, 0, G * 2, 2⟩, _, _, .sl (some (H.length, 0)) 0 none, rfl, ⟨rfl, rfl⟩, E.le_push _, ?_, ?_⟩
  · have e1 : (E.push ⟨w.heap.size, 0, G * 2, 2⟩).loc H.length = ⟨w.heap.size, 0, G * 2, 2⟩ := by rw [← hE.n]; exact Env.push_new _ _
    refine .sl _ _ _ _ _ _ (by simp [Env.push, hE.n]) (Nat.zero_le _) g2 (.inl rfl) (.inr (by rw [e1])) ?_
    rw [e1]; simp
  · refine hE.grow (row := none) ⟨hb.os, hb.tape, hb.output, hb.size, fun k hk _ => hb.block k hk⟩ (fun k hk => by cases hk) rfl (fun c x hx => .inr ⟨hx, fun _ => by simp⟩) _ _ ?_ (fun c x hx ho => ?_)
    · refine ⟨fun j x hj => by simp at hj, fun _ => ⟨hE.base, ?_, rfl, Nat.zero_le _, fun j hj => ?_⟩, (fun hf => by cases hf), rfl⟩
      · show w.heap.size < (w.drew.heap.push _).size
        rw [Array.size_push]; exact Nat.lt_succ_self _
      · have e1 := World.cell?_alloc_at (w := w.drew) arr t w.heap.size (0 + j) rfl
        have e2 := World.frozen?_alloc_at (w := w.drew) arr t w.heap.size (0 + j) rfl
        refine ⟨?_, e2⟩
        have hj' : j < G * 2 := hj
        rw [e1, Array.getElem?_eq_getElem (by rw [hsz]; omega)]; rfl
    · have := hE.ownLt hx ho
      show (E.loc c).blk ≠ w.heap.size
      omega
open Go.RowKit
theorem prs_all {l : List Pt} : (prs l).take (l.length * 2) = prs l := by rw [prs_take, List.take_length]
def pre2 (a b : Nat) : Nat → Nat
  | 0 => 0
  | 1 => a
  | _ + 2 => a + b
def appL (l m : List Pt) : Nat → List Pt
  | 0 => []
  | 1 => l
  | _ + 2 => l ++ m
theorem grow_0 {H : AHeap} {n : Int} (hn : n = 0) : ACalls Tryz.prog 391 [.sl none 0 (some 0), .int .i64 n] H
    (fun v H' => v = .sl none 0 (some 0) ∧ H' = H) := fun E w vs hE hv => by
  obtain ⟨v1, l1, rfl, k1, h1'⟩ := rels_cons hv
  obtain ⟨v2, l2, rfl, k2, h2'⟩ := rels_cons h1'
  obtain rfl := rels_nil h2'
  obtain rfl := rel_int k2
  subst hn
  obtain rfl : v1 = .slice none 0 0 := by cases k1; rfl
  have h := Any8.slices_Grow_room Tryz.grow391 none 0 0 0 w (Nat.le_refl _) (by omega) (by omega) (by omega)
  refine Calls.mono h ?_
  rintro e w' ⟨rfl, rfl⟩
  exact ⟨E, _, _, _, rfl, ⟨rfl, rfl⟩, Env.le.refl E, .nilsl, hE⟩
theorem concat_0m (H : AHeap) (s : AV) (t : AV) (m : List (Int × Int)) (w : AV) (hs : Sl H 2 s 0 []) (ht : Sl H 2 t m.length (prs m)) (hw : Sl H 1 w 2 [s, t]) (hl0 : 0 < m.length) (hl1 : m.length ≤ 500) : ACalls Tryz.prog 339 [w] H (fun v H' => v = .sl (some (H.length, 0)) m.length (capG m.length) ∧ H' = H ++ [.cells (ownG m.length) 2 (prs m)]) := by
  obtain ⟨bs, os, cs, rfl, hbs⟩ := hs
  have hbls := getElem?_lt hbs
  have hb0s := fun l => get_app (l := l) hbs
  obtain ⟨bt, ot, ct, rfl, hbt⟩ := ht
  have hblt := getElem?_lt hbt
  have hb0t := fun l => get_app (l := l) hbt
  obtain ⟨bw, ow, cw, rfl, hbw⟩ := hw
  have hblw := getElem?_lt hbw
  have hb0w := fun l => get_app (l := l) hbw
  have hz : (m.length == 0) = false := beq_eq_false_iff_ne.2 (by omega)
  have hs0 : (((pre2 0 m.length 0) : Nat) : Int) + 0 = (((pre2 0 m.length 1) : Nat) : Int) := by simp [pre2]
  have hs1 : (((pre2 0 m.length 1) : Nat) : Int) + ((m.length : Nat) : Int) = (((pre2 0 m.length 2) : Nat) : Int) := by simp [pre2]
  have hb1 : (pre2 0 m.length 1) ≤ 500 := by simp only [pre2]; omega
  have hb2 : (pre2 0 m.length 2) ≤ 1000 := by simp only [pre2]; omega
  have hn1 : (((pre2 0 m.length 1) : Nat) : Int) < 0 ↔ False := ⟨fun h => by omega, fun h => h.elim⟩
  have hn2 : (((pre2 0 m.length 2) : Nat) : Int) < 0 ↔ False := ⟨fun h => by omega, fun h => h.elim⟩
  refine AcT true Tryz.func339 ?_; intro hbel Q hQ
  have g'1 := (jn @hbs (jn @hb0s (jn @hbt (jn @hb0t (jn @hbw (jn @hb0w (jn @hs0 (jn @hs1 (jn @hn1 (jn @hn2 (jn @decide_false (jn @hz (jn @appL.eq_1 (jn @appL.eq_2 (jn @appL.eq_3 (jn @prs_nil (jn @List.length_nil.{0} (jn @Nat.zero_add @List.nil_append.{0}))))))))))))))))))
  refine runTf g'1 ?_
  refine go_loop try_mixed (by kernel_rfl) (fun k F Hx => ∃ j : Nat, j + k = 2 ∧ F = [(0, .sl (some (bw, 0)) 2 cw), (3, .int .i64 (((pre2 0 m.length j) : Nat) : Int)), (9, .sl (some (bw, 0)) 2 cw), (10, .int .i64 2), (11, .int .i64 ((j : Nat) : Int))] ∧ H = Hx) (2) ?_ ?_
  · refine ⟨_, _, _, ⟨0, by omega, rfl, rfl⟩, Abs.by0 hbel ?_⟩
    exact absWf (jn @pre2.eq_1 (jn @Int.natCast_zero @Int.ofNat_zero))
  · rintro k0 F Hx ⟨j, hm0, rfl, rfl⟩ J0 hJ0
    refine runTf g'1 ?_
    refine cond_split (fun h1 => ?_) (fun h1 => ?_)
    · have h1d := h1
      try simp only [Bool.not_eq_true', Bool.not_eq_false', decide_eq_true_eq, decide_eq_false_iff_not, beq_iff_eq, bne_iff_ne, ne_eq, Bool.not_eq_true, Bool.not_eq_false, beq_eq_false_iff_ne, bne_eq_false_iff_eq, Classical.not_not, Bool.and_eq_true, Bool.and_eq_false_imp] at h1d
      obtain rfl | rfl := (by omega : j = 0 ∨ j = 1)
      · skip
        have g'2 := (jn @h1 (jn @h1d g'1))
        refine runTf g'2 ?_
        refine hJ0 _ _ ⟨k0 - 1, by omega, _, _, _, ⟨0 + 1, by omega, rfl, rfl⟩, Abs.by0 hbel ?_⟩
        exact absWf (jn @hs0 @hs1)
      · skip
        have g'3 := (jn @h1 (jn @h1d g'1))
        refine runTf g'3 ?_
        refine hJ0 _ _ ⟨k0 - 1, by omega, _, _, _, ⟨1 + 1, by omega, rfl, rfl⟩, Abs.by0 hbel ?_⟩
        exact absWf (jn @hs0 @hs1)
    · have h1d := h1
      try simp only [Bool.not_eq_true', Bool.not_eq_false', decide_eq_true_eq, decide_eq_false_iff_not, beq_iff_eq, bne_iff_ne, ne_eq, Bool.not_eq_true, Bool.not_eq_false, beq_eq_false_iff_ne, bne_eq_false_iff_eq, Classical.not_not, Bool.and_eq_true, Bool.and_eq_false_imp] at h1d
      obtain rfl : j = 2 := by omega
      have g'4 := (jn @h1 (jn @h1d g'1))
      refine runTf g'4 ?_
      refine call_v (by kernel_rfl) (grow_a (n := (pre2 0 m.length 2)) (by simp [pre2]; omega) (by omega)) ?_
      refine runTf g'4 ?_
      refine go_loop try_mixed (by kernel_rfl) (fun k F Hx => ∃ j : Nat, j + k = 2 ∧ F = [(6, .sl (some (H.length, 0)) ((appL [] m j).length) none), (25, .sl (some (bw, 0)) 2 cw), (26, .int .i64 2), (27, .int .i64 ((j : Nat) : Int))] ∧ Hx = H ++ [.cells true 2 (prs (appL [] m j))]) (2) ?_ ?_
      · refine ⟨_, _, _, ⟨0, by omega, rfl, rfl⟩, Abs.byG hbel [] rfl [0] (by decide) ?_⟩
        exact absRf @appL.eq_1
      · rintro k1 F Hx ⟨j, hm1, rfl, rfl⟩ J1 hJ1
        have g'5 := (jn @prs_len (jn @prs_one g'4))
        refine runTf g'5 ?_
        refine cond_split (fun h2 => ?_) (fun h2 => ?_)
        · have h2d := h2
          try simp only [Bool.not_eq_true', Bool.not_eq_false', decide_eq_true_eq, decide_eq_false_iff_not, beq_iff_eq, bne_iff_ne, ne_eq, Bool.not_eq_true, Bool.not_eq_false, beq_eq_false_iff_ne, bne_eq_false_iff_eq, Classical.not_not, Bool.and_eq_true, Bool.and_eq_false_imp] at h2d
          obtain rfl | rfl := (by omega : j = 0 ∨ j = 1)
          · skip
            have g'6 := (jn @h2 (jn @h2d g'5))
            refine runTf g'6 ?_
            refine hJ1 _ _ ⟨k1 - 1, by omega, _, _, _, ⟨0 + 1, by omega, rfl, rfl⟩, Abs.byG hbel [] rfl [0] (by decide) ?_⟩
            exact absRf (jn @appL.eq_1 (jn @appL.eq_2 @appL.eq_3))
          · skip
            have g'7 := (jn @h2 (jn @h2d (jn @prs_all g'5)))
            refine runTf g'7 ?_
            refine hJ1 _ _ ⟨k1 - 1, by omega, _, _, _, ⟨1 + 1, by omega, rfl, rfl⟩, Abs.byG hbel [] rfl [1] (by decide) ?_⟩
            exact absRf (jn @appL.eq_1 (jn @appL.eq_2 @appL.eq_3))
        · have h2d := h2
          try simp only [Bool.not_eq_true', Bool.not_eq_false', decide_eq_true_eq, decide_eq_false_iff_not, beq_iff_eq, bne_iff_ne, ne_eq, Bool.not_eq_true, Bool.not_eq_false, beq_eq_false_iff_ne, bne_eq_false_iff_eq, Classical.not_not, Bool.and_eq_true, Bool.and_eq_false_imp] at h2d
          obtain rfl : j = 2 := by omega
          have g'8 := (jn @h2 (jn @h2d g'5))
          refine runTf g'8 ?_
          refine hQ _ _ (end_byG (.inl rfl) hbel (x1 := .sl (some (H.length, 0)) ((appL [] m 2).length) none) (l2 := [.cells true 2 (prs (appL [] m 2))]) (.sl (some (H.length, 0)) ((appL [] m 2).length) none) (resTf (jn @appL.eq_3 @List.nil_append.{0}) Tryz.results339) [] rfl [0] (by decide) ⟨by simp [appL, capG_p hl0, ownG_p hl0], by simp [appL, capG_p hl0, ownG_p hl0]⟩ ?_)
          exact absW
theorem concat_lm (H : AHeap) (s : AV) (l : List (Int × Int)) (t : AV) (m : List (Int × Int)) (w : AV) (hs : Sl H 2 s l.length (prs l)) (ht : Sl H 2 t m.length (prs m)) (hw : Sl H 1 w 2 [s, t]) (hl0 : 0 < l.length) (hl1 : l.length ≤ 500) (hl2 : m.length ≤ 500) : ACalls Tryz.prog 339 [w] H (fun v H' => v = .sl (some (H.length, 0)) ((l ++ m).length) (capG (l ++ m).length) ∧ H' = H ++ [.cells (ownG (l ++ m).length) 2 (prs (l ++ m))]) := by
  obtain ⟨bs, os, cs, rfl, hbs⟩ := hs
  have hbls := getElem?_lt hbs
  have hb0s := fun l => get_app (l := l) hbs
  obtain ⟨bt, ot, ct, rfl, hbt⟩ := ht
  have hblt := getElem?_lt hbt
  have hb0t := fun l => get_app (l := l) hbt
  obtain ⟨bw, ow, cw, rfl, hbw⟩ := hw
  have hblw := getElem?_lt hbw
  have hb0w := fun l => get_app (l := l) hbw
  have hz : (l.length == 0) = false := beq_eq_false_iff_ne.2 (by omega)
  have hz2 : (l.length + m.length == 0) = false := beq_eq_false_iff_ne.2 (by omega)
  have hs0 : (((pre2 l.length m.length 0) : Nat) : Int) + ((l.length : Nat) : Int) = (((pre2 l.length m.length 1) : Nat) : Int) := by simp [pre2]
  have hs1 : (((pre2 l.length m.length 1) : Nat) : Int) + ((m.length : Nat) : Int) = (((pre2 l.length m.length 2) : Nat) : Int) := by simp [pre2]
  have hb1 : (pre2 l.length m.length 1) ≤ 500 := by simp only [pre2]; omega
  have hb2 : (pre2 l.length m.length 2) ≤ 1000 := by simp only [pre2]; omega
  have hn1 : (((pre2 l.length m.length 1) : Nat) : Int) < 0 ↔ False := ⟨fun h => by omega, fun h => h.elim⟩
  have hn2 : (((pre2 l.length m.length 2) : Nat) : Int) < 0 ↔ False := ⟨fun h => by omega, fun h => h.elim⟩
  refine AcT true Tryz.func339 ?_; intro hbel Q hQ
  have g'9 := (jn @hbs (jn @hb0s (jn @hbt (jn @hb0t (jn @hbw (jn @hb0w (jn @hs0 (jn @hs1 (jn @hn1 (jn @hn2 (jn @decide_false (jn @hz (jn @hz2 (jn @appL.eq_1 (jn @appL.eq_2 (jn @appL.eq_3 (jn @prs_nil (jn @List.length_nil.{0} (jn @Nat.zero_add @List.nil_append.{0})))))))))))))))))))
  refine runTf g'9 ?_
  refine go_loop try_mixed (by kernel_rfl) (fun k F Hx => ∃ j : Nat, j + k = 2 ∧ F = [(0, .sl (some (bw, 0)) 2 cw), (3, .int .i64 (((pre2 l.length m.length j) : Nat) : Int)), (9, .sl (some (bw, 0)) 2 cw), (10, .int .i64 2), (11, .int .i64 ((j : Nat) : Int))] ∧ H = Hx) (2) ?_ ?_
  · refine ⟨_, _, _, ⟨0, by omega, rfl, rfl⟩, Abs.by0 hbel ?_⟩
    exact absWf (jn @pre2.eq_1 (jn @Int.natCast_zero @Int.ofNat_zero))
  · rintro k0 F Hx ⟨j, hm0, rfl, rfl⟩ J0 hJ0
    refine runTf g'9 ?_
    refine cond_split (fun h1 => ?_) (fun h1 => ?_)
    · have h1d := h1
      try simp only [Bool.not_eq_true', Bool.not_eq_false', decide_eq_true_eq, decide_eq_false_iff_not, beq_iff_eq, bne_iff_ne, ne_eq, Bool.not_eq_true, Bool.not_eq_false, beq_eq_false_iff_ne, bne_eq_false_iff_eq, Classical.not_not, Bool.and_eq_true, Bool.and_eq_false_imp] at h1d
      obtain rfl | rfl := (by omega : j = 0 ∨ j = 1)
      · skip
        have g'10 := (jn @h1 (jn @h1d g'9))
        refine runTf g'10 ?_
        refine hJ0 _ _ ⟨k0 - 1, by omega, _, _, _, ⟨0 + 1, by omega, rfl, rfl⟩, Abs.by0 hbel ?_⟩
        exact absWf (jn @hs0 @hs1)
      · skip
        have g'11 := (jn @h1 (jn @h1d g'9))
        refine runTf g'11 ?_
        refine hJ0 _ _ ⟨k0 - 1, by omega, _, _, _, ⟨1 + 1, by omega, rfl, rfl⟩, Abs.by0 hbel ?_⟩
        exact absWf (jn @hs0 @hs1)
    · have h1d := h1
      try simp only [Bool.not_eq_true', Bool.not_eq_false', decide_eq_true_eq, decide_eq_false_iff_not, beq_iff_eq, bne_iff_ne, ne_eq, Bool.not_eq_true, Bool.not_eq_false, beq_eq_false_iff_ne, bne_eq_false_iff_eq, Classical.not_not, Bool.and_eq_true, Bool.and_eq_false_imp] at h1d
      obtain rfl : j = 2 := by omega
      have g'12 := (jn @h1 (jn @h1d g'9))
      refine runTf g'12 ?_
      refine call_v (by kernel_rfl) (grow_a (n := (pre2 l.length m.length 2)) (by simp [pre2]; omega) (by omega)) ?_
      refine runTf g'12 ?_
      refine go_loop try_mixed (by kernel_rfl) (fun k F Hx => ∃ j : Nat, j + k = 2 ∧ F = [(6, .sl (some (H.length, 0)) ((appL l m j).length) none), (25, .sl (some (bw, 0)) 2 cw), (26, .int .i64 2), (27, .int .i64 ((j : Nat) : Int))] ∧ Hx = H ++ [.cells true 2 (prs (appL l m j))]) (2) ?_ ?_
      · refine ⟨_, _, _, ⟨0, by omega, rfl, rfl⟩, Abs.byG hbel [] rfl [0] (by decide) ?_⟩
        exact absRf @appL.eq_1
      · rintro k1 F Hx ⟨j, hm1, rfl, rfl⟩ J1 hJ1
        have g'13 := (jn @prs_len (jn @prs_one g'12))
        refine runTf g'13 ?_
        refine cond_split (fun h2 => ?_) (fun h2 => ?_)
        · have h2d := h2
          try simp only [Bool.not_eq_true', Bool.not_eq_false', decide_eq_true_eq, decide_eq_false_iff_not, beq_iff_eq, bne_iff_ne, ne_eq, Bool.not_eq_true, Bool.not_eq_false, beq_eq_false_iff_ne, bne_eq_false_iff_eq, Classical.not_not, Bool.and_eq_true, Bool.and_eq_false_imp] at h2d
          obtain rfl | rfl := (by omega : j = 0 ∨ j = 1)
          · skip
            have g'14 := (jn @h2 (jn @h2d (jn @prs_all g'13)))
            refine runTf g'14 ?_
            refine hJ1 _ _ ⟨k1 - 1, by omega, _, _, _, ⟨0 + 1, by omega, rfl, rfl⟩, Abs.byG hbel [] rfl [1] (by decide) ?_⟩
            exact absRf (jn @appL.eq_1 (jn @appL.eq_2 @appL.eq_3))
          · skip
            have g'15 := (jn @h2 (jn @h2d (jn @prs_all g'13)))
            refine runTf g'15 ?_
            refine hJ1 _ _ ⟨k1 - 1, by omega, _, _, _, ⟨1 + 1, by omega, rfl, rfl⟩, Abs.byG hbel [] rfl [1] (by decide) ?_⟩
            exact absRf (jn @appL.eq_1 (jn @appL.eq_2 @appL.eq_3))
        · have h2d := h2
          try simp only [Bool.not_eq_true', Bool.not_eq_false', decide_eq_true_eq, decide_eq_false_iff_not, beq_iff_eq, bne_iff_ne, ne_eq, Bool.not_eq_true, Bool.not_eq_false, beq_eq_false_iff_ne, bne_eq_false_iff_eq, Classical.not_not, Bool.and_eq_true, Bool.and_eq_false_imp] at h2d
          obtain rfl : j = 2 := by omega
          have g'16 := (jn @h2 (jn @h2d g'13))
          refine runTf g'16 ?_
          refine hQ _ _ (end_byG (.inl rfl) hbel (x1 := .sl (some (H.length, 0)) ((appL l m 2).length) none) (l2 := [.cells true 2 (prs (appL l m 2))]) (.sl (some (H.length, 0)) ((appL l m 2).length) none) (resTf (jn @appL.eq_3 @List.length_append.{0}) Tryz.results339) [] rfl [0] (by decide) ⟨by have hlm : 0 < (l ++ m).length := (by rw [List.length_append]; omega); rw [show appL l m 2 = l ++ m from rfl, capG_p hlm], by have hlm : 0 < (l ++ m).length := (by rw [List.length_append]; omega); rw [show appL l m 2 = l ++ m from rfl, ownG_p hlm]⟩ ?_)
          exact absW
theorem concat_00 (H : AHeap) (s : AV) (t : AV) (w : AV) (hs : Sl H 2 s 0 []) (ht : Sl H 2 t 0 []) (hw : Sl H 1 w 2 [s, t]) : ACalls Tryz.prog 339 [w] H (fun v H' => v = .sl (some (H.length, 0)) (([] : List Pt).length) (capG ([] : List Pt).length) ∧ H' = H ++ [.cells (ownG ([] : List Pt).length) 2 (prs ([] : List Pt))]) := by
  obtain ⟨bs, os, cs, rfl, hbs⟩ := hs
  have hbls := getElem?_lt hbs
  have hb0s := fun l => get_app (l := l) hbs
  obtain ⟨bt, ot, ct, rfl, hbt⟩ := ht
  have hblt := getElem?_lt hbt
  have hb0t := fun l => get_app (l := l) hbt
  obtain ⟨bw, ow, cw, rfl, hbw⟩ := hw
  have hblw := getElem?_lt hbw
  have hb0w := fun l => get_app (l := l) hbw
  have hs0 : (((pre2 0 0 0) : Nat) : Int) + 0 = (((pre2 0 0 1) : Nat) : Int) := by simp [pre2]
  have hs1 : (((pre2 0 0 1) : Nat) : Int) + 0 = (((pre2 0 0 2) : Nat) : Int) := by simp [pre2]
  have hb1 : (pre2 0 0 1) ≤ 500 := by simp only [pre2]; omega
  have hb2 : (pre2 0 0 2) ≤ 1000 := by simp only [pre2]; omega
  have hn1 : (((pre2 0 0 1) : Nat) : Int) < 0 ↔ False := ⟨fun h => by omega, fun h => h.elim⟩
  have hn2 : (((pre2 0 0 2) : Nat) : Int) < 0 ↔ False := ⟨fun h => by omega, fun h => h.elim⟩
  refine AcT true Tryz.func339 ?_; intro hbel Q hQ
  have g'17 := (jn @hbs (jn @hb0s (jn @hbt (jn @hb0t (jn @hbw (jn @hb0w (jn @hs0 (jn @hs1 (jn @hn1 (jn @hn2 (jn @decide_false (jn @List.length_nil.{0} @Nat.zero_add))))))))))))
  refine runTf g'17 ?_
  refine go_loop try_mixed (by kernel_rfl) (fun k F Hx => ∃ j : Nat, j + k = 2 ∧ F = [(0, .sl (some (bw, 0)) 2 cw), (3, .int .i64 (((pre2 0 0 j) : Nat) : Int)), (9, .sl (some (bw, 0)) 2 cw), (10, .int .i64 2), (11, .int .i64 ((j : Nat) : Int))] ∧ H = Hx) (2) ?_ ?_
  · refine ⟨_, _, _, ⟨0, by omega, rfl, rfl⟩, Abs.by0 hbel ?_⟩
    exact absWf (jn @pre2.eq_1 (jn @Int.natCast_zero @Int.ofNat_zero))
  · rintro k0 F Hx ⟨j, hm0, rfl, rfl⟩ J0 hJ0
    refine runTf g'17 ?_
    refine cond_split (fun h1 => ?_) (fun h1 => ?_)
    · have h1d := h1
      try simp only [Bool.not_eq_true', Bool.not_eq_false', decide_eq_true_eq, decide_eq_false_iff_not, beq_iff_eq, bne_iff_ne, ne_eq, Bool.not_eq_true, Bool.not_eq_false, beq_eq_false_iff_ne, bne_eq_false_iff_eq, Classical.not_not, Bool.and_eq_true, Bool.and_eq_false_imp] at h1d
      obtain rfl | rfl := (by omega : j = 0 ∨ j = 1)
      · skip
        have g'18 := (jn @h1 (jn @h1d g'17))
        refine runTf g'18 ?_
        refine hJ0 _ _ ⟨k0 - 1, by omega, _, _, _, ⟨0 + 1, by omega, rfl, rfl⟩, Abs.by0 hbel ?_⟩
        exact absWf (jn @hs0 @hs1)
      · skip
        have g'19 := (jn @h1 (jn @h1d g'17))
        refine runTf g'19 ?_
        refine hJ0 _ _ ⟨k0 - 1, by omega, _, _, _, ⟨1 + 1, by omega, rfl, rfl⟩, Abs.by0 hbel ?_⟩
        exact absWf (jn @hs0 @hs1)
    · have h1d := h1
      try simp only [Bool.not_eq_true', Bool.not_eq_false', decide_eq_true_eq, decide_eq_false_iff_not, beq_iff_eq, bne_iff_ne, ne_eq, Bool.not_eq_true, Bool.not_eq_false, beq_eq_false_iff_ne, bne_eq_false_iff_eq, Classical.not_not, Bool.and_eq_true, Bool.and_eq_false_imp] at h1d
      obtain rfl : j = 2 := by omega
      have g'20 := (jn @h1 (jn @h1d g'17))
      refine runTf g'20 ?_
      refine call_v (by kernel_rfl) (grow_0 (by simp [pre2])) ?_
      refine runTf g'20 ?_
      refine go_loop try_mixed (by kernel_rfl) (fun k F Hx => ∃ j : Nat, j + k = 2 ∧ F = [(6, .sl none 0 (some 0)), (25, .sl (some (bw, 0)) 2 cw), (26, .int .i64 2), (27, .int .i64 ((j : Nat) : Int))] ∧ H = Hx) (2) ?_ ?_
      · refine ⟨_, _, _, ⟨0, by omega, rfl, rfl⟩, Abs.by0 hbel ?_⟩
        exact absWf (jn @appL.eq_1 (jn @prs_nil @List.length_nil.{0}))
      · rintro k1 F Hx ⟨j, hm1, rfl, rfl⟩ J1 hJ1
        refine runTf g'20 ?_
        refine cond_split (fun h2 => ?_) (fun h2 => ?_)
        · have h2d := h2
          try simp only [Bool.not_eq_true', Bool.not_eq_false', decide_eq_true_eq, decide_eq_false_iff_not, beq_iff_eq, bne_iff_ne, ne_eq, Bool.not_eq_true, Bool.not_eq_false, beq_eq_false_iff_ne, bne_eq_false_iff_eq, Classical.not_not, Bool.and_eq_true, Bool.and_eq_false_imp] at h2d
          obtain rfl | rfl := (by omega : j = 0 ∨ j = 1)
          · skip
            have g'21 := (jn @h2 (jn @h2d g'20))
            refine runTf g'21 ?_
            refine hJ1 _ _ ⟨k1 - 1, by omega, _, _, _, ⟨0 + 1, by omega, rfl, rfl⟩, Abs.by0 hbel ?_⟩
            exact absWf (jn @appL.eq_1 (jn @appL.eq_2 (jn @appL.eq_3 (jn @prs_nil (jn @List.length_nil.{0} @prs_append)))))
          · skip
            have g'22 := (jn @h2 (jn @h2d g'20))
            refine runTf g'22 ?_
            refine hJ1 _ _ ⟨k1 - 1, by omega, _, _, _, ⟨1 + 1, by omega, rfl, rfl⟩, Abs.by0 hbel ?_⟩
            exact absWf (jn @appL.eq_1 (jn @appL.eq_2 (jn @appL.eq_3 (jn @prs_nil (jn @List.length_nil.{0} @prs_append)))))
        · have h2d := h2
          try simp only [Bool.not_eq_true', Bool.not_eq_false', decide_eq_true_eq, decide_eq_false_iff_not, beq_iff_eq, bne_iff_ne, ne_eq, Bool.not_eq_true, Bool.not_eq_false, beq_eq_false_iff_ne, bne_eq_false_iff_eq, Classical.not_not, Bool.and_eq_true, Bool.and_eq_false_imp] at h2d
          obtain rfl : j = 2 := by omega
          have g'23 := (jn @h2 (jn @h2d g'20))
          refine runTf g'23 ?_
          refine hQ _ _ (end_byE (.inl rfl) hbel (x1 := .sl none 0 (some 0)) (l2 := [.cells false 2 []]) (.sl (some (H.length, 0)) 0 (some 0)) (resT Tryz.results339) [.cells false 2 []] rfl [0] (by decide) ⟨rfl, rfl⟩ ?_)
          exact absW
theorem concat_c (H : AHeap) (s t w : AV) (l m : List Pt) (hs : SlP H s l) (ht : SlP H t m) (hw : Sl H 1 w 2 [s, t]) (h1 : l.length ≤ 500) (h2 : m.length ≤ 500) :
    ACalls Tryz.prog 339 [w] H (fun v H' => v = .sl (some (H.length, 0)) (l ++ m).length (capG (l ++ m).length) ∧ H' = H ++ [.cells (ownG (l ++ m).length) 2 (prs (l ++ m))]) := by
  rcases l with _ | ⟨a, l⟩
  · rcases m with _ | ⟨b, m⟩
    · exact concat_00 H s t w hs ht hw
    · exact concat_0m H s t (b :: m) w hs ht hw (by simp) h2
  · exact concat_lm H s (a :: l) t m w hs ht hw (by simp) h1 h2
open Go.RowKit
/-- The error of a sum. -/
def sumE (x1 y1 : Int) (l : List Pt) (x2 y2 : Int) (m : List Pt) : Int := if (validB x1 y1 l && validB x2 y2 m) = true then (if validB (x1 + x2) (y1 + y2) (canonL (l ++ m)) = true then 0 else 6) else 1
theorem whole_t (H : AHeap) (x : Int) (y : Int) (s : AV) (l : List (Int × Int)) (hs : Sl H 2 s l.length (prs l)) (hv : validB x y l = true) : ACalls Tryz.prog 338 [.agg [.int .i64 x, .int .i64 y, s]] H (fun v H' => v = .tup [.agg [.int .i64 x, .int .i64 y, s], .int .i64 0] ∧ H' = H) := by
  obtain ⟨bs, os, cs, rfl, hbs⟩ := hs
  have hbls := getElem?_lt hbs
  have hb0s := fun l => get_app (l := l) hbs
  refine AcT true Tryz.func338 ?_; intro hbel Q hQ
  have g'1 := (jn @hbs (jn @hb0s @hv))
  refine runTf g'1 ?_
  refine call_v (by kernel_rfl) (valid_c _ x y _ l (.inr ⟨_, _, _, rfl, by first | exact hb0s _ | exact hbs⟩)) ?_
  refine runTf g'1 ?_
  refine hQ _ _ (end_byG (.inl rfl) hbel (x1 := .tup [.agg [.int .i64 x, .int .i64 y, .sl (some (bs, 0)) l.length cs], .int .i64 0]) (l2 := []) (.tup [.agg [.int .i64 x, .int .i64 y, .sl (some (bs, 0)) l.length cs], .int .i64 0]) (resT Tryz.results338) [] rfl [] (by decide) ⟨rfl, List.append_nil _⟩ ?_)
  exact absW
theorem whole_f (H : AHeap) (x : Int) (y : Int) (s : AV) (l : List (Int × Int)) (hs : Sl H 2 s l.length (prs l)) (hv : validB x y l = false) : ACalls Tryz.prog 338 [.agg [.int .i64 x, .int .i64 y, s]] H (fun v H' => v = .tup [.agg [.int .i64 0, .int .i64 0, .sl none 0 (some 0)], .int .i64 6] ∧ H' = H) := by
  obtain ⟨bs, os, cs, rfl, hbs⟩ := hs
  have hbls := getElem?_lt hbs
  have hb0s := fun l => get_app (l := l) hbs
  refine AcT true Tryz.func338 ?_; intro hbel Q hQ
  have g'2 := (jn @hbs (jn @hb0s @hv))
  refine runTf g'2 ?_
  refine call_v (by kernel_rfl) (valid_c _ x y _ l (.inr ⟨_, _, _, rfl, by first | exact hb0s _ | exact hbs⟩)) ?_
  refine runTf g'2 ?_
  exact hQ _ _ (end_plain (.inl rfl) hbel (x := .tup [.agg [.int .i64 0, .int .i64 0, .sl none 0 (some 0)], .int .i64 6]) (resT Tryz.results338) rfl ⟨rfl, rfl⟩)
theorem Sum_c (H : AHeap) (x1 : Int) (y1 : Int) (s : AV) (l : List (Int × Int)) (x2 : Int) (y2 : Int) (t : AV) (m : List (Int × Int)) (hs : Sl H 2 s l.length (prs l)) (ht : Sl H 2 t m.length (prs m)) : ACalls Tryz.prog 269 [.agg [.int .i64 x1, .int .i64 y1, s], .agg [.int .i64 x2, .int .i64 y2, t]] H (fun v H' => v = .tup [.agg [.int .i64 (mkX (sumE x1 y1 l x2 y2 m) (x1 + x2)), .int .i64 (mkX (sumE x1 y1 l x2 y2 m) (y1 + y2)), .sl (some (H.length, 0)) ((mkL (sumE x1 y1 l x2 y2 m) (canonL (l ++ m))).length) (capG (mkL (sumE x1 y1 l x2 y2 m) (canonL (l ++ m))).length)], .int .i64 (sumE x1 y1 l x2 y2 m)] ∧ H' = H ++ [.cells (ownG (mkL (sumE x1 y1 l x2 y2 m) (canonL (l ++ m))).length) 2 (prs (mkL (sumE x1 y1 l x2 y2 m) (canonL (l ++ m))))]) := by
  obtain ⟨bs, os, cs, rfl, hbs⟩ := hs
  have hbls := getElem?_lt hbs
  have hb0s := fun l => get_app (l := l) hbs
  obtain ⟨bt, ot, ct, rfl, hbt⟩ := ht
  have hblt := getElem?_lt hbt
  have hb0t := fun l => get_app (l := l) hbt
  refine AcT false Tryz.func269 ?_; intro hbel Q hQ
  have g'3 := (jn @hbs (jn @hb0s (jn @hbt @hb0t)))
  refine runTf g'3 ?_
  refine call_v (by kernel_rfl) (valid_c _ x1 y1 _ l (.inr ⟨_, _, _, rfl, by first | exact hb0s _ | exact hbs⟩)) ?_
  refine runTf g'3 ?_
  refine gd_split (fun h1 => ?_) (fun h1 => ?_)
  · have h1d := h1
    try simp only [Bool.not_eq_true', Bool.not_eq_false', decide_eq_true_eq, decide_eq_false_iff_not, beq_iff_eq, bne_iff_ne, ne_eq, Bool.not_eq_true, Bool.not_eq_false, beq_eq_false_iff_ne, bne_eq_false_iff_eq, Classical.not_not, Bool.and_eq_true, Bool.and_eq_false_imp] at h1d
    obtain ⟨hl16, hlB⟩ := valid_bd h1d
    have hxy1 := valid_bd3 h1d
    have hB1 : ∀ e ∈ l, Bd 4194304 e := fun e he => by have := hlB e he; unfold Bd at *; omega
    have g'4 := (jn @h1 (jn @h1d g'3))
    refine runTf g'4 ?_
    refine call_v (by kernel_rfl) (valid_c _ x2 y2 _ m (.inr ⟨_, _, _, rfl, by first | exact hb0t _ | exact hbt⟩)) ?_
    refine runTf g'4 ?_
    refine cond_split (fun h2 => ?_) (fun h2 => ?_)
    · have h2d := h2
      try simp only [Bool.not_eq_true', Bool.not_eq_false', decide_eq_true_eq, decide_eq_false_iff_not, beq_iff_eq, bne_iff_ne, ne_eq, Bool.not_eq_true, Bool.not_eq_false, beq_eq_false_iff_ne, bne_eq_false_iff_eq, Classical.not_not, Bool.and_eq_true, Bool.and_eq_false_imp] at h2d
      have g'5 := (jn @h2 (jn @h2d g'4))
      refine runTf g'5 ?_
      refine hQ _ _ (end_byG (.inl rfl) hbel (x1 := .tup [.agg [.int .i64 0, .int .i64 0, .sl none 0 (some 0)], .int .i64 1]) (l2 := [.cells false 2 []]) (.tup [.agg [.int .i64 0, .int .i64 0, .sl (some (H.length, 0)) 0 (some 0)], .int .i64 1]) (resT Tryz.results269) [.cells false 2 []] rfl [3] (by decide) ⟨by simp [mkX, mkL, sumE, capG_0, ownG_0, prs_nil, h1d, h2d], by simp [mkX, mkL, sumE, capG_0, ownG_0, prs_nil, h1d, h2d]⟩ ?_)
      exact absW
    · have h2d := h2
      try simp only [Bool.not_eq_true', Bool.not_eq_false', decide_eq_true_eq, decide_eq_false_iff_not, beq_iff_eq, bne_iff_ne, ne_eq, Bool.not_eq_true, Bool.not_eq_false, beq_eq_false_iff_ne, bne_eq_false_iff_eq, Classical.not_not, Bool.and_eq_true, Bool.and_eq_false_imp] at h2d
      obtain ⟨hm16, hmB⟩ := valid_bd h2d
      have hxy2 := valid_bd3 h2d
      have hB2 : ∀ e ∈ m, Bd 4194304 e := fun e he => by have := hmB e he; unfold Bd at *; omega
      have hll : (l ++ m).length = l.length + m.length := List.length_append
      have hcl := canonL_len (l ++ m)
      have hBB : ∀ e ∈ l ++ m, Bd 4194304 e := fun e he => by rcases List.mem_append.1 he with h | h; exact hB1 e h; exact hB2 e h
      have g'6 := (jn @h2 (jn @h2d g'4))
      refine runTf g'6 ?_
      refine call_x (by kernel_rfl) (by simp) (concat_c _ _ _ _ l m ⟨_, _, _, rfl, by first | exact hb0s _ | exact hbs⟩ ⟨_, _, _, rfl, by first | exact hb0t _ | exact hbt⟩ ⟨_, _, _, rfl, by first | rfl | exact get_newk | exact get_new0⟩ (by omega) (by omega)) ?_
      refine runTf g'6 ?_
      refine call_x (by kernel_rfl) (by simp) (canonical_u _ (x1 + x2) (y1 + y2) _ (l ++ m) (.inr ⟨_, _, _, by first | rfl | (rw [List.length_append]; done) | (rw [List.length_append]; rfl), by first | rfl | (rw [get_newk]; rfl) | (rw [get_new0]; rfl) | (rw [get_newk, prs_append]; rfl) | (rw [get_new0, prs_append]; rfl)⟩) (by first | omega | (simp only [List.length_cons, List.length_nil]; omega) | exact Nat.le_trans (mkL_len _ _) (by first | omega | simp) | exact Nat.le_trans (vL_len _ _) (by first | omega | simp) | exact Nat.le_trans corV_len (by omega) | exact Nat.le_trans (canonL_len _) (by first | omega | simp)) (by assumption)) ?_
      refine runTf g'6 ?_
      rcases Bool.eq_false_or_eq_true (validB (x1 + x2) (y1 + y2) (canonL (l ++ m))) with h3 | h3
      · have h3d := h3
        refine call_d (by kernel_rfl) (whole_t _ (x1 + x2) (y1 + y2) _ (canonL (l ++ m)) ⟨_, _, _, by first | rfl | (rw [List.length_append]; done) | (rw [List.length_append]; rfl), by first | rfl | (rw [get_newk]; rfl) | (rw [get_new0]; rfl) | (rw [get_newk, prs_append]; rfl) | (rw [get_new0, prs_append]; rfl)⟩ (by assumption)) ?_
        have g'7 := (jn @h3 (jn @h3d g'6))
        refine runTf g'7 ?_
        refine hQ _ _ (end_byG (.inl rfl) hbel (x1 := .tup [.agg [.int .i64 (x1 + x2), .int .i64 (y1 + y2), .sl (some (H.length + 5, 0)) ((canonL (l ++ m)).length) (capG (canonL (l ++ m)).length)], .int .i64 0]) (l2 := [.cells (ownG (canonL (l ++ m)).length) 2 (prs (canonL (l ++ m)))]) (.tup [.agg [.int .i64 (x1 + x2), .int .i64 (y1 + y2), .sl (some (H.length, 0)) ((canonL (l ++ m)).length) (capG (canonL (l ++ m)).length)], .int .i64 0]) (resT Tryz.results269) [] rfl [5] (by decide) ⟨by simp [mkX, mkL, sumE, capG_0, ownG_0, prs_nil, h1d, h2d, h3d], by simp [mkX, mkL, sumE, capG_0, ownG_0, prs_nil, h1d, h2d, h3d]⟩ ?_)
        exact absW
      · have h3d := h3
        refine call_d (by kernel_rfl) (whole_f _ (x1 + x2) (y1 + y2) _ (canonL (l ++ m)) ⟨_, _, _, by first | rfl | (rw [List.length_append]; done) | (rw [List.length_append]; rfl), by first | rfl | (rw [get_newk]; rfl) | (rw [get_new0]; rfl) | (rw [get_newk, prs_append]; rfl) | (rw [get_new0, prs_append]; rfl)⟩ (by assumption)) ?_
        have g'8 := (jn @h3 (jn @h3d g'6))
        refine runTf g'8 ?_
        refine hQ _ _ (end_byG (.inl rfl) hbel (x1 := .tup [.agg [.int .i64 0, .int .i64 0, .sl none 0 (some 0)], .int .i64 6]) (l2 := [.cells false 2 []]) (.tup [.agg [.int .i64 0, .int .i64 0, .sl (some (H.length, 0)) 0 (some 0)], .int .i64 6]) (resT Tryz.results269) [.cells false 2 []] rfl [6] (by decide) ⟨by simp [mkX, mkL, sumE, capG_0, ownG_0, prs_nil, h1d, h2d, h3d], by simp [mkX, mkL, sumE, capG_0, ownG_0, prs_nil, h1d, h2d, h3d]⟩ ?_)
        exact absW
  · have h1d := h1
    try simp only [Bool.not_eq_true', Bool.not_eq_false', decide_eq_true_eq, decide_eq_false_iff_not, beq_iff_eq, bne_iff_ne, ne_eq, Bool.not_eq_true, Bool.not_eq_false, beq_eq_false_iff_ne, bne_eq_false_iff_eq, Classical.not_not, Bool.and_eq_true, Bool.and_eq_false_imp] at h1d
    have g'9 := (jn @h1 (jn @h1d g'3))
    refine runTf g'9 ?_
    refine hQ _ _ (end_byG (.inl rfl) hbel (x1 := .tup [.agg [.int .i64 0, .int .i64 0, .sl none 0 (some 0)], .int .i64 1]) (l2 := [.cells false 2 []]) (.tup [.agg [.int .i64 0, .int .i64 0, .sl (some (H.length, 0)) 0 (some 0)], .int .i64 1]) (resT Tryz.results269) [.cells false 2 []] rfl [3] (by decide) ⟨by simp [mkX, mkL, sumE, capG_0, ownG_0, prs_nil, h1d], by simp [mkX, mkL, sumE, capG_0, ownG_0, prs_nil, h1d]⟩ ?_)
    exact absW
open Go.RowKit
theorem mem_spr {n : Pt} : ∀ {L : List Pt} {e : Pt}, e ∈ L → absI (dotP n e) ≤ spr n L
  | [], _, h => by cases h
  | g :: l, e, h => by
    rw [spr_cons]
    have h0 := spr_nn n l
    have h1 := absI_nn (dotP n g)
    rcases List.mem_cons.1 h with rfl | h
    · omega
    · have := mem_spr (n := n) h; omega
theorem canon_in {A : List Pt} {M : Int} (h1 : spr (1, 0) A ≤ M) (h2 : spr (0, 1) A ≤ M) : ∀ e ∈ canonL A, Bd M e := fun e he => by
  have a1 := mem_spr (n := (1, 0)) he
  have a2 := mem_spr (n := (0, 1)) he
  rw [spr_canon, absI_le] at a1 a2
  unfold dotP at a1 a2
  unfold Bd
  simp only at a1 a2
  omega
open Go.RowKit
theorem mkX_0 {x : Int} : mkX 0 x = x := rfl
theorem mkL_0 {L : List Pt} : mkL 0 L = L := rfl
open Go.RowKit
/-- The lower eight bits. -/
theorem and255 (a : Int) : (BitVec.ofInt 64 a &&& BitVec.ofInt 64 255).toNat = (a % 256).toNat := by
  rw [BitVec.toNat_and, BitVec.toNat_ofInt, BitVec.toNat_ofInt]
  have e : ((255 : Int) % ((2 ^ 64 : Nat) : Int)).toNat = 2 ^ 8 - 1 := by decide
  rw [e, Nat.and_two_pow_sub_one_eq_mod]
  have : (((a % ((2 ^ 64 : Nat) : Int)).toNat : Nat) : Int) = a % 18446744073709551616 := by
    rw [Int.toNat_of_nonneg (Int.emod_nonneg _ (by decide))]; rfl
  omega
/-- The greatest common divisor of three numbers. -/
def gcd3 (x y d : Int) : Nat := Nat.gcd (Nat.gcd d.natAbs x.natAbs) y.natAbs
abbrev Vec := Int × Int × Int
/-- A vector in lowest terms. -/
def lowV (x y d : Int) : Vec := (x.tdiv (gcd3 x y d), y.tdiv (gcd3 x y d), d.tdiv (gcd3 x y d))
theorem gcd3_pos {x y d : Int} (h : d ≠ 0) : 0 < gcd3 x y d := by
  unfold gcd3
  exact Nat.gcd_pos_of_pos_left _ (Nat.gcd_pos_of_pos_left _ (Int.natAbs_pos.2 h))
/-- The direction of a mark of the first quarter. -/
def dir0 (k : Nat) : Vec := lowV (4096 - (k : Int) * k) (128 * k) (4096 + (k : Int) * k)
def rotN (v : Vec) : Nat → Vec
  | 0 => v
  | n + 1 => (-(rotN v n).2.1, (rotN v n).1, (rotN v n).2.2)
def dirN (h : Nat) : Vec := rotN (dir0 (h % 64)) (h / 64)
/-- The direction of a mark. -/
def dirV (h : Int) : Vec := dirN (h % 256).toNat
def vecOK (v : Vec) : Bool := decide (1 ≤ v.2.2) && decide (v.2.2 ≤ 8065) && decide (-v.2.2 ≤ v.1) && decide (v.1 ≤ v.2.2) && decide (-v.2.2 ≤ v.2.1) && decide (v.2.1 ≤ v.2.2) && decide (v.1 * v.1 + v.2.1 * v.2.1 = v.2.2 * v.2.2)
theorem dirs_ok : (List.range 256).all (fun h => vecOK (dirN h)) = true := by decide +kernel
theorem dirs_crs : (List.range 127).all (fun h => decide (0 < crs ((dirN h).1, (dirN h).2.1) ((dirN (h + 1)).1, (dirN (h + 1)).2.1)) && decide (0 < (dirN (h + 1)).2.1) && decide ((dirN (h + 129)).1 = -(dirN (h + 1)).1 ∧ (dirN (h + 129)).2.1 = -(dirN (h + 1)).2.1)) = true := by decide +kernel
theorem dirV_ok (h : Int) : vecOK (dirV h) = true := by
  have := List.all_eq_true.1 dirs_ok (h % 256).toNat (by simp; omega)
  exact this
theorem vecOK_iff {v : Vec} : vecOK v = true ↔ (1 ≤ v.2.2 ∧ v.2.2 ≤ 8065) ∧ (-v.2.2 ≤ v.1 ∧ v.1 ≤ v.2.2) ∧ (-v.2.2 ≤ v.2.1 ∧ v.2.1 ≤ v.2.2) ∧ v.1 * v.1 + v.2.1 * v.2.1 = v.2.2 * v.2.2 := by
  unfold vecOK
  simp only [Bool.and_eq_true, decide_eq_true_eq]
  constructor
  · rintro ⟨⟨⟨⟨⟨⟨a, b⟩, c⟩, d⟩, e⟩, f⟩, g⟩; exact ⟨⟨a, b⟩, ⟨c, d⟩, ⟨e, f⟩, g⟩
  · rintro ⟨⟨a, b⟩, ⟨c, d⟩, ⟨e, f⟩, g⟩; exact ⟨⟨⟨⟨⟨⟨a, b⟩, c⟩, d⟩, e⟩, f⟩, g⟩
/-- A quotient rounded down. -/
theorem floor_eq {a b : Int} (h : 0 < b) : (if a.tmod b < 0 then a.tdiv b - 1 else a.tdiv b) = a / b := by
  rw [Int.tdiv_eq_ediv, Int.tmod_eq_emod]
  have h1 := Int.emod_nonneg a (by omega : b ≠ 0)
  have h2 := Int.emod_lt_of_pos a h
  have hs : b.sign = 1 := Int.sign_eq_one_of_pos h
  have hn : (b.natAbs : Int) = b := by omega
  split
  · rw [if_neg (by omega)]; omega
  · rw [if_pos (by omega), hs]; omega
/-- The half of the circle in which a vector lies. -/
def halfI (x y : Int) : Int := if 0 < y ∨ (y = 0 ∧ 0 < x) then 0 else 1
/-- Whether a direction is beyond a vector. -/
def beyB (v : Vec) (x y : Int) : Bool :=
  if halfI v.1 v.2.1 = halfI x y then decide (crs (v.1, v.2.1) (x, y) < 0) else decide (halfI v.1 v.2.1 = 1)
theorem up_pos {x y : Int} (k : halfI x y = 0) : up (x, y) := by
  unfold halfI at k
  split at k
  · unfold up; simp only; omega
  · omega
theorem halfI_or (x y : Int) : halfI x y = 0 ∨ halfI x y = 1 := by unfold halfI; split <;> simp
theorem dir_step {h : Nat} (hh : h < 127) : 0 < crs ((dirN h).1, (dirN h).2.1) ((dirN (h + 1)).1, (dirN (h + 1)).2.1) ∧ 0 < (dirN (h + 1)).2.1 ∧ (dirN (h + 129)).1 = -(dirN (h + 1)).1 ∧ (dirN (h + 129)).2.1 = -(dirN (h + 1)).2.1 := by
  have := List.all_eq_true.1 dirs_crs h (by simp; exact hh)
  simp only [Bool.and_eq_true, decide_eq_true_eq] at this
  exact ⟨this.1.1, this.1.2, this.2⟩
theorem dir_0 : dirN 0 = (1, 0, 1) := by decide +kernel
theorem dir_up {h : Nat} (hh : h < 128) : up ((dirN h).1, (dirN h).2.1) := by
  cases h with
  | zero => rw [dir_0]; unfold up; simp
  | succ h => exact .inl (dir_step (h := h) (by omega)).2.1
theorem dir_half0 {h : Nat} (hh : h < 128) : halfI (dirN h).1 (dirN h).2.1 = 0 := by
  have := dir_up hh
  unfold up at this
  unfold halfI
  rw [if_pos this]
theorem bey_0 {x y : Int} (hd : ¬ (x = 0 ∧ y = 0)) : beyB (dirN 0) x y = false := by
  unfold beyB
  rw [dir_half0 (by omega), dir_0]
  split
  · rename_i e
    have hu := up_pos e.symm
    rw [decide_eq_false_iff_not]
    unfold crs
    unfold up at hu
    simp only at hu ⊢
    omega
  · rfl
/-- The greatest mark that is not beyond a vector, among the first n. -/
def towN (x y : Int) : Nat → Nat
  | 0 => 0
  | n + 1 => if beyB (dirN n) x y = true then towN x y n else n
open Go.RowKit
theorem dirs_app (A B : List Pt) : dirs (A ++ B) = dirs A ++ dirs B := by unfold dirs; rw [List.map_append, List.filter_append]
theorem nrm_of_up {e : Pt} (h : up e) : nrm e = e := by
  unfold up at h
  unfold nrm
  rw [if_neg (by omega)]
theorem dirs_id : ∀ {C : List Pt}, (∀ e ∈ C, up e) → dirs C = C
  | [], _ => rfl
  | e :: C, h => by
    have he := h e (by simp)
    have ih := dirs_id (C := C) fun x hx => h x (by simp [hx])
    unfold dirs at ih ⊢
    rw [List.map_cons, nrm_of_up he, List.filter_cons, if_pos (by simp only [decide_eq_true_eq]; exact up_ne he), ih]
theorem canonL_appl (A B : List Pt) : canonL (canonL A ++ B) = canonL (A ++ B) := by
  have h1 := canonL_can (canonL A ++ B)
  have hA := canonL_can A
  refine Can.eq (S := dirs (A ++ B)) ⟨h1.sorted, h1.ups, fun g hg => ?_⟩ (canonL_can _)
  rw [h1.sums g hg, dirs_app, dirs_app, dsum_append, dsum_append, dirs_id hA.ups, hA.sums g hg]
theorem canonL_appr (A B : List Pt) : canonL (A ++ canonL B) = canonL (A ++ B) := by
  have h1 := canonL_can (A ++ canonL B)
  have hB := canonL_can B
  refine Can.eq (S := dirs (A ++ B)) ⟨h1.sorted, h1.ups, fun g hg => ?_⟩ (canonL_can _)
  rw [h1.sums g hg, dirs_app, dirs_app, dsum_append, dsum_append, dirs_id hB.ups, hB.sums g hg]
theorem validB_of {x y : Int} {l : List Pt} (hx : -8388608 ≤ x ∧ x ≤ 8388608) (hy : -8388608 ≤ y ∧ y ≤ 8388608) (hl : l.length ≤ 16) (hB : ∀ e ∈ l, Bd 65536 e) : validB x y l = true := by
  unfold validB
  simp only [Bool.and_eq_true, decide_eq_true_eq, Bool.not_eq_true', within_iff]
  refine ⟨⟨⟨hx, hy⟩, hl⟩, List.any_eq_false.2 fun e he => ?_⟩
  have := hB e he
  unfold Bd at this
  simp only [wrongB, Bool.not_eq_true', Bool.not_eq_false, Bool.and_eq_true, within_iff]
  omega
theorem sumE_0 {x1 y1 : Int} {l : List Pt} {x2 y2 : Int} {m : List Pt} (h1 : validB x1 y1 l = true) (h2 : validB x2 y2 m = true) (h3 : validB (x1 + x2) (y1 + y2) (canonL (l ++ m)) = true) : sumE x1 y1 l x2 y2 m = 0 := by
  unfold sumE; rw [h1, h2, h3]; rfl
/-- A rectangle's generators; a square's. -/
def recL (x0 y0 x1 y1 : Int) : List Pt := [(x1 - x0, 0), (0, y1 - y0)]
def sqrL (a : Int) : List Pt := [(a - (0 - a), 0), (0, a - (0 - a))]
/-- The way of a forward motion. -/
def wayX (h m : Int) : Int := m * (dirV h).1 / (dirV h).2.2
def wayY (h m : Int) : Int := m * (dirV h).2.1 / (dirV h).2.2
theorem div_bd {m a d : Int} (hd : 1 ≤ d) (ha : -d ≤ a ∧ a ≤ d) (hm : 0 ≤ m) : -m ≤ m * a / d ∧ m * a / d ≤ m := by
  constructor
  · rw [Int.le_ediv_iff_mul_le (by omega)]
    have := Int.mul_le_mul_of_nonneg_left ha.1 hm
    rw [Int.mul_neg] at this
    rw [Int.neg_mul]; exact this
  · have := Int.mul_le_mul_of_nonneg_left ha.2 hm
    have h2 : m * a / d ≤ m * d / d := Int.ediv_le_ediv (by omega) this
    rwa [Int.mul_ediv_cancel _ (by omega)] at h2
theorem way_bd (h : Int) {m : Int} (hm : 0 ≤ m) : (-m ≤ wayX h m ∧ wayX h m ≤ m) ∧ (-m ≤ wayY h m ∧ wayY h m ≤ m) := by
  have hv := vecOK_iff.1 (dirV_ok h)
  exact ⟨div_bd hv.1.1 hv.2.1 hm, div_bd hv.1.1 hv.2.2.1 hm⟩
theorem spr1 (a b : Int) (l : List Pt) : spr (1, 0) ((a, b) :: l) = absI a + spr (1, 0) l ∧ spr (0, 1) ((a, b) :: l) = absI b + spr (0, 1) l := by
  rw [spr_cons, spr_cons]
  unfold dotP; simp
theorem spr_nil (n : Pt) : spr n [] = 0 := rfl
theorem canon_valid {x y : Int} {A : List Pt} (hx : -8388608 ≤ x ∧ x ≤ 8388608) (hy : -8388608 ≤ y ∧ y ≤ 8388608) (hl : A.length ≤ 16) (h1 : spr (1, 0) A ≤ 65536) (h2 : spr (0, 1) A ≤ 65536) : validB x y (canonL A) = true :=
  validB_of hx hy (Nat.le_trans (canonL_len A) hl) (canon_in h1 h2)
theorem sum_ok {x1 y1 x2 y2 : Int} {A B : List Pt} (hx1 : -4194304 ≤ x1 ∧ x1 ≤ 4194304) (hy1 : -4194304 ≤ y1 ∧ y1 ≤ 4194304) (hx2 : -4194304 ≤ x2 ∧ x2 ≤ 4194304) (hy2 : -4194304 ≤ y2 ∧ y2 ≤ 4194304)
    (hl : A.length + B.length ≤ 16) (h1 : spr (1, 0) A + spr (1, 0) B ≤ 65536) (h2 : spr (0, 1) A + spr (0, 1) B ≤ 65536) : sumE x1 y1 (canonL A) x2 y2 (canonL B) = 0 := by
  have a1 := spr_nn (1, 0) A
  have a2 := spr_nn (0, 1) A
  have b1 := spr_nn (1, 0) B
  have b2 := spr_nn (0, 1) B
  refine sumE_0 (canon_valid (by omega) (by omega) (by omega) (by omega) (by omega)) (canon_valid (by omega) (by omega) (by omega) (by omega) (by omega)) ?_
  have e : canonL (canonL A ++ canonL B) = canonL (A ++ B) := by rw [canonL_appl, canonL_appr]
  rw [e]
  exact canon_valid (by omega) (by omega) (by rw [List.length_append]; omega) (by rw [spr_app]; omega) (by rw [spr_app]; omega)
/-- Whether a number is in a range; a command's, the bounds' validity. -/
def btw (n lo hi : Int) : Bool := decide (lo ≤ n) && decide (n ≤ hi)
theorem btw_iff {n lo hi : Int} : btw n lo hi = true ↔ lo ≤ n ∧ n ≤ hi := by unfold btw; simp
def cmdB (t f : Int) : Bool := within t 32 && btw f 0 32
def bndB (tu le sl ra : Int) : Bool := btw tu 0 8 && (btw le 0 16 && (btw sl 0 8 && btw ra 1 32))
/-- Whether a sweep's arguments are valid. -/
def sweB (x0 y0 x1 y1 t f tu le sl ra : Int) : Bool :=
  within x0 1048576 && (within y0 1048576 && (within x1 1048576 && (within y1 1048576 && (btw (x1 - x0) 0 32768 && (btw (y1 - y0) 0 32768 && (cmdB t f && bndB tu le sl ra))))))
def sweE (x0 y0 x1 y1 h t f tu le sl ra : Int) : Int := if sweB x0 y0 x1 y1 t f tu le sl ra = true then (if btw h 0 255 = true then 0 else 2) else 1
def wayL (h f le : Int) : List Pt := if f = 0 then [] else [(wayX h (f + le), wayY h (f + le))]
def hlf (f sl : Int) : Int := if f = 0 then 20 else sl + 21
/-- What a sweep is: its center and its generators. -/
def sweX (x0 x1 h f le : Int) : Int := x0 + x1 + (if f = 0 then 0 else wayX h (f + le))
def sweY (y0 y1 h f le : Int) : Int := y0 + y1 + (if f = 0 then 0 else wayY h (f + le))
def sweL (x0 y0 x1 y1 h f le sl : Int) : List Pt := canonL (recL x0 y0 x1 y1 ++ wayL h f le ++ sqrL (hlf f sl))
theorem swe_bd {x0 y0 x1 y1 t f tu le sl ra : Int} (h : sweB x0 y0 x1 y1 t f tu le sl ra = true) : ((-1048576 ≤ x0 ∧ x0 ≤ 1048576) ∧ (-1048576 ≤ y0 ∧ y0 ≤ 1048576) ∧ (-1048576 ≤ x1 ∧ x1 ≤ 1048576) ∧ (-1048576 ≤ y1 ∧ y1 ≤ 1048576)) ∧ ((0 ≤ x1 - x0 ∧ x1 - x0 ≤ 32768) ∧ (0 ≤ y1 - y0 ∧ y1 - y0 ≤ 32768)) ∧ (-32 ≤ t ∧ t ≤ 32) ∧ (0 ≤ f ∧ f ≤ 32) ∧ (0 ≤ tu ∧ tu ≤ 8) ∧ (0 ≤ le ∧ le ≤ 16) ∧ (0 ≤ sl ∧ sl ≤ 8) ∧ (1 ≤ ra ∧ ra ≤ 32) := by
  unfold sweB cmdB bndB at h
  simp only [Bool.and_eq_true, within_iff, btw_iff] at h
  omega
theorem rec_spr {x0 y0 x1 y1 : Int} (hx : 0 ≤ x1 - x0) (hy : 0 ≤ y1 - y0) : spr (1, 0) (recL x0 y0 x1 y1) = x1 - x0 ∧ spr (0, 1) (recL x0 y0 x1 y1) = y1 - y0 := by
  unfold recL
  rw [(spr1 _ _ _).1, (spr1 _ _ _).1, (spr1 _ _ _).2, (spr1 _ _ _).2, spr_nil, spr_nil, absI_of_nn hx, absI_of_nn hy, absI_zero]
  omega
theorem sqr_spr {a : Int} (h : 0 ≤ a) : spr (1, 0) (sqrL a) = 2 * a ∧ spr (0, 1) (sqrL a) = 2 * a := by
  unfold sqrL
  rw [(spr1 _ _ _).1, (spr1 _ _ _).1, (spr1 _ _ _).2, (spr1 _ _ _).2, spr_nil, spr_nil, absI_of_nn (by omega : 0 ≤ a - (0 - a)), absI_zero]
  omega
theorem way_spr {h m : Int} (hm : 0 ≤ m) : spr (1, 0) [(wayX h m, wayY h m)] ≤ m ∧ spr (0, 1) [(wayX h m, wayY h m)] ≤ m := by
  have := way_bd h hm
  rw [(spr1 _ _ _).1, (spr1 _ _ _).2, spr_nil, spr_nil]
  unfold absI
  constructor <;> split <;> omega
theorem sw_eq (R W Q : List Pt) : canonL (canonL (canonL R ++ canonL W) ++ canonL Q) = canonL (R ++ W ++ Q) := by
  rw [canonL_appl, canonL_appr, List.append_assoc, canonL_appl, ← List.append_assoc]
  have e : canonL (R ++ canonL W ++ Q) = canonL (R ++ W ++ Q) := by
    rw [← canonL_appl (R ++ canonL W), canonL_appr, canonL_appl]
  exact e
theorem sw_eq0 (R Q : List Pt) : canonL (canonL R ++ canonL Q) = canonL (R ++ [] ++ Q) := by
  rw [canonL_appl, canonL_appr, List.append_nil]
open Go.RowKit
theorem tdiv_bd {a b : Int} (hb : 0 < b) (hw : -4611686018427387904 ≤ a ∧ a ≤ 4611686018427387904) : -4611686018427387904 ≤ Int.tdiv a b ∧ Int.tdiv a b ≤ 4611686018427387904 := by
  have h := floor_eq (a := a) hb
  have h1 : a / b ≤ 4611686018427387904 := Int.ediv_le_of_le_mul hb (by have := Int.mul_le_mul_of_nonneg_left (show (1 : Int) ≤ b by omega) (by decide : (0 : Int) ≤ 4611686018427387904); omega)
  have h2 : -4611686018427387904 ≤ a / b := by
    rw [Int.le_ediv_iff_mul_le hb]
    have := Int.mul_le_mul_of_nonneg_left (show (1 : Int) ≤ b by omega) (by decide : (0 : Int) ≤ 4611686018427387904)
    rw [Int.neg_mul]; omega
  rw [Int.tdiv_eq_ediv]
  have hs : b.sign = 1 := Int.sign_eq_one_of_pos hb
  split
  · omega
  · rename_i hh
    rw [hs]
    rcases (by omega : a / b ≤ 4611686018427387903 ∨ a / b = 4611686018427387904) with k | k
    · omega
    · exfalso
      have h3 : 4611686018427387904 * b ≤ a := by rw [← Int.le_ediv_iff_mul_le hb]; omega
      have := Int.mul_le_mul_of_nonneg_left (show (1 : Int) ≤ b by omega) (by decide : (0 : Int) ≤ 4611686018427387904)
      omega
theorem i64_and255 (a : Int) : IntKind.i64.wrap ((BitVec.ofInt IntKind.i64.bits a &&& BitVec.ofInt IntKind.i64.bits 255).toNat : Int) = (((a % 256).toNat : Nat) : Int) := by
  have h := and255 a
  show IntKind.i64.wrap (((BitVec.ofInt 64 a &&& BitVec.ofInt 64 255).toNat : Nat) : Int) = _
  rw [h]
  exact wrap_in (by omega) (by omega)
theorem rem_n64 (a : Nat) : Int.tmod (a : Int) 64 = ((a % 64 : Nat) : Int) := rfl
theorem quo_n64 (a : Nat) : Int.tdiv (a : Int) 64 = ((a / 64 : Nat) : Int) := rfl
theorem mwithin_c (H : AHeap) (n : Int) (lo : Int) (hi : Int) : ACalls Tryz.prog 193 [.int .i64 n, .int .i64 lo, .int .i64 hi] H (fun v H' => v = .bool (btw n lo hi) ∧ H' = H) := by
  refine AcT true Tryz.func193 ?_; intro hbel Q hQ
  refine runT ?_
  refine gd_split (fun h1 => ?_) (fun h1 => ?_)
  · have h1d := bsT h1
    have g'1 := (jn @h1 @h1d)
    refine runTf g'1 ?_
    exact hQ _ _ (end_plain0 (.inl rfl) hbel (x := .bool (decide (n ≤ hi))) (resT Tryz.results193) rfl ⟨by simp [btw, h1d], rfl⟩)
  · have h1d := bsT h1
    have g'2 := (jn @h1 @h1d)
    refine runTf g'2 ?_
    exact hQ _ _ (end_plain0 (.inl rfl) hbel (x := .bool false) (resT Tryz.results193) rfl ⟨by simp [btw, h1d], rfl⟩)
theorem dbetween_c (H : AHeap) (n : Int) (lo : Int) (hi : Int) : ACalls Tryz.prog 192 [.int .i64 n, .int .i64 lo, .int .i64 hi] H (fun v H' => v = .bool (btw n lo hi) ∧ H' = H) := by
  refine AcT true Tryz.func192 ?_; intro hbel Q hQ
  refine runT ?_
  refine gd_split (fun h1 => ?_) (fun h1 => ?_)
  · have h1d := bsT h1
    have g'3 := (jn @h1 @h1d)
    refine runTf g'3 ?_
    exact hQ _ _ (end_plain0 (.inl rfl) hbel (x := .bool (decide (n ≤ hi))) (resT Tryz.results192) rfl ⟨by simp [btw, h1d], rfl⟩)
  · have h1d := bsT h1
    have g'4 := (jn @h1 @h1d)
    refine runTf g'4 ?_
    exact hQ _ _ (end_plain0 (.inl rfl) hbel (x := .bool false) (resT Tryz.results192) rfl ⟨by simp [btw, h1d], rfl⟩)
theorem mnear_c (H : AHeap) (n : Int) : ACalls Tryz.prog 191 [.int .i64 n] H (fun v H' => v = .bool (within n 1048576) ∧ H' = H) := by
  refine AcT true Tryz.func191 ?_; intro hbel Q hQ
  refine runT ?_
  refine call_v (by kernel_rfl) (mwithin_c _ n (-1048576) 1048576) ?_
  refine runT ?_
  exact hQ _ _ (end_plain0 (.inl rfl) hbel (x := .bool (btw n (-1048576) 1048576)) (resT Tryz.results191) rfl ⟨by simp [btw, within, true_and], rfl⟩)
theorem dwithin_c (H : AHeap) (x : Int) (m : Int) (h : 0 ≤ m ∧ m ≤ 4611686018427387904) : ACalls Tryz.prog 133 [.int .i64 x, .int .i64 m] H (fun v H' => v = .bool (within x m) ∧ H' = H) := by
  refine AcT true Tryz.func133 ?_; intro hbel Q hQ
  refine runT ?_
  refine call_v (by kernel_rfl) (dbetween_c _ x (0 - m) m) ?_
  refine runT ?_
  exact hQ _ _ (end_plain0 (.inl rfl) hbel (x := .bool (btw x (0 - m) m)) (resT Tryz.results133) rfl ⟨by simp [btw, within, true_and], rfl⟩)
theorem vcmd_c (H : AHeap) (t : Int) (f : Int) : ACalls Tryz.prog 110 [.agg [.int .i64 t, .int .i64 f]] H (fun v H' => v = .bool (cmdB t f) ∧ H' = H) := by
  refine AcT true Tryz.func110 ?_; intro hbel Q hQ
  refine runT ?_
  refine call_v (by kernel_rfl) (dwithin_c _ t 32 (by decide)) ?_
  refine runT ?_
  refine gd_split (fun h1 => ?_) (fun h1 => ?_)
  · have h1d := bsT h1
    have g'5 := (jn @h1 @h1d)
    refine runTf g'5 ?_
    refine call_v (by kernel_rfl) (dbetween_c _ f 0 32) ?_
    refine runTf g'5 ?_
    exact hQ _ _ (end_plain (.inl rfl) hbel (x := .bool (btw f 0 32)) (resT Tryz.results110) rfl ⟨by simp [cmdB, h1d], rfl⟩)
  · have h1d := bsT h1
    have g'6 := (jn @h1 @h1d)
    refine runTf g'6 ?_
    exact hQ _ _ (end_plain (.inl rfl) hbel (x := .bool false) (resT Tryz.results110) rfl ⟨by simp [cmdB, h1d], rfl⟩)
theorem bcmd_c (H : AHeap) (t : Int) (f : Int) : ACalls Tryz.prog 40 [.agg [.int .i64 t, .int .i64 f]] H (fun v H' => v = .bool (cmdB t f) ∧ H' = H) := by
  refine AcT true Tryz.func40 ?_; intro hbel Q hQ
  refine runT ?_
  refine call_v (by kernel_rfl) (bsize_c _ _ _ (by decide)) ?_
  refine runT ?_
  refine gd_split (fun h1 => ?_) (fun h1 => ?_)
  · have h1d := bsT h1
    have g'7 := (jn @h1 @h1d)
    refine runTf g'7 ?_
    refine gd_split (fun h2 => ?_) (fun h2 => ?_)
    · have h2d := bsT h2
      have g'8 := (jn @h2 (jn @h2d g'7))
      refine runTf g'8 ?_
      exact hQ _ _ (end_plain (.inl rfl) hbel (x := .bool (decide (f ≤ 32))) (resT Tryz.results40) rfl ⟨by simp [cmdB, btw, h1d, h2d], rfl⟩)
    · have h2d := bsT h2
      have g'9 := (jn @h2 (jn @h2d g'7))
      refine runTf g'9 ?_
      exact hQ _ _ (end_plain (.inl rfl) hbel (x := .bool false) (resT Tryz.results40) rfl ⟨by simp [cmdB, btw, h1d, h2d], rfl⟩)
  · have h1d := bsT h1
    have g'10 := (jn @h1 @h1d)
    refine runTf g'10 ?_
    exact hQ _ _ (end_plain (.inl rfl) hbel (x := .bool false) (resT Tryz.results40) rfl ⟨by simp [cmdB, btw, h1d], rfl⟩)
theorem vbnd_c (H : AHeap) (tu : Int) (le : Int) (sl : Int) (ra : Int) : ACalls Tryz.prog 107 [.agg [.int .i64 tu, .int .i64 le, .int .i64 sl, .int .i64 ra]] H (fun v H' => v = .bool (bndB tu le sl ra) ∧ H' = H) := by
  refine AcT true Tryz.func107 ?_; intro hbel Q hQ
  refine runT ?_
  refine call_v (by kernel_rfl) (dbetween_c _ tu 0 8) ?_
  refine runT ?_
  refine gd_split (fun h1 => ?_) (fun h1 => ?_)
  · have h1d := bsT h1
    have g'11 := (jn @h1 @h1d)
    refine runTf g'11 ?_
    refine call_v (by kernel_rfl) (dbetween_c _ le 0 16) ?_
    refine runTf g'11 ?_
    refine gd_split (fun h2 => ?_) (fun h2 => ?_)
    · have h2d := bsT h2
      have g'12 := (jn @h2 (jn @h2d g'11))
      refine runTf g'12 ?_
      refine call_v (by kernel_rfl) (dbetween_c _ sl 0 8) ?_
      refine runTf g'12 ?_
      refine gd_split (fun h3 => ?_) (fun h3 => ?_)
      · have h3d := bsT h3
        have g'13 := (jn @h3 (jn @h3d g'12))
        refine runTf g'13 ?_
        refine call_v (by kernel_rfl) (dbetween_c _ ra 1 32) ?_
        refine runTf g'13 ?_
        exact hQ _ _ (end_plain (.inl rfl) hbel (x := .bool (btw ra 1 32)) (resT Tryz.results107) rfl ⟨by simp [bndB, h1d, h2d, h3d], rfl⟩)
      · have h3d := bsT h3
        have g'14 := (jn @h3 (jn @h3d g'12))
        refine runTf g'14 ?_
        exact hQ _ _ (end_plain (.inl rfl) hbel (x := .bool false) (resT Tryz.results107) rfl ⟨by simp [bndB, h1d, h2d, h3d], rfl⟩)
    · have h2d := bsT h2
      have g'15 := (jn @h2 (jn @h2d g'11))
      refine runTf g'15 ?_
      exact hQ _ _ (end_plain (.inl rfl) hbel (x := .bool false) (resT Tryz.results107) rfl ⟨by simp [bndB, h1d, h2d], rfl⟩)
  · have h1d := bsT h1
    have g'16 := (jn @h1 @h1d)
    refine runTf g'16 ?_
    exact hQ _ _ (end_plain (.inl rfl) hbel (x := .bool false) (resT Tryz.results107) rfl ⟨by simp [bndB, h1d], rfl⟩)
theorem bbnd_c (H : AHeap) (tu : Int) (le : Int) (sl : Int) (ra : Int) : ACalls Tryz.prog 36 [.agg [.int .i64 tu, .int .i64 le, .int .i64 sl, .int .i64 ra]] H (fun v H' => v = .bool (bndB tu le sl ra) ∧ H' = H) := by
  refine AcT true Tryz.func36 ?_; intro hbel Q hQ
  refine runT ?_
  refine gd_split (fun h1 => ?_) (fun h1 => ?_)
  · have h1d := bsT h1
    have g'17 := (jn @h1 @h1d)
    refine runTf g'17 ?_
    refine gd_split (fun h2 => ?_) (fun h2 => ?_)
    · have h2d := bsT h2
      have g'18 := (jn @h2 (jn @h2d g'17))
      refine runTf g'18 ?_
      refine gd_split (fun h3 => ?_) (fun h3 => ?_)
      · have h3d := bsT h3
        have g'19 := (jn @h3 (jn @h3d g'18))
        refine runTf g'19 ?_
        refine gd_split (fun h4 => ?_) (fun h4 => ?_)
        · have h4d := bsT h4
          have g'20 := (jn @h4 (jn @h4d g'19))
          refine runTf g'20 ?_
          refine gd_split (fun h5 => ?_) (fun h5 => ?_)
          · have h5d := bsT h5
            have g'21 := (jn @h5 (jn @h5d g'20))
            refine runTf g'21 ?_
            refine gd_split (fun h6 => ?_) (fun h6 => ?_)
            · have h6d := bsT h6
              have g'22 := (jn @h6 (jn @h6d g'21))
              refine runTf g'22 ?_
              refine gd_split (fun h7 => ?_) (fun h7 => ?_)
              · have h7d := bsT h7
                have g'23 := (jn @h7 (jn @h7d g'22))
                refine runTf g'23 ?_
                exact hQ _ _ (end_plain (.inl rfl) hbel (x := .bool (decide (ra ≤ 32))) (resT Tryz.results36) rfl ⟨by simp [bndB, btw, h1d, h2d, h3d, h4d, h5d, h6d, h7d], rfl⟩)
              · have h7d := bsT h7
                have g'24 := (jn @h7 (jn @h7d g'22))
                refine runTf g'24 ?_
                exact hQ _ _ (end_plain (.inl rfl) hbel (x := .bool false) (resT Tryz.results36) rfl ⟨by simp [bndB, btw, h1d, h2d, h3d, h4d, h5d, h6d, h7d], rfl⟩)
            · have h6d := bsT h6
              have g'25 := (jn @h6 (jn @h6d g'21))
              refine runTf g'25 ?_
              exact hQ _ _ (end_plain (.inl rfl) hbel (x := .bool false) (resT Tryz.results36) rfl ⟨by simp [bndB, btw, h1d, h2d, h3d, h4d, h5d, h6d], rfl⟩)
          · have h5d := bsT h5
            have g'26 := (jn @h5 (jn @h5d g'20))
            refine runTf g'26 ?_
            exact hQ _ _ (end_plain (.inl rfl) hbel (x := .bool false) (resT Tryz.results36) rfl ⟨by simp [bndB, btw, h1d, h2d, h3d, h4d, h5d], rfl⟩)
        · have h4d := bsT h4
          have g'27 := (jn @h4 (jn @h4d g'19))
          refine runTf g'27 ?_
          exact hQ _ _ (end_plain (.inl rfl) hbel (x := .bool false) (resT Tryz.results36) rfl ⟨by simp [bndB, btw, h1d, h2d, h3d, h4d], rfl⟩)
      · have h3d := bsT h3
        have g'28 := (jn @h3 (jn @h3d g'18))
        refine runTf g'28 ?_
        exact hQ _ _ (end_plain (.inl rfl) hbel (x := .bool false) (resT Tryz.results36) rfl ⟨by simp [bndB, btw, h1d, h2d, h3d], rfl⟩)
    · have h2d := bsT h2
      have g'29 := (jn @h2 (jn @h2d g'17))
      refine runTf g'29 ?_
      exact hQ _ _ (end_plain (.inl rfl) hbel (x := .bool false) (resT Tryz.results36) rfl ⟨by simp [bndB, btw, h1d, h2d], rfl⟩)
  · have h1d := bsT h1
    have g'30 := (jn @h1 @h1d)
    refine runTf g'30 ?_
    exact hQ _ _ (end_plain (.inl rfl) hbel (x := .bool false) (resT Tryz.results36) rfl ⟨by simp [bndB, btw, h1d], rfl⟩)
theorem mfloor_c (H : AHeap) (a : Int) (b : Int) (hb : 0 < b) (hw : -4611686018427387904 ≤ a ∧ a ≤ 4611686018427387904) : ACalls Tryz.prog 190 [.int .i64 a, .int .i64 b] H (fun v H' => v = .int .i64 (a / b) ∧ H' = H) := by
  have htd := tdiv_bd (a := a) (b := b) hb hw
  refine AcT true Tryz.func190 ?_; intro hbel Q hQ
  refine runT ?_
  refine cond_split (fun h1 => ?_) (fun h1 => ?_)
  · have h1d := bsT h1
    have hfinq : Int.tdiv a b - 1 = a / b := by rw [← floor_eq hb, if_pos h1d]
    have g'33 := (jn @h1 @h1d)
    refine runTf g'33 ?_
    exact hQ _ _ (end_plain0 (.inl rfl) hbel (x := .int .i64 ((Int.tdiv a b) - 1)) (resT Tryz.results190) rfl ⟨congrArg (AV.int .i64) hfinq, rfl⟩)
  · have h1d := bsT h1
    have hfinq : Int.tdiv a b = a / b := by rw [← floor_eq hb, if_neg (by omega)]
    have g'34 := (jn @h1 @h1d)
    refine runTf g'34 ?_
    exact hQ _ _ (end_plain0 (.inl rfl) hbel (x := .int .i64 (Int.tdiv a b)) (resT Tryz.results190) rfl ⟨congrArg (AV.int .i64) hfinq, rfl⟩)
theorem pdown_c (H : AHeap) (a : Int) (b : Int) (hb : 0 < b) (hw : -4611686018427387904 ≤ a ∧ a ≤ 4611686018427387904) : ACalls Tryz.prog 207 [.int .i64 a, .int .i64 b] H (fun v H' => v = .int .i64 (a / b) ∧ H' = H) := by
  have htd := tdiv_bd (a := a) (b := b) hb hw
  refine AcT true Tryz.func207 ?_; intro hbel Q hQ
  refine runT ?_
  refine cond_split (fun h1 => ?_) (fun h1 => ?_)
  · have h1d := bsT h1
    have hfinq : Int.tdiv a b - 1 = a / b := by rw [← floor_eq hb, if_pos h1d]
    have g'37 := (jn @h1 @h1d)
    refine runTf g'37 ?_
    exact hQ _ _ (end_plain0 (.inl rfl) hbel (x := .int .i64 ((Int.tdiv a b) - 1)) (resT Tryz.results207) rfl ⟨congrArg (AV.int .i64) hfinq, rfl⟩)
  · have h1d := bsT h1
    have hfinq : Int.tdiv a b = a / b := by rw [← floor_eq hb, if_neg (by omega)]
    have g'38 := (jn @h1 @h1d)
    refine runTf g'38 ?_
    exact hQ _ _ (end_plain0 (.inl rfl) hbel (x := .int .i64 (Int.tdiv a b)) (resT Tryz.results207) rfl ⟨congrArg (AV.int .i64) hfinq, rfl⟩)
theorem mark_c (H : AHeap) (h : Int) : ACalls Tryz.prog 197 [.int .i64 h] H (fun v H' => v = .int .i64 (((h % 256).toNat : Nat) : Int) ∧ H' = H) := by
  refine AcT true Tryz.func197 ?_; intro hbel Q hQ
  have g'41 := @i64_and255
  refine runTf g'41 ?_
  exact hQ _ _ (end_plain0 (.inl rfl) hbel (x := .int .i64 (((h % 256).toNat : Nat) : Int)) (resT Tryz.results197) rfl ⟨rfl, rfl⟩)
open Go.RowKit
/-- The state of the search for the common divisor. -/
def gst (x y d : Int) : Nat → Nat
  | 0 => d.natAbs
  | 1 => Nat.gcd d.natAbs x.natAbs
  | _ + 2 => gcd3 x y d
def nst (x y : Int) : Nat → Nat
  | 0 => x.natAbs
  | _ + 1 => y.natAbs
theorem gcd_step (a b : Nat) : Nat.gcd b (a % b) = Nat.gcd a b := by rw [Nat.gcd_comm b, ← Nat.gcd_rec, Nat.gcd_comm]
theorem rot_ok {v : Vec} (h : vecOK v = true) : ∀ n, vecOK (rotN v n) = true
  | 0 => h
  | n + 1 => by
    have ih := vecOK_iff.1 (rot_ok h n)
    rw [vecOK_iff]
    unfold rotN
    simp only
    refine ⟨ih.1, by omega, by omega, ?_⟩
    rw [Int.neg_mul_neg]; omega
theorem dir0_ok {k : Nat} (h : k < 64) : vecOK (dir0 k) = true := by
  have := List.all_eq_true.1 dirs_ok k (by simp; omega)
  unfold dirN at this
  rwa [Nat.mod_eq_of_lt h, Nat.div_eq_of_lt h] at this
theorem rotN_D (v : Vec) : ∀ n, (rotN v n).2.2 = v.2.2
  | 0 => rfl
  | n + 1 => rotN_D v n
theorem low_c (H : AHeap) (x : Int) (y : Int) (d : Int) (hd : 0 < d) (kbx : -1152921504606846976 ≤ x ∧ x ≤ 1152921504606846976) (kby : -1152921504606846976 ≤ y ∧ y ≤ 1152921504606846976) (kbd : -1152921504606846976 ≤ d ∧ d ≤ 1152921504606846976) : ACalls Tryz.prog 284 [.int .i64 x, .int .i64 y, .int .i64 d] H (fun v H' => v = .agg [.int .i64 ((lowV x y d).1), .int .i64 ((lowV x y d).2.1), .int .i64 ((lowV x y d).2.2)] ∧ H' = H) := by
  have hmx : (if x < 0 - x then 0 - x else x) = ((x.natAbs : Nat) : Int) := by split <;> omega
  have hmy : (if y < 0 - y then 0 - y else y) = ((y.natAbs : Nat) : Int) := by split <;> omega
  have hg00 : ((gst x y d 0 : Nat) : Int) = d := by simp only [gst]; omega
  have hg2 : gst x y d 2 = gcd3 x y d := rfl
  have hg0 : 0 < gcd3 x y d := gcd3_pos (by omega)
  have t1 := tdiv_bd (a := x) (b := ((gcd3 x y d : Nat) : Int)) (by omega) (by omega)
  have t2 := tdiv_bd (a := y) (b := ((gcd3 x y d : Nat) : Int)) (by omega) (by omega)
  have t3 := tdiv_bd (a := d) (b := ((gcd3 x y d : Nat) : Int)) (by omega) (by omega)
  refine AcT true Tryz.func284 ?_; intro hbel Q hQ
  have g'8 := (jn @hmx (jn @hmy (jn @hg2 @rem_nat)))
  refine runTf g'8 ?_
  refine go_loop try_mixed (by kernel_rfl) (fun k F Hx => ∃ j : Nat, j + k = 2 ∧ F = [(0, .int .i64 x), (1, .int .i64 y), (2, .int .i64 d), (6, .ptr (some (H.length, 0))), (7, .int .i64 ((gst x y d j : Nat) : Int)), (13, .agg [.int .i64 x, .int .i64 y]), (14, .int .i64 ((j : Nat) : Int))] ∧ Hx = H ++ [.cells true 0 [.int .i64 0, .int .i64 0, .int .i64 0]]) (2) ?_ ?_
  · refine ⟨_, _, _, ⟨0, by omega, rfl, rfl⟩, Abs.byG hbel [] rfl [0] (by decide) ?_⟩
    exact absWf (jn @hg00 @Int.natCast_zero)
  · rintro k0 F Hx ⟨j, hm0, rfl, rfl⟩ J0 hJ0
    refine runTf g'8 ?_
    refine cond_split (fun h1 => ?_) (fun h1 => ?_)
    · have h1d := bsT h1
      obtain rfl | rfl := (by omega : j = 0 ∨ j = 1)
      · skip
        have g'9 := (jn @h1 (jn @h1d g'8))
        refine runTf g'9 ?_
        refine go_loop try_mixed (by kernel_rfl) (fun k F Hx => ∃ a : Nat, ∃ b : Nat, b = k ∧ Nat.gcd a b = gst x y d (0 + 1) ∧ F = [(0, .int .i64 x), (1, .int .i64 y), (2, .int .i64 d), (6, .ptr (some (H.length, 0))), (7, .int .i64 ((a : Nat) : Int)), (9, .int .i64 ((b : Nat) : Int)), (13, .agg [.int .i64 x, .int .i64 y]), (14, .int .i64 0)] ∧ Hx = H ++ [.cells true 0 [.int .i64 0, .int .i64 0, .int .i64 0]]) (nst x y 0) ?_ ?_
        · refine ⟨_, _, _, ⟨gst x y d 0, nst x y 0, by omega, rfl, rfl, rfl⟩, Abs.byG hbel [] rfl [0] (by decide) ?_⟩
          exact absWf (jn @nst.eq_1 @nst.eq_2)
        · rintro k1 F Hx ⟨a, b, hm1, hG, rfl, rfl⟩ J1 hJ1
          refine runTf g'9 ?_
          refine cond_split (fun h2 => ?_) (fun h2 => ?_)
          · have h2d := bsT h2
            have hlt : a % b < b := Nat.mod_lt _ (by omega)
            have g'10 := (jn @h2 (jn @h2d (jn @int_bne (jn @int_beq g'9))))
            refine runTf g'10 ?_
            refine hJ1 _ _ ⟨a % b, by omega, _, _, _, ⟨b, a % b, by omega, by rw [← hG, gcd_step], rfl, rfl⟩, Abs.byG hbel [] rfl [0] (by decide) ?_⟩
            exact absWf @h2d
          · have h2d := bsT h2
            obtain rfl : b = 0 := by omega
            rw [Nat.gcd_zero_right] at hG
            have g'11 := (jn @h2 (jn @h2d (jn @int_bne (jn @int_beq g'9))))
            refine runTf g'11 ?_
            refine hJ0 _ _ ⟨k0 - 1, by omega, _, _, _, ⟨0 + 1, by omega, rfl, rfl⟩, Abs.byG hbel [] rfl [0] (by decide) ?_⟩
            exact absWf (jn @hG @h2d)
      · skip
        have g'12 := (jn @h1 (jn @h1d g'8))
        refine runTf g'12 ?_
        refine go_loop try_mixed (by kernel_rfl) (fun k F Hx => ∃ a : Nat, ∃ b : Nat, b = k ∧ Nat.gcd a b = gst x y d (1 + 1) ∧ F = [(0, .int .i64 x), (1, .int .i64 y), (2, .int .i64 d), (6, .ptr (some (H.length, 0))), (7, .int .i64 ((a : Nat) : Int)), (9, .int .i64 ((b : Nat) : Int)), (13, .agg [.int .i64 x, .int .i64 y]), (14, .int .i64 1)] ∧ Hx = H ++ [.cells true 0 [.int .i64 0, .int .i64 0, .int .i64 0]]) (nst x y 1) ?_ ?_
        · refine ⟨_, _, _, ⟨gst x y d 1, nst x y 1, by omega, rfl, rfl, rfl⟩, Abs.byG hbel [] rfl [0] (by decide) ?_⟩
          exact absWf (jn @nst.eq_1 @nst.eq_2)
        · rintro k1 F Hx ⟨a, b, hm1, hG, rfl, rfl⟩ J1 hJ1
          refine runTf g'12 ?_
          refine cond_split (fun h3 => ?_) (fun h3 => ?_)
          · have h3d := bsT h3
            have hlt : a % b < b := Nat.mod_lt _ (by omega)
            have g'13 := (jn @h3 (jn @h3d (jn @int_bne (jn @int_beq g'12))))
            refine runTf g'13 ?_
            refine hJ1 _ _ ⟨a % b, by omega, _, _, _, ⟨b, a % b, by omega, by rw [← hG, gcd_step], rfl, rfl⟩, Abs.byG hbel [] rfl [0] (by decide) ?_⟩
            exact absWf @h3d
          · have h3d := bsT h3
            obtain rfl : b = 0 := by omega
            rw [Nat.gcd_zero_right] at hG
            have g'14 := (jn @h3 (jn @h3d (jn @int_bne (jn @int_beq g'12))))
            refine runTf g'14 ?_
            refine hJ0 _ _ ⟨k0 - 1, by omega, _, _, _, ⟨1 + 1, by omega, rfl, rfl⟩, Abs.byG hbel [] rfl [0] (by decide) ?_⟩
            exact absWf (jn @hG @h3d)
    · have h1d := bsT h1
      obtain rfl : j = 2 := by omega
      skip
      have g'15 := (jn @h1 (jn @h1d g'8))
      refine runTf g'15 ?_
      exact hQ _ _ (end_plain (.inl rfl) hbel (x := .agg [.int .i64 (Int.tdiv x ((gcd3 x y d : Nat) : Int)), .int .i64 (Int.tdiv y ((gcd3 x y d : Nat) : Int)), .int .i64 (Int.tdiv d ((gcd3 x y d : Nat) : Int))]) (resT Tryz.results284) rfl ⟨rfl, rfl⟩)
theorem dir_c (H : AHeap) (h : Int) : ACalls Tryz.prog 215 [.int .i64 h] H (fun v H' => v = .agg [.int .i64 ((dirV h).1), .int .i64 ((dirV h).2.1), .int .i64 ((dirV h).2.2)] ∧ H' = H) := by
  have hK : ((h % 256).toNat % 64) < 64 := Nat.mod_lt _ (by decide)
  have hN : ((h % 256).toNat / 64) ≤ 3 := by omega
  have hkk := mul_bd (a := ((((h % 256).toNat % 64) : Nat) : Int)) (b := ((((h % 256).toNat % 64) : Nat) : Int)) (A := 63) (B := 63) (by omega) (by omega)
  refine AcT true Tryz.func215 ?_; intro hbel Q hQ
  have g'16 := (jn @rem_n64 @quo_n64)
  refine runTf g'16 ?_
  refine call_v (by kernel_rfl) (mark_c _ h) ?_
  refine runTf g'16 ?_
  refine call_v (by kernel_rfl) (low_c _ (4096 - (((((h % 256).toNat) % 64 : Nat) : Int) * ((((h % 256).toNat) % 64 : Nat) : Int))) (128 * ((((h % 256).toNat) % 64 : Nat) : Int)) (4096 + (((((h % 256).toNat) % 64 : Nat) : Int) * ((((h % 256).toNat) % 64 : Nat) : Int))) (by omega) (by omega) (by omega) (by omega)) ?_
  refine runTf g'16 ?_
  refine go_loop try_mixed (by kernel_rfl) (fun k F Hx => ∃ n : Nat, n + k = ((h % 256).toNat / 64) ∧ F = [(2, .ptr (some (H.length, 0))), (4, .ptr (some (H.length + 1, 0))), (21, .int .i64 ((((h % 256).toNat) / 64 : Nat) : Int)), (22, .int .i64 ((n : Nat) : Int))] ∧ Hx = H ++ [.cells true 0 [.int .i64 0, .int .i64 0, .int .i64 0], .cells true 0 [.int .i64 ((rotN (dir0 ((h % 256).toNat % 64)) n).1), .int .i64 ((rotN (dir0 ((h % 256).toNat % 64)) n).2.1), .int .i64 ((lowV (4096 - (((((h % 256).toNat) % 64 : Nat) : Int) * ((((h % 256).toNat) % 64 : Nat) : Int))) (128 * ((((h % 256).toNat) % 64 : Nat) : Int)) (4096 + (((((h % 256).toNat) % 64 : Nat) : Int) * ((((h % 256).toNat) % 64 : Nat) : Int)))).2.2)]]) (((h % 256).toNat / 64)) ?_ ?_
  · refine ⟨_, _, _, ⟨0, by omega, rfl, rfl⟩, Abs.byG hbel [] rfl [0, 1] (by decide) ?_⟩
    exact absWf (jn @rotN.eq_1 @dir0.eq_1)
  · rintro k0 F Hx ⟨n, hm0, rfl, rfl⟩ J0 hJ0
    refine runTf g'16 ?_
    refine cond_split (fun h1 => ?_) (fun h1 => ?_)
    · have h1d := bsT h1
      have hro := vecOK_iff.1 (rot_ok (dir0_ok hK) n)
      have g'17 := (jn @h1 (jn @h1d g'16))
      refine runTf g'17 ?_
      refine hJ0 _ _ ⟨k0 - 1, by omega, _, _, _, ⟨n + 1, by omega, rfl, rfl⟩, Abs.byG hbel [] rfl [0, 1] (by decide) ?_⟩
      exact absWf (jn @rotN.eq_2 @Int.zero_sub)
    · have h1d := bsT h1
      have hfinn : n = ((h % 256).toNat / 64) := by omega
      have g'18 := (jn @h1 (jn @h1d g'16))
      refine runTf g'18 ?_
      exact hQ _ _ (end_plain (.inl rfl) hbel (x := .agg [.int .i64 ((rotN (dir0 ((h % 256).toNat % 64)) n).1), .int .i64 ((rotN (dir0 ((h % 256).toNat % 64)) n).2.1), .int .i64 ((lowV (4096 - (((((h % 256).toNat) % 64 : Nat) : Int) * ((((h % 256).toNat) % 64 : Nat) : Int))) (128 * ((((h % 256).toNat) % 64 : Nat) : Int)) (4096 + (((((h % 256).toNat) % 64 : Nat) : Int) * ((((h % 256).toNat) % 64 : Nat) : Int)))).2.2)]) (resT Tryz.results215) rfl ⟨by subst hfinn; rw [show dirV h = rotN (dir0 ((h % 256).toNat % 64)) ((h % 256).toNat / 64) from rfl, rotN_D]; rfl, rfl⟩)
open Go.RowKit
theorem dirV_nat {n : Nat} (h : n < 256) : dirV ((n : Nat) : Int) = dirN n := by
  unfold dirV
  rw [show (((n : Nat) : Int) % 256).toNat = n by omega]
theorem bey_lt {v : Vec} {x y : Int} (h : halfI v.1 v.2.1 < halfI x y) : beyB v x y = false := by
  unfold beyB
  have := halfI_or v.1 v.2.1
  have := halfI_or x y
  rw [if_neg (by omega)]
  exact decide_eq_false (by omega)
theorem bey_gt {v : Vec} {x y : Int} (h : ¬ halfI v.1 v.2.1 < halfI x y) (h2 : ¬ halfI v.1 v.2.1 = halfI x y) : beyB v x y = true := by
  unfold beyB
  have := halfI_or v.1 v.2.1
  have := halfI_or x y
  rw [if_neg h2]
  exact decide_eq_true (by omega)
theorem bey_eq {v : Vec} {x y : Int} (h : halfI v.1 v.2.1 = halfI x y) : beyB v x y = decide (v.1 * y - v.2.1 * x < 0) := by
  unfold beyB; rw [if_pos h]; rfl
/-- As the reference asks it. -/
def lowB (x y : Int) : Bool := decide (y < 0) || (y == 0 && decide (x < 0))
def beyR (v1 v2 dx dy : Int) : Bool := bif (lowB v1 v2 != lowB dx dy) then lowB v1 v2 else decide (0 < dx * v2 - dy * v1)
theorem lowB_half {x y : Int} (h : ¬ (x = 0 ∧ y = 0)) : lowB x y = decide (halfI x y = 1) := by
  rw [Bool.eq_iff_iff]
  unfold lowB halfI
  simp only [Bool.or_eq_true, Bool.and_eq_true, decide_eq_true_eq, beq_iff_eq]
  split <;> omega
theorem vec_ne {v : Vec} (h : vecOK v = true) : ¬ (v.1 = 0 ∧ v.2.1 = 0) := by
  rintro ⟨a, b⟩
  have := vecOK_iff.1 h
  rw [a, b] at this
  have h1 := this.1.1
  have h2 : 0 < v.2.2 * v.2.2 := Int.mul_pos (by omega) (by omega)
  omega
theorem beyR_eq {v : Vec} (hv : vecOK v = true) {x y : Int} (hd : ¬ (x = 0 ∧ y = 0)) : beyR v.1 v.2.1 x y = beyB v x y := by
  unfold beyR beyB
  rw [lowB_half (vec_ne hv), lowB_half hd]
  have h1 := halfI_or v.1 v.2.1
  have h2 := halfI_or x y
  have hc : crs (v.1, v.2.1) (x, y) = -(x * v.2.1 - y * v.1) := by unfold crs; simp only; rw [Int.mul_comm v.1, Int.mul_comm v.2.1]; omega
  rw [hc]
  by_cases he : halfI v.1 v.2.1 = halfI x y
  · rw [if_pos he, he]
    simp only [bne_self_eq_false, cond_false]
    rw [Bool.eq_iff_iff]; simp only [decide_eq_true_eq]; omega
  · rw [if_neg he]
    rcases h1 with h1 | h1 <;> rcases h2 with h2 | h2 <;> rw [h1, h2] at he ⊢ <;> first | omega | rfl
def ptB (x y : Int) : Bool := within x 1048576 && within y 1048576
def towE (fx fy tx ty : Int) : Int := if (ptB fx fy && ptB tx ty) = true then (if fx = tx ∧ fy = ty then 9 else 0) else 1
def towI (fx fy tx ty : Int) : Int := if towE fx fy tx ty = 0 then ((towN (tx - fx) (ty - fy) 256 : Nat) : Int) else 0
theorem mvpt_c (H : AHeap) (x : Int) (y : Int) : ACalls Tryz.prog 106 [.agg [.int .i64 x, .int .i64 y]] H (fun v H' => v = .bool (ptB x y) ∧ H' = H) := by
  refine AcT true Tryz.func106 ?_; intro hbel Q hQ
  refine runT ?_
  refine call_v (by kernel_rfl) (mnear_c _ x) ?_
  refine runT ?_
  refine gd_split (fun h1 => ?_) (fun h1 => ?_)
  · have h1d := bsT h1
    have g'1 := (jn @h1 @h1d)
    refine runTf g'1 ?_
    refine call_v (by kernel_rfl) (mnear_c _ y) ?_
    refine runTf g'1 ?_
    exact hQ _ _ (end_plain (.inl rfl) hbel (x := .bool (within y 1048576)) (resT Tryz.results106) rfl ⟨by simp [ptB, h1d], rfl⟩)
  · have h1d := bsT h1
    have g'2 := (jn @h1 @h1d)
    refine runTf g'2 ?_
    exact hQ _ _ (end_plain (.inl rfl) hbel (x := .bool false) (resT Tryz.results106) rfl ⟨by simp [ptB, h1d], rfl⟩)
theorem mhalf_c (H : AHeap) (x : Int) (y : Int) : ACalls Tryz.prog 267 [.int .i64 x, .int .i64 y] H (fun v H' => v = .int .i64 (halfI x y) ∧ H' = H) := by
  refine AcT true Tryz.func267 ?_; intro hbel Q hQ
  refine runT ?_
  refine gd_split (fun h1 => ?_) (fun h1 => ?_)
  · have h1d := bsT h1
    have g'5 := (jn @h1 @h1d)
    refine runTf g'5 ?_
    refine gd_split (fun h2 => ?_) (fun h2 => ?_)
    · have h2d := bsT h2
      have g'6 := (jn @h2 (jn @h2d (jn @int_bne (jn @int_beq g'5))))
      refine runTf g'6 ?_
      refine cond_split (fun h3 => ?_) (fun h3 => ?_)
      · have h3d := bsT h3
        have g'7 := (jn @h3 (jn @h3d g'6))
        refine runTf g'7 ?_
        exact hQ _ _ (end_plain0 (.inl rfl) hbel (x := .int .i64 0) (resT Tryz.results267) rfl ⟨congrArg (AV.int .i64) (by unfold halfI; first | rw [if_pos (by omega)] | rw [if_neg (by omega)]), rfl⟩)
      · have h3d := bsT h3
        have g'8 := (jn @h3 (jn @h3d g'6))
        refine runTf g'8 ?_
        exact hQ _ _ (end_plain0 (.inl rfl) hbel (x := .int .i64 1) (resT Tryz.results267) rfl ⟨congrArg (AV.int .i64) (by unfold halfI; first | rw [if_pos (by omega)] | rw [if_neg (by omega)]), rfl⟩)
    · have h2d := bsT h2
      have g'9 := (jn @h2 (jn @h2d (jn @int_bne (jn @int_beq g'5))))
      refine runTf g'9 ?_
      exact hQ _ _ (end_plain0 (.inl rfl) hbel (x := .int .i64 1) (resT Tryz.results267) rfl ⟨congrArg (AV.int .i64) (by unfold halfI; first | rw [if_pos (by omega)] | rw [if_neg (by omega)]), rfl⟩)
  · have h1d := bsT h1
    have g'10 := (jn @h1 @h1d)
    refine runTf g'10 ?_
    exact hQ _ _ (end_plain0 (.inl rfl) hbel (x := .int .i64 0) (resT Tryz.results267) rfl ⟨congrArg (AV.int .i64) (by unfold halfI; first | rw [if_pos (by omega)] | rw [if_neg (by omega)]), rfl⟩)
theorem toward_c (H : AHeap) (fx : Int) (fy : Int) (tx : Int) (ty : Int) : ACalls Tryz.prog 194 [.agg [.int .i64 fx, .int .i64 fy], .agg [.int .i64 tx, .int .i64 ty]] H (fun v H' => v = .tup [.int .i64 (towI fx fy tx ty), .int .i64 (towE fx fy tx ty)] ∧ H' = H) := by
  refine AcT true Tryz.func194 ?_; intro hbel Q hQ
  refine runT ?_
  refine call_v (by kernel_rfl) (mvpt_c _ fx fy) ?_
  refine runT ?_
  refine gd_split (fun h1 => ?_) (fun h1 => ?_)
  · have h1d := bsT h1
    have hp1 := h1d
    simp only [ptB, Bool.and_eq_true, within_iff] at hp1
    have g'11 := (jn @h1 @h1d)
    refine runTf g'11 ?_
    refine call_v (by kernel_rfl) (mvpt_c _ tx ty) ?_
    refine runTf g'11 ?_
    refine cond_split (fun h2 => ?_) (fun h2 => ?_)
    · have h2d := bsT h2
      have g'12 := (jn @h2 (jn @h2d g'11))
      refine runTf g'12 ?_
      exact hQ _ _ (end_plain (.inl rfl) hbel (x := .tup [.int .i64 0, .int .i64 1]) (resT Tryz.results194) rfl ⟨by first | (simp [towI, towE, h1d, h2d]; done) | (simp [towI, hfinE]; done) | (rw [show towI fx fy tx ty = ((towN (tx - fx) (ty - fy) 256 : Nat) : Int) from if_pos hfinE, hfinE]), rfl⟩)
    · have h2d := bsT h2
      have hp2 := h2d
      simp only [ptB, Bool.and_eq_true, within_iff] at hp2
      have g'13 := (jn @h2 (jn @h2d g'11))
      refine runTf g'13 ?_
      refine cond_split (fun h3 => ?_) (fun h3 => ?_)
      · have h3d := bsT h3
        have h3n := h3
        try simp only [int_bne, int_beq] at h3n
        have g'14 := (jn @h3 (jn @h3d (jn @h3n (jn @int_bne (jn @int_beq g'13)))))
        refine runTf g'14 ?_
        exact hQ _ _ (end_plain (.inl rfl) hbel (x := .tup [.int .i64 0, .int .i64 9]) (resT Tryz.results194) rfl ⟨by first | (simp [towI, towE, h1d, h2d, h3d]; done) | (simp [towI, hfinE]; done) | (rw [show towI fx fy tx ty = ((towN (tx - fx) (ty - fy) 256 : Nat) : Int) from if_pos hfinE, hfinE]), rfl⟩)
      · have h3d := bsT h3
        have h3n := h3
        try simp only [int_bne, int_beq] at h3n
        have hfinE : towE fx fy tx ty = 0 := by unfold towE; simp_all
        have g'15 := (jn @h3 (jn @h3d (jn @h3n (jn @int_bne (jn @int_beq g'13)))))
        refine runTf g'15 ?_
        refine go_loop try_mixed (by kernel_rfl) (fun k F Hx => ∃ n : Nat, n + k = 256 ∧ F = [(6, .int .i64 (tx - fx)), (7, .int .i64 (ty - fy)), (8, .int .i64 ((towN (tx - fx) (ty - fy) n : Nat) : Int)), (36, .int .i64 ((n : Nat) : Int))] ∧ H = Hx) (256) ?_ ?_
        · refine ⟨_, _, _, ⟨0, by omega, rfl, rfl⟩, Abs.byN hbel ?_⟩
          exact absWf (jn @towN.eq_1 @Int.natCast_zero)
        · rintro k0 F Hx ⟨n, hm0, rfl, rfl⟩ J0 hJ0
          refine runTf g'15 ?_
          refine cond_split (fun h4 => ?_) (fun h4 => ?_)
          · have h4d := bsT h4
            have hdv := vecOK_iff.1 (dirV_ok ((n : Nat) : Int))
            have hdn := dirV_nat (n := n) (by omega)
            have hm1 := mul_bd (a := (dirV ((n : Nat) : Int)).1) (b := (ty - fy)) (A := 8065) (B := 2097152) (by omega) (by omega)
            have hm2 := mul_bd (a := (dirV ((n : Nat) : Int)).2.1) (b := (tx - fx)) (A := 8065) (B := 2097152) (by omega) (by omega)
            have g'16 := (jn @h4 (jn @h4d g'15))
            refine runTf g'16 ?_
            refine call_v (by kernel_rfl) (dir_c _ ((n : Nat) : Int)) ?_
            refine runTf g'16 ?_
            refine call_v (by kernel_rfl) (mhalf_c _ ((dirV ((n : Nat) : Int)).1) ((dirV ((n : Nat) : Int)).2.1)) ?_
            refine runTf g'16 ?_
            refine call_v (by kernel_rfl) (mhalf_c _ (tx - fx) (ty - fy)) ?_
            refine runTf g'16 ?_
            refine gd_split (fun h5 => ?_) (fun h5 => ?_)
            · have h5d := bsT h5
              have hnl := h5d
              have g'17 := (jn @h5 (jn @h5d g'16))
              refine runTf g'17 ?_
              refine gd_split (fun h6 => ?_) (fun h6 => ?_)
              · have h6d := bsT h6
                have heq := h6d
                have g'18 := (jn @h6 (jn @h6d g'17))
                refine runTf g'18 ?_
                refine cond_split (fun h7 => ?_) (fun h7 => ?_)
                · have h7d := bsT h7
                  have hbey : beyB (dirN n) (tx - fx) (ty - fy) = false := by rw [← hdn, bey_eq heq]; exact decide_eq_false (by omega)
                  have g'19 := (jn @h7 (jn @h7d g'18))
                  refine runTf g'19 ?_
                  refine hJ0 _ _ ⟨k0 - 1, by omega, _, _, _, ⟨n + 1, by omega, rfl, rfl⟩, Abs.byN hbel ?_⟩
                  exact absWf (jn @towN.eq_2 (jn @hbey (jn @if_true.{1} (jn @if_false.{1} (jn @Bool.false_eq_true (jn @h3d @h6d))))))
                · have h7d := bsT h7
                  have hbey : beyB (dirN n) (tx - fx) (ty - fy) = true := by rw [← hdn, bey_eq heq]; exact decide_eq_true (by omega)
                  have g'20 := (jn @h7 (jn @h7d g'18))
                  refine runTf g'20 ?_
                  refine hJ0 _ _ ⟨k0 - 1, by omega, _, _, _, ⟨n + 1, by omega, rfl, rfl⟩, Abs.byN hbel ?_⟩
                  exact absWf (jn @towN.eq_2 (jn @hbey (jn @if_true.{1} (jn @if_false.{1} (jn @Bool.false_eq_true (jn @h3d @h6d))))))
              · have h6d := bsT h6
                have hbey : beyB (dirN n) (tx - fx) (ty - fy) = true := by rw [← hdn]; exact bey_gt (by omega) h6d
                have g'21 := (jn @h6 (jn @h6d g'17))
                refine runTf g'21 ?_
                refine hJ0 _ _ ⟨k0 - 1, by omega, _, _, _, ⟨n + 1, by omega, rfl, rfl⟩, Abs.byN hbel ?_⟩
                exact absWf (jn @towN.eq_2 (jn @hbey (jn @if_true.{1} (jn @if_false.{1} (jn @Bool.false_eq_true (jn @h3d @h6d))))))
            · have h5d := bsT h5
              have hbey : beyB (dirN n) (tx - fx) (ty - fy) = false := by rw [← hdn]; exact bey_lt h5d
              have g'22 := (jn @h5 (jn @h5d g'16))
              refine runTf g'22 ?_
              refine hJ0 _ _ ⟨k0 - 1, by omega, _, _, _, ⟨n + 1, by omega, rfl, rfl⟩, Abs.byN hbel ?_⟩
              exact absWf (jn @towN.eq_2 (jn @hbey (jn @if_true.{1} (jn @if_false.{1} (jn @Bool.false_eq_true @h3d)))))
          · have h4d := bsT h4
            obtain rfl : n = 256 := by omega
            have g'23 := (jn @h4 (jn @h4d g'15))
            refine runTf g'23 ?_
            exact hQ _ _ (end_plain0 (.inl rfl) hbel (x := .tup [.int .i64 ((towN (tx - fx) (ty - fy) 256 : Nat) : Int), .int .i64 0]) (resT Tryz.results194) rfl ⟨by first | (simp [towI, towE, h1d, h2d, h3d, h4d, hfinE]; done) | (simp [towI, hfinE]; done) | (rw [show towI fx fy tx ty = ((towN (tx - fx) (ty - fy) 256 : Nat) : Int) from if_pos hfinE, hfinE]), rfl⟩)
  · have h1d := bsT h1
    have g'24 := (jn @h1 @h1d)
    refine runTf g'24 ?_
    exact hQ _ _ (end_plain (.inl rfl) hbel (x := .tup [.int .i64 0, .int .i64 1]) (resT Tryz.results194) rfl ⟨by first | (simp [towI, towE, h1d]; done) | (simp [towI, hfinE]; done) | (rw [show towI fx fy tx ty = ((towN (tx - fx) (ty - fy) 256 : Nat) : Int) from if_pos hfinE, hfinE]), rfl⟩)
open Go.RowKit
def rctB (x0 y0 x1 y1 : Int) : Bool := decide (x0 ≤ x1) && (decide (y0 ≤ y1) && (ptB x0 y0 && ptB x1 y1))
theorem rctB_iff {x0 y0 x1 y1 : Int} : rctB x0 y0 x1 y1 = true ↔ (-1048576 ≤ x0 ∧ x0 ≤ x1 ∧ x1 ≤ 1048576) ∧ (-1048576 ≤ y0 ∧ y0 ≤ y1 ∧ y1 ≤ 1048576) := by
  unfold rctB ptB; simp only [Bool.and_eq_true, decide_eq_true_eq, within_iff]; omega
/-- The first and the last index of the cells that meet a range, and how many there are. -/
def spl (a : Int) : Int := 0 - (0 - a) / 64 - 1
def sph (b : Int) : Int := b / 64
def celN (a b : Int) : Nat := (sph b - spl a + 1).toNat
def tt2 (_ _ : Int) : Bool := true
def cellsE (x0 y0 x1 y1 : Int) : Int := if rctB x0 y0 x1 y1 = true then (if 8192 < (sph x1 - spl x0 + 1) * (sph y1 - spl y0 + 1) then 6 else 0) else 1
def cellsG (x0 y0 x1 y1 : Int) : List Pt := gridR tt2 (spl x0) (celN x0 x1) (spl y0) (celN y0 y1)
def cellsR (x0 y0 x1 y1 : Int) : List Pt := mkL (cellsE x0 y0 x1 y1) (cellsG x0 y0 x1 y1)
theorem cel_bd {a b : Int} (h : -1048576 ≤ a ∧ a ≤ b ∧ b ≤ 1048576) : (-16386 ≤ spl a ∧ spl a ≤ 16384) ∧ (-16384 ≤ sph b ∧ sph b ≤ 16384) ∧ spl a ≤ sph b ∧ spl a + (celN a b : Int) = sph b + 1 ∧ 1 ≤ celN a b ∧ celN a b ≤ 32771 := by
  unfold celN spl sph; omega
theorem rowR_t {x0 y : Int} (n : Nat) : rowR tt2 x0 y (n + 1) = rowR tt2 x0 y n ++ [(x0 + n, y)] := rfl
theorem gridR_s {p : Int → Int → Bool} {x0 y0 : Int} {w n : Nat} : gridR p x0 w y0 (n + 1) = gridR p x0 w y0 n ++ rowR p x0 (y0 + n) w := rfl
theorem gridR_0 {p : Int → Int → Bool} {x0 y0 : Int} {w : Nat} : gridR p x0 w y0 0 = [] := rfl
theorem rowR_0 {p : Int → Int → Bool} {x0 y : Int} : rowR p x0 y 0 = [] := rfl
theorem grid_bd {p : Int → Int → Bool} {x0 y0 y : Int} {w n m : Nat} (hn : n ≤ 32771) (hw : w ≤ 32771) (hm : m ≤ w) : (gridR p x0 w y0 n).length + (rowR p x0 y m).length ≤ 1073971212 := by
  have h1 := gridR_len (p := p) (x0 := x0) (y0 := y0) (w := w) n
  have h2 := rowR_len (p := p) (x0 := x0) (y := y) m
  have h3 := Nat.mul_le_mul hn hw
  omega
theorem cells_num {x0 y0 x1 y1 : Int} (h : rctB x0 y0 x1 y1 = true) : (((cellsG x0 y0 x1 y1).length : Nat) : Int) = (sph x1 - spl x0 + 1) * (sph y1 - spl y0 + 1) := by
  rw [rctB_iff] at h
  have h1 := cel_bd h.1
  have h2 := cel_bd h.2
  unfold cellsG
  have e : gridR tt2 (spl x0) (celN x0 x1) (spl y0) (celN y0 y1) = gridR (fun _ _ => true) (spl x0) (celN x0 x1) (spl y0) (celN y0 y1) := rfl
  rw [e, gridR_all, Int.natCast_mul, show ((celN y0 y1 : Nat) : Int) = sph y1 - spl y0 + 1 by omega, show ((celN x0 x1 : Nat) : Int) = sph x1 - spl x0 + 1 by omega, Int.mul_comm]
theorem cells_len (x0 y0 x1 y1 : Int) : (cellsR x0 y0 x1 y1).length ≤ 8192 := by
  unfold cellsR mkL cellsE
  by_cases h : rctB x0 y0 x1 y1 = true
  · rw [if_pos h]
    have := cells_num h
    by_cases k : 8192 < (sph x1 - spl x0 + 1) * (sph y1 - spl y0 + 1)
    · rw [if_pos k]; simp
    · rw [if_neg k, if_pos rfl]; omega
  · rw [if_neg h]; simp
theorem cellsR_bd {x0 y0 x1 y1 : Int} : ∀ c ∈ cellsR x0 y0 x1 y1, (-16386 ≤ c.1 ∧ c.1 ≤ 16384) ∧ (-16386 ≤ c.2 ∧ c.2 ≤ 16384) := fun c hc => by
  unfold cellsR mkL at hc
  split at hc
  · rename_i h0
    unfold cellsE at h0
    split at h0
    · rename_i h
      rw [rctB_iff] at h
      have h1 := cel_bd h.1
      have h2 := cel_bd h.2
      have := gridR_mem.1 hc
      omega
    · omega
  · cases hc
open Go.RowKit
/-- The index of the first element with a property, or -1. -/
def idxI {α : Type} (p : α → Bool) (l : List α) : Int := if l.any p = true then ((l.findIdx p : Nat) : Int) else -1
theorem idxI_at {α : Type} {p : α → Bool} {l : List α} {i : Nat} (hi : i < l.length) (h0 : (l.take i).any p = false) (h1 : p l[i] = true) : idxI p l = (i : Int) := by
  have ha : l.any p = true := List.any_eq_true.2 ⟨l[i], List.getElem_mem hi, h1⟩
  have hf : l.findIdx p = i := (List.findIdx_eq hi).2 ⟨h1, fun j hj => by
    have := List.any_eq_false.1 h0 l[j] (by rw [List.mem_take_iff_getElem]; exact ⟨j, by omega, rfl⟩)
    simpa using this⟩
  unfold idxI; rw [if_pos ha, hf]
theorem idxI_none {α : Type} {p : α → Bool} {l : List α} (h : l.any p = false) : idxI p l = -1 := by
  unfold idxI; rw [if_neg (by simp [h])]
theorem idxI_any {α : Type} {p : α → Bool} {l : List α} : decide (0 ≤ idxI p l) = l.any p := by
  cases h : l.any p
  · rw [idxI_none h]; rfl
  · unfold idxI; rw [if_pos h]; exact decide_eq_true (by omega)
theorem idxI_cases {α : Type} (p : α → Bool) (l : List α) : (idxI p l = -1 ∧ l.any p = false) ∨ ∃ i : Nat, ∃ hi : i < l.length, idxI p l = (i : Int) ∧ (l.take i).any p = false ∧ p l[i] = true := by
  cases h : l.any p
  · exact .inl ⟨idxI_none h, rfl⟩
  · right
    have hl : l.findIdx p < l.length := List.findIdx_lt_length_of_exists (by simpa using h)
    have h1 : p l[l.findIdx p] = true := List.findIdx_getElem
    have h0 : (l.take (l.findIdx p)).any p = false := List.any_eq_false.2 fun x hx => by
      obtain ⟨j, hj, rfl⟩ := List.mem_take_iff_getElem.1 hx
      have := List.not_of_lt_findIdx (p := p) (xs := l) (i := j) (by omega)
      simpa using this
    exact ⟨_, hl, idxI_at hl h0 h1, h0, h1⟩
theorem pr_eq {l : List (Int × Int)} {j : Nat} (h : j < l.length) : (g1 l j, g2 l j) = l[j] := by
  simp [g1, g2, h, List.getD_eq_getElem?_getD]
theorem gi_eq {l : List Int} {j : Nat} (h : j < l.length) : (gi l j) = l[j] := by
  simp [gi, h, List.getD_eq_getElem?_getD]
theorem any_step {α : Type} {l : List α} {p : α → Bool} {i : Nat} (h : i < l.length) : (l.take (i + 1)).any p = ((l.take i).any p || p l[i]) := by
  rw [List.take_succ_eq_append_getElem h, List.any_append]; simp
theorem mvs_caps {n m : Nat} {sel : List Nat} {caps : List AV} (h : AV.bels n caps = true) : AV.mvs (sig n m sel) caps = caps := mvs_id (fun b hb => sig_lt hb) caps h
end Go.Proofs.YtcokgigjmjlmnaaGreat
