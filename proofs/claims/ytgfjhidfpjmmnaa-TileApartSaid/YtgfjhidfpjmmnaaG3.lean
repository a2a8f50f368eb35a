/- Parts of the proof: walks and plain facts. Conditions: as each theorem states. -/
import Derived.Test.YtgfjhidfpjmmnaaG2
import Derived.Test.YtgfjhidfpjmmnaaG1
import Derived.Shelf.Small.Bits
import Derived.Shelf.Strconv.Itoa0
import Derived.Shelf.SlSortCmp.WholeK
import Derived.Shelf.SlGeneric
import Derived.Ground.SlsfProg
import Derived.Test.YtgfjhidfpjmmnaaProg
import Derived.Lib.SortBridge
import Derived.Lib.RowBridge
namespace Go.Proofs.Ytgfjhidfpjmmnaa
set_option linter.unusedSimpArgs false
set_option linter.unusedVariables false
open Go.RowKit
/-- append, where nothing more is said of it. -/
def aAppendX (P : Program) (t : TypeId) (s x : AV) (H : AHeap) : Option (AV × AHeap) := aAppend P t s x H
/-- More is appended to a row that grows. -/
theorem aApp_grw {P : Program} {t : TypeId} {b n : Nat} {x : AV} {H : AHeap} : aAppend P t (.sl (some (b, 0)) n (capG n)) x H = (tElem P t).bind fun e => (tSz P e).bind fun sz => (tBytes P e).bind fun by_ => (tZero P e).bind fun z => (aElems sz x H).bind fun mx =>
    (need (z.length = sz ∧ 0 < sz ∧ 0 < by_)).bind fun _ => match H[b]? with
      | some (.cells own es xs) => bif (own == ownG n) && (decide (es = sz) && (decide (xs.length = n * sz) && (decide (0 < mx.1) && xs.all AV.one))) then
          (need ((n + mx.1) * by_ ≤ 140737488355328)).map fun _ => (.sl (some (H.length, 0)) (n + mx.1) none, H.set b (killG n (.cells own es xs)) ++ [.cells true sz (xs ++ mx.2)])
        else aAppendX P t (.sl (some (b, 0)) n (capG n)) x H
      | _ => aAppendX P t (.sl (some (b, 0)) n (capG n)) x H := aApp_grown
theorem W_nil0 {m b : Nat} (h : b < m) : W m (.sl none 0 (some 0)) (.sl (some (b, 0)) 0 none) = True := eq_true (W_nils h (.inl rfl))
theorem W_nil1 {m b : Nat} (h : b < m) : W m (.sl none 0 (some 0)) (.sl (some (b, 0)) 0 (some 0)) = True := eq_true (W_nils h (.inr rfl))
theorem W_cap' {m n : Nat} {p : Nat × Nat} {c : Option Nat} : W m (.sl (some p) n c) (.sl (some p) n none) = True := eq_true W_cap
theorem Wc_nil0 {m b : Nat} (h : b < m) : Wc m (.sl none 0 (some 0)) (.sl (some (b, 0)) 0 none) = True := eq_true (Wc_nils h (.inl rfl))
theorem Wc_nil1 {m b : Nat} (h : b < m) : Wc m (.sl none 0 (some 0)) (.sl (some (b, 0)) 0 (some 0)) = True := eq_true (Wc_nils h (.inr rfl))
theorem Wc_cap' {m n : Nat} {p : Nat × Nat} {c : Option Nat} : Wc m (.sl (some p) n c) (.sl (some p) n none) = True := eq_true Wc_cap
theorem int_beq (a b : Int) : (a == b) = decide (a = b) := rfl
theorem int_bne (a b : Int) : (a != b) = !decide (a = b) := rfl
section
variable {P : Program} {H : AHeap} {n : Nat}
end
/-- The machine steps on by its rules; what must hold is small arithmetic. -/
theorem runT {p q : Prop} (hq : q) (h : q → p := by
  intro hq
  simp -implicitDefEqProofs (disch := omega) only [aApp_nil, aApp_none, aApp_some, aApp_grw, simprocAttr, amset, tyset, Function.comp_apply, one1, lenV, calleeOf, lateOk, belowV, aop, AV.ofValue, AV.ofCell, AV.cells, AV.flat, AV.one, arep, aBin, aConv]
  repeat refine And.intro (by clear hq; omega) ?_
  exact hq) : p := h hq
theorem runTf {p q r : Prop} (f : r) (hq : q) (h : r → q → p := by
  intro hs hq
  simp -implicitDefEqProofs (disch := omega) only [hs, aApp_nil, aApp_none, aApp_some, aApp_grw, simprocAttr, amset, tyset, Function.comp_apply, one1, lenV, calleeOf, lateOk, belowV, aop, AV.ofValue, AV.ofCell, AV.cells, AV.flat, AV.one, arep, aBin, aConv]
  repeat refine And.intro (by clear hq; omega) ?_
  exact hq) : p := h f hq
theorem runDf {p q r : Prop} (f : r) (hq : q) (h : r → q → p := by
  intro hs hq
  simp -implicitDefEqProofs (disch := omega) only [hs, pickL, aApp_nil, aApp_none, aApp_some, aApp_grw, simprocAttr, amset, tyset, Function.comp_apply, one1, lenV, calleeOf, lateOk, belowV, aop, AV.ofValue, AV.ofCell, AV.cells, AV.flat, AV.one, arep, aBin, aConv]
  repeat refine And.intro (by clear hq; omega) ?_
  exact hq) : p := h f hq
/-- A known truth in plain words. -/
theorem bsT {p q : Prop} (h : p) (e : p → q := by
  intro h
  try simp only [boolset, beq_iff_eq, ne_eq] at h
  exact h) : q := e h
theorem bnT {p q : Prop} (h : p) (e : p → q := by
  intro h
  try simp only [int_bne, int_beq, Bool.not_eq_true', Bool.not_eq_false', Bool.not_not] at h
  exact h) : q := e h
/-- Steps in few words: what the kernel can check is found by itself. -/
theorem sqR {P : Program} {N n : Nat} {Q : Exit → Fr → AHeap → Prop} {a b : Code} {F : Fr} {H : AHeap} {E : Fr → AHeap → Prop} (hQ : ∀ F H', E F H' → ARet Q F H') (h : ∀ Q2 : Exit → Fr → AHeap → Prop, (∀ F H, AW P N n b Q F H → Q2 .normal F H) → (∀ F H', E F H' → ARet Q2 F H') → (∀ id F H, Q (.exit id) F H → Q2 (.exit id) F H) → AW P N n a Q2 F H) : AW P N n (.seq a b) Q F H :=
  AW_seqQ fun Q2 hn hr he => h Q2 hn (fun F H' k => hr F H' (hQ F H' k)) he
theorem bkR {P : Program} {N n : Nat} {Q : Exit → Fr → AHeap → Prop} {id : Nat} {c : Code} {F : Fr} {H : AHeap} {E : Fr → AHeap → Prop} (hQ : ∀ F H', E F H' → ARet Q F H') (h : ∀ Q2 : Exit → Fr → AHeap → Prop, (∀ F H, Q .normal F H → Q2 .normal F H) → (∀ F H', E F H' → ARet Q2 F H') → (∀ id', id' ≠ id → ∀ F H, Q (.exit id') F H → Q2 (.exit id') F H) → (∀ F H, Q .normal F H → Q2 (.exit id) F H) → AW P N n c Q2 F H) : AW P N n (.block id c) Q F H :=
  AW_blockQ fun Q2 hn hr he hb => h Q2 hn (fun F H' k => hr F H' (hQ F H' k)) he hb
theorem cv {P : Program} {N n : Nat} {q : Bool} {Q : Exit → Fr → AHeap → Prop} {dst : Option Tmp} {os : List LOp} {r : List It} {F : Fr} {H H1 : AHeap} {f : FuncId} {args : List AV} {x : AV} (h : ACalls P f args H fun v H' => v = x ∧ H' = H1) (k : AGo P N n q Q (.ops os :: r) (putF dst x F) H1) (hok : okFn P f = true := by kernel_rfl) : ACallK P N n q Q none f args dst os r F H := call_v hok h k
theorem cd {P : Program} {N n m : Nat} {q : Bool} {Q : Exit → Fr → AHeap → Prop} {dst : Option Tmp} {os : List LOp} {r : List It} {F : Fr} {H : AHeap} {f : FuncId} {args : List AV} {x : AV} (h : ACalls P f args H fun y H1 => y = x ∧ H1 = H) (k : AGo P N n q Q (.opsD m os :: r) (putF dst x F) H) (hok : okFn P f = true := by kernel_rfl) : ACallK P N n q Q (some m) f args dst os r F H := call_d hok h k
theorem cx {P : Program} {N n m : Nat} {Q : Exit → Fr → AHeap → Prop} {dst : Option Tmp} {os : List LOp} {r : List It} {F : Fr} {H l : AHeap} {f : FuncId} {args : List AV} {x : AV} (h : ACalls P f args H fun y H1 => y = x ∧ H1 = H ++ l) (k : AGo P N n false Q (.opsD m os :: r) (putF dst x F) (H ++ l)) (hok : okFn P f = true := by kernel_rfl) : ACallK P N n false Q (some m) f args dst os r F H := call_x hok trivial h k
theorem fnF {P : Program} {N n : Nat} {Q : Exit → Fr → AHeap → Prop} {a : Code} {F : Fr} {H : AHeap} (h : AGo P N n false Q [.code a] F H) (hc : codeOk N false a = true := by kernel_rfl) (hm : P.follows .mixedOrders = true := by exact try_mixed) : AW P N n a Q F H := AW_fin false hm hc h
theorem glp {P : Program} {N n : Nat} {q : Bool} {Q : Exit → Fr → AHeap → Prop} {r : List It} {F : Fr} {H : AHeap} {c : Code} (I : Nat → Fr → AHeap → Prop) (k0 : Nat) (h0 : ∃ σ F2 H2, I k0 F2 H2 ∧ Abs n σ F H F2 H2)
    (round : ∀ k F H, I k F H → ∀ J : Fr → AHeap → Prop, (∀ F' H', (∃ k', k' < k ∧ ∃ σ F2 H2, I k' F2 H2 ∧ Abs n σ F' H' F2 H2) → J F' H') → AGo P N n q Q (.code c :: .inv J :: r) F H) (hc : codeOk N q c = true := by kernel_rfl) (hm : P.follows .mixedOrders = true := by exact try_mixed) : AGo P N n q Q (.code (.loop c) :: r) F H := go_loop hm hc I k0 h0 round
theorem eP {P : Program} {fn : Func} {H l1 : AHeap} {R : AV → AHeap → Prop} {F : Fr} {Q : Exit → Fr → AHeap → Prop} (hQ : ∀ F H', AEnd P fn H.length R .ret F H' → ARet Q F H') (hbel : HBel H.length H) (x : AV) {l : List ResultVar} (h1 : fn.results = l.toArray) (hR : R x H) (h2 : (aRes P l F (H ++ l1)).map one1 = some x := by simp -implicitDefEqProofs (disch := omega) only [simprocAttr, amset, tyset, Function.comp_apply, one1, lenV, calleeOf, lateOk, belowV, aop, AV.ofValue, AV.ofCell, AV.cells, AV.flat, AV.one, arep, aBin, aAppend, aConv]) (hp : x.bel 0 = true := by rfl) : ARet Q F (H ++ l1) := hQ _ _ (end_plain (.inl rfl) hbel (ret_of h1 h2) hp hR)
theorem eQ {P : Program} {fn : Func} {H : AHeap} {R : AV → AHeap → Prop} {F : Fr} {Q : Exit → Fr → AHeap → Prop} (hQ : ∀ F H', AEnd P fn H.length R .ret F H' → ARet Q F H') (hbel : HBel H.length H) (x : AV) {l : List ResultVar} (h1 : fn.results = l.toArray) (hR : R x H) (h2 : (aRes P l F H).map one1 = some x := by simp -implicitDefEqProofs (disch := omega) only [simprocAttr, amset, tyset, Function.comp_apply, one1, lenV, calleeOf, lateOk, belowV, aop, AV.ofValue, AV.ofCell, AV.cells, AV.flat, AV.one, arep, aBin, aAppend, aConv]) (hp : x.bel 0 = true := by rfl) : ARet Q F H := hQ _ _ (end_plain0 (.inl rfl) hbel (ret_of h1 h2) hp hR)
theorem slA {H : AHeap} {sz n b : Nat} {s : AV} {xs : List AV} {o : Bool} {c : Option Nat} (h1 : s = .sl (some (b, 0)) n c := by first | rfl | (rw [List.length_append]; done) | (rw [List.length_append]; rfl)) (h2 : H[b]? = some (.cells o sz xs) := by first | rfl | (rw [get_newk]; rfl) | (rw [get_new0]; rfl) | (rw [get_newk, prs_append]; rfl) | (rw [get_new0, prs_append]; rfl)) : Sl H sz s n xs := ⟨b, o, c, h1, h2⟩
theorem j2 {a b c : Prop} (x : a) (y : b) (z : c) : a ∧ b ∧ c := ⟨x, y, z⟩
/-- The machine steps on to a truth, and both ways are walked. -/
theorem rcs {P : Program} {N n : Nat} {q : Bool} {Q : Exit → Fr → AHeap → Prop} {r : List It} {F : Fr} {H : AHeap} {t : Bool} {a b : Code} {s p1 p2 G : Prop} (g : G) (k1 : t = true → p1 → (t = true ∧ p1 ∧ G) → AGo P N n q Q (.code a :: r) F H) (k2 : t = false → p2 → (t = false ∧ p2 ∧ G) → AGo P N n q Q (.code b :: r) F H) (h : G → ACond P N n q Q (.bool t) a b r F H → s := by
  intro hs hq
  simp -implicitDefEqProofs (disch := omega) only [hs, aApp_nil, aApp_none, aApp_some, aApp_grw, simprocAttr, amset, tyset, Function.comp_apply, one1, lenV, calleeOf, lateOk, belowV, aop, AV.ofValue, AV.ofCell, AV.cells, AV.flat, AV.one, arep, aBin, aConv]
  repeat refine And.intro (by clear hq; omega) ?_
  exact hq) (e1 : t = true → p1 := by
  intro h
  try simp only [boolset, beq_iff_eq, ne_eq] at h
  exact h) (e2 : t = false → p2 := by
  intro h
  try simp only [boolset, beq_iff_eq, ne_eq] at h
  exact h) : s := h g (cond_split (fun k => k1 k (e1 k) ⟨k, e1 k, g⟩) fun k => k2 k (e2 k) ⟨k, e2 k, g⟩)
theorem rgs {P : Program} {N n : Nat} {q : Bool} {Q : Exit → Fr → AHeap → Prop} {d : Option Nat} {o : Op} {dst : Option Tmp} {os : List LOp} {r : List It} {F : Fr} {H : AHeap} {t : Bool} {s p1 p2 G : Prop} (g : G) (k1 : t = true → p1 → (t = true ∧ p1 ∧ G) → ADo P N n q Q d o dst os r F H) (k2 : t = false → p2 → (t = false ∧ p2 ∧ G) → AGo P N n q Q (itOf d os :: r) (putF dst (.tup []) F) H) (h : G → AGd P N n q Q d (some t) o dst os r F H → s := by
  intro hs hq
  simp -implicitDefEqProofs (disch := omega) only [hs, aApp_nil, aApp_none, aApp_some, aApp_grw, simprocAttr, amset, tyset, Function.comp_apply, one1, lenV, calleeOf, lateOk, belowV, aop, AV.ofValue, AV.ofCell, AV.cells, AV.flat, AV.one, arep, aBin, aConv]
  repeat refine And.intro (by clear hq; omega) ?_
  exact hq) (e1 : t = true → p1 := by
  intro h
  try simp only [boolset, beq_iff_eq, ne_eq] at h
  exact h) (e2 : t = false → p2 := by
  intro h
  try simp only [boolset, beq_iff_eq, ne_eq] at h
  exact h) : s := h g (gd_split (fun k => k1 k (e1 k) ⟨k, e1 k, g⟩) fun k => k2 k (e2 k) ⟨k, e2 k, g⟩)
/-- A call, and the machine steps on. -/
theorem cvr {P : Program} {N n : Nat} {q : Bool} {Q : Exit → Fr → AHeap → Prop} {dst : Option Tmp} {os : List LOp} {r : List It} {F : Fr} {H H1 : AHeap} {f : FuncId} {args : List AV} {x : AV} {s G : Prop} (g : G) (c : ACalls P f args H fun v H' => v = x ∧ H' = H1) (k : s) (h : G → s → AGo P N n q Q (.ops os :: r) (putF dst x F) H1 := by
  intro hs hq
  simp -implicitDefEqProofs (disch := omega) only [hs, aApp_nil, aApp_none, aApp_some, aApp_grw, simprocAttr, amset, tyset, Function.comp_apply, one1, lenV, calleeOf, lateOk, belowV, aop, AV.ofValue, AV.ofCell, AV.cells, AV.flat, AV.one, arep, aBin, aConv]
  repeat refine And.intro (by clear hq; omega) ?_
  exact hq) (hok : okFn P f = true := by kernel_rfl) : ACallK P N n q Q none f args dst os r F H := call_v hok c (h g k)
theorem cdr {P : Program} {N n m : Nat} {q : Bool} {Q : Exit → Fr → AHeap → Prop} {dst : Option Tmp} {os : List LOp} {r : List It} {F : Fr} {H : AHeap} {f : FuncId} {args : List AV} {x : AV} {s G : Prop} (g : G) (c : ACalls P f args H fun y H1 => y = x ∧ H1 = H) (k : s) (h : G → s → AGo P N n q Q (.opsD m os :: r) (putF dst x F) H := by
  intro hs hq
  simp -implicitDefEqProofs (disch := omega) only [hs, aApp_nil, aApp_none, aApp_some, aApp_grw, simprocAttr, amset, tyset, Function.comp_apply, one1, lenV, calleeOf, lateOk, belowV, aop, AV.ofValue, AV.ofCell, AV.cells, AV.flat, AV.one, arep, aBin, aConv]
  repeat refine And.intro (by clear hq; omega) ?_
  exact hq) (hok : okFn P f = true := by kernel_rfl) : ACallK P N n q Q (some m) f args dst os r F H := call_d hok c (h g k)
/-- A state seen as another one, by the blocks that are kept. -/
theorem bS {H0 l1 l2 : AHeap} {F1 F2 : Fr} (hsc : HBel H0.length H0) (sel : List Nat) (h : absF (H0.length + (l1 ++ []).length) (sig H0.length (l1 ++ []).length sel) F1 F2 ∧ absH (H0.length + (l1 ++ []).length) (sig H0.length (l1 ++ []).length sel) (l1 ++ []) sel l2) (hnd : sel.Nodup := by decide) : Abs H0.length (sig H0.length (l1 ++ []).length sel) F1 (H0 ++ l1) F2 (H0 ++ l2) := Abs.byG hsc [] rfl sel hnd h
/-- The machine steps on to the end. -/
theorem eR {P : Program} {fn : Func} {H l1 : AHeap} {R : AV → AHeap → Prop} {F : Fr} {Q : Exit → Fr → AHeap → Prop} {G s : Prop} (g : G) (hQ : ∀ F H', AEnd P fn H.length R .ret F H' → ARet Q F H') (hbel : HBel H.length H) (x : AV) {l : List ResultVar} (h1 : fn.results = l.toArray) (hR : R x H) (h : G → ARet Q F (H ++ l1) → s := by
  intro hs hq
  simp -implicitDefEqProofs (disch := omega) only [hs, aApp_nil, aApp_none, aApp_some, aApp_grw, simprocAttr, amset, tyset, Function.comp_apply, one1, lenV, calleeOf, lateOk, belowV, aop, AV.ofValue, AV.ofCell, AV.cells, AV.flat, AV.one, arep, aBin, aConv]
  repeat refine And.intro (by clear hq; omega) ?_
  exact hq) (h2 : (aRes P l F (H ++ l1)).map one1 = some x := by simp -implicitDefEqProofs (disch := omega) only [simprocAttr, amset, tyset, Function.comp_apply, one1, lenV, calleeOf, lateOk, belowV, aop, AV.ofValue, AV.ofCell, AV.cells, AV.flat, AV.one, arep, aBin, aAppend, aConv]) (hp : x.bel 0 = true := by rfl) : s := h g (eP hQ hbel x h1 hR h2 hp)
theorem eS {P : Program} {fn : Func} {H : AHeap} {R : AV → AHeap → Prop} {F : Fr} {Q : Exit → Fr → AHeap → Prop} {G s : Prop} (g : G) (hQ : ∀ F H', AEnd P fn H.length R .ret F H' → ARet Q F H') (hbel : HBel H.length H) (x : AV) {l : List ResultVar} (h1 : fn.results = l.toArray) (hR : R x H) (h : G → ARet Q F H → s := by
  intro hs hq
  simp -implicitDefEqProofs (disch := omega) only [hs, aApp_nil, aApp_none, aApp_some, aApp_grw, simprocAttr, amset, tyset, Function.comp_apply, one1, lenV, calleeOf, lateOk, belowV, aop, AV.ofValue, AV.ofCell, AV.cells, AV.flat, AV.one, arep, aBin, aConv]
  repeat refine And.intro (by clear hq; omega) ?_
  exact hq) (h2 : (aRes P l F H).map one1 = some x := by simp -implicitDefEqProofs (disch := omega) only [simprocAttr, amset, tyset, Function.comp_apply, one1, lenV, calleeOf, lateOk, belowV, aop, AV.ofValue, AV.ofCell, AV.cells, AV.flat, AV.one, arep, aBin, aAppend, aConv]) (hp : x.bel 0 = true := by rfl) : s := h g (eQ hQ hbel x h1 hR h2 hp)
abbrev T4 := Int × Int × Int × Int
def r4 (l : List T4) : List AV := l.flatMap fun p => [.int .i64 p.1, .int .i64 p.2.1, .int .i64 p.2.2.1, .int .i64 p.2.2.2]
def g4 (l : List T4) (j : Nat) : T4 := l.getD j (0, 0, 0, 0)
def g41 (l : List T4) (j : Nat) : Int := (g4 l j).1
def g42 (l : List T4) (j : Nat) : Int := (g4 l j).2.1
def g43 (l : List T4) (j : Nat) : Int := (g4 l j).2.2.1
def g44 (l : List T4) (j : Nat) : Int := (g4 l j).2.2.2
theorem g4_eq {l : List T4} {j : Nat} (h : j < l.length) : (g41 l j, g42 l j, g43 l j, g44 l j) = l[j] := by
  simp [g41, g42, g43, g44, g4, h, List.getD_eq_getElem?_getD]
theorem r4_nil : r4 [] = [] := rfl
theorem r4_cons {p : T4} {l : List T4} : r4 (p :: l) = .int .i64 p.1 :: .int .i64 p.2.1 :: .int .i64 p.2.2.1 :: .int .i64 p.2.2.2 :: r4 l := rfl
theorem r4_append {l m : List T4} : r4 (l ++ m) = r4 l ++ r4 m := by simp [r4]
theorem r4_len : ∀ {l : List T4}, (r4 l).length = l.length * 4
  | [] => rfl
  | p :: l => by rw [r4_cons]; simp only [List.length_cons, r4_len (l := l)]; omega
theorem mvs_r4 {σ : Nat → Nat} : ∀ {l : List T4}, AV.mvs σ (r4 l) = r4 l
  | [] => rfl
  | p :: l => by
    rw [r4_cons]
    show AV.mv σ _ :: AV.mv σ _ :: AV.mv σ _ :: AV.mv σ _ :: AV.mvs σ (r4 l) = _
    rw [mvs_r4 (l := l)]; rfl
theorem r4_at : ∀ {l : List T4} {j : Nat} (_h : j < l.length), (r4 l).drop (j * 4) = .int .i64 (g41 l j) :: .int .i64 (g42 l j) :: .int .i64 (g43 l j) :: .int .i64 (g44 l j) :: (r4 l).drop ((j + 1) * 4)
  | [], j, h => by simp at h
  | p :: l, 0, _ => by rw [r4_cons]; simp [g41, g42, g43, g44, g4]
  | p :: l, j + 1, h => by
    rw [r4_cons, show (j + 1) * 4 = j * 4 + 1 + 1 + 1 + 1 by omega, List.drop_succ_cons, List.drop_succ_cons, List.drop_succ_cons, List.drop_succ_cons, r4_at (l := l) (by simpa using h), show (j + 1 + 1) * 4 = (j + 1) * 4 + 1 + 1 + 1 + 1 by omega, List.drop_succ_cons, List.drop_succ_cons, List.drop_succ_cons, List.drop_succ_cons]
    rfl
theorem r4_load {l : List T4} {j : Nat} (h : j < l.length) : ((r4 l).drop (j * 4)).take 4 = [.int .i64 (g41 l j), .int .i64 (g42 l j), .int .i64 (g43 l j), .int .i64 (g44 l j)] := by rw [r4_at h]; rfl
theorem r4_p0 {l : List T4} {j : Nat} (h : j < l.length) : ((r4 l).drop (j * 4)).take 2 = [.int .i64 (g41 l j), .int .i64 (g42 l j)] := by rw [r4_at h]; rfl
theorem r4_take {l : List T4} {j : Nat} : (r4 l).take (j * 4) = r4 (l.take j) := by
  induction l generalizing j with
  | nil => simp [r4_nil]
  | cons p l ih =>
    cases j with
    | zero => simp [r4_nil]
    | succ j => rw [r4_cons, show (j + 1) * 4 = j * 4 + 1 + 1 + 1 + 1 by omega, List.take_succ_cons, List.take_succ_cons, List.take_succ_cons, List.take_succ_cons, ih]; rfl
theorem r4_all {l : List T4} : (r4 l).take (l.length * 4) = r4 l := by rw [r4_take, List.take_length]
theorem r4_one {l : List T4} : (r4 l).all AV.one = true := by
  induction l with
  | nil => rfl
  | cons p l ih => rw [r4_cons]; simp [AV.one, ih]
section
variable {P : Program} {H : AHeap} {n : Nat}
theorem rows_r4 {t1 t2 t3 t4 : TypeId} (h1 : P.underlying t1 = some (.int .i64)) (h2 : P.underlying t2 = some (.int .i64)) (h3 : P.underlying t3 = some (.int .i64)) (h4 : P.underlying t4 = some (.int .i64)) : ∀ rows : List (List AV), (∀ r : List AV, r ∈ rows → RTy P H (n + 1) [t1, t2, t3, t4] r) → ∃ l : List T4, l.length = rows.length ∧ rows.flatten = r4 l ∧ ∀ p ∈ l, (Lit.int .i64 p.1).wf = true ∧ (Lit.int .i64 p.2.1).wf = true ∧ (Lit.int .i64 p.2.2.1).wf = true ∧ (Lit.int .i64 p.2.2.2).wf = true
  | [], _ => ⟨[], rfl, rfl, fun z h => by simp at h⟩
  | r :: rows, h => by
    obtain ⟨l, h1', h2', h3'⟩ := rows_r4 h1 h2 h3 h4 rows fun r' hr => h r' (by simp [hr])
    have hr := h r (by simp)
    obtain ⟨y1, r', rfl, hy1, hr⟩ := hr.cons
    obtain ⟨y2, r', rfl, hy2, hr⟩ := hr.cons
    obtain ⟨y3, r', rfl, hy3, hr⟩ := hr.cons
    obtain ⟨y4, r', rfl, hy4, hr⟩ := hr.cons
    obtain rfl := hr.nil
    obtain ⟨z1, rfl, hz1⟩ := hy1.int h1
    obtain ⟨z2, rfl, hz2⟩ := hy2.int h2
    obtain ⟨z3, rfl, hz3⟩ := hy3.int h3
    obtain ⟨z4, rfl, hz4⟩ := hy4.int h4
    exact ⟨(z1, z2, z3, z4) :: l, by simp [h1'], by simp [h2', r4_cons], fun z' h' => by
      rcases List.mem_cons.1 h' with rfl | h'
      · exact ⟨hz1, hz2, hz3, hz4⟩
      exact h3' _ h'⟩
abbrev Sl4 (H : AHeap) (s : AV) (l : List T4) : Prop := Sl H 4 s l.length (r4 l)
theorem LTy.rec4 {t e t1 t2 t3 t4 : TypeId} {x : AV} (ht : P.underlying t = some (.slice e)) (h1 : P.underlying t1 = some (.int .i64)) (h2 : P.underlying t2 = some (.int .i64)) (h3 : P.underlying t3 = some (.int .i64)) (h4 : P.underlying t4 = some (.int .i64)) (hl : leafs P (n + 1) e = some [t1, t2, t3, t4]) (h : LTy P H (n + 2) t x) :
    ∃ l : List T4, Sl4 H x l ∧ l.length ≤ maxLen ∧ ∀ p ∈ l, (Lit.int .i64 p.1).wf = true ∧ (Lit.int .i64 p.2.1).wf = true ∧ (Lit.int .i64 p.2.2.1).wf = true ∧ (Lit.int .i64 p.2.2.2).wf = true := by
  obtain ⟨b, rows, rfl, k1, k2, k3⟩ := h.slice ht hl
  obtain ⟨l, q1, q2, q3⟩ := rows_r4 h1 h2 h3 h4 rows k3
  exact ⟨l, ⟨b, false, none, by rw [q1], by rw [← q2]; exact k2⟩, by omega, q3⟩
end
/-- The entries that have not been seen. -/
def leftE (es : List (AV × AV)) (bs sn : List Nat) : List (AV × AV) := ((es.zip bs).filter fun p => !sn.contains p.2).map (·.1)
theorem leftE_all : ∀ {es : List (AV × AV)} {bs : List Nat}, es.length = bs.length → leftE es bs [] = es
  | [], [], _ => rfl
  | x :: es, b :: bs, h => by
    have := leftE_all (es := es) (bs := bs) (by simpa using h)
    unfold leftE at this ⊢
    simpa using this
  | [], _ :: _, h => by simp at h
  | _ :: _, [], h => by simp at h
theorem leftE_cons {x : AV × AV} {es : List (AV × AV)} {b : Nat} {bs sn : List Nat} : leftE (x :: es) (b :: bs) sn = if b ∈ sn then leftE es bs sn else x :: leftE es bs sn := by
  unfold leftE
  by_cases h : b ∈ sn
  · simp [h]
  simp [h]
theorem leftE_other : ∀ {es : List (AV × AV)} {bs sn : List Nat} {st : Nat}, st ∉ bs → leftE es bs (sn ++ [st]) = leftE es bs sn
  | [], _, _, _, _ => by simp [leftE]
  | _ :: _, [], _, _, _ => by simp [leftE]
  | x :: es, b :: bs, sn, st, h => by
    have hb : b ≠ st := fun e => h (by simp [e])
    have ih := leftE_other (es := es) (bs := bs) (sn := sn) (st := st) (fun q => h (List.mem_cons_of_mem _ q))
    rw [leftE_cons, leftE_cons, ih]
    simp [hb]
theorem leftE_at : ∀ {es : List (AV × AV)} {bs sn : List Nat} {i : Nat} {x : AV × AV} {st : Nat}, bs.Nodup → es[i]? = some x → bs[i]? = some st → st ∉ sn → ∃ l1 l2, leftE es bs sn = l1 ++ x :: l2 ∧ leftE es bs (sn ++ [st]) = l1 ++ l2
  | y :: es, b :: bs, sn, 0, x, st, hn, hx, hs, hm => by
    simp only [List.getElem?_cons_zero, Option.some.injEq] at hx hs
    subst hx hs
    refine ⟨[], leftE es bs sn, ?_, ?_⟩
    · rw [leftE_cons, if_neg hm]; rfl
    rw [leftE_cons, if_pos (by simp)]; exact leftE_other (List.nodup_cons.1 hn).1
  | y :: es, b :: bs, sn, i + 1, x, st, hn, hx, hs, hm => by
    simp only [List.getElem?_cons_succ] at hx hs
    obtain ⟨l1, l2, h1, h2⟩ := leftE_at (List.nodup_cons.1 hn).2 hx hs hm
    have hb : b ≠ st := fun e => (List.nodup_cons.1 hn).1 (e ▸ List.mem_of_getElem? hs)
    by_cases hq : b ∈ sn
    · refine ⟨l1, l2, ?_, ?_⟩
      · rw [leftE_cons, if_pos hq, h1]
      rw [leftE_cons, if_pos (by simp [hq]), h2]
    refine ⟨y :: l1, l2, ?_, ?_⟩
    · rw [leftE_cons, if_neg hq, h1]; rfl
    rw [leftE_cons, if_neg (by simp [hq, hb]), h2]; rfl
  | [], _, _, _, _, _, _, hx, _, _ => by simp at hx
  | _ :: _, [], _, _, _, _, _, _, hs, _ => by simp at hs
section
variable {P : Program} {E : Env} {H : AHeap} {w : World}
/-- A block of its own is seen otherwise, and the world's object in it is another one. -/
theorem Emb.setObj (h : Emb E H w) {b : Nat} {x0 nx : ABlk} (hb : H[b]? = some x0) (h0 : x0.owned = true) (o : Obj) (k1 : E.B ≤ (E.loc b).blk) (hn : BlkOk E { w with heap := w.heap.setIfInBounds (E.loc b).blk o } (E.loc b) nx) :
    Emb E (H.set b nx) { w with heap := w.heap.setIfInBounds (E.loc b).blk o } := by
  have hbl := getElem?_lt hb
  have hother : ∀ k, k ≠ (E.loc b).blk → ({ w with heap := w.heap.setIfInBounds (E.loc b).blk o } : World).heap[k]? = w.heap[k]? := fun k hk => by
    simp only; rw [Array.getElem?_setIfInBounds_ne (by omega)]
  have hget : ∀ c x, (H.set b nx)[c]? = some x → (c = b ∧ x = nx) ∨ (c ≠ b ∧ H[c]? = some x) := fun c x hx => by
    rw [List.getElem?_set] at hx
    by_cases e : b = c
    · subst e; simp [hbl] at hx; exact .inl ⟨rfl, hx.symm⟩
    rw [if_neg e] at hx; exact .inr ⟨fun e' => e e'.symm, hx⟩
  refine ⟨by simp [h.n], h.below.trans ⟨rfl, rfl, rfl, by simp, fun k hk => hother k (by omega)⟩, by simpa using h.base, fun c x hx => ?_, fun c d x y hx hy ox oy hcd => ?_⟩
  · rcases hget c x hx with ⟨rfl, rfl⟩ | ⟨hcb, hx⟩
    · exact hn
    exact (h.blk c x hx).mono (.refl E) (by simp) (fun ho => hother _ (h.inj c b x _ hx hb ho h0 hcb)) (fun hB => hother _ (by omega))
  have ow : ∀ (c : Nat) (x : ABlk), (H.set b nx)[c]? = some x → x.owned = true → ∃ x' : ABlk, H[c]? = some x' ∧ x'.owned = true := fun c x hx ho => by
    rcases hget c x hx with ⟨rfl, rfl⟩ | ⟨_, hx⟩
    · exact ⟨_, hb, h0⟩
    exact ⟨x, hx, ho⟩
  obtain ⟨x', hx', ox'⟩ := ow c x hx ox
  obtain ⟨y', hy', oy'⟩ := ow d y hy oy
  exact h.inj c d x' y' hx' hy' ox' oy' hcd
/-- A block of its own is seen otherwise. -/
theorem Emb.seen (h : Emb E H w) {b : Nat} {x0 nx : ABlk} (hb : H[b]? = some x0) (h0 : x0.owned = true) (hn : BlkOk E w (E.loc b) nx) : Emb E (H.set b nx) w := by
  have hbl := getElem?_lt hb
  have hget : ∀ c x, (H.set b nx)[c]? = some x → (c = b ∧ x = nx) ∨ (c ≠ b ∧ H[c]? = some x) := fun c x hx => by
    rw [List.getElem?_set] at hx
    by_cases e : b = c
    · subst e; simp [hbl] at hx; exact .inl ⟨rfl, hx.symm⟩
    rw [if_neg e] at hx; exact .inr ⟨fun e' => e e'.symm, hx⟩
  refine ⟨by simp [h.n], h.below, h.base, fun c x hx => ?_, fun c d x y hx hy ox oy hcd => ?_⟩
  · rcases hget c x hx with ⟨rfl, rfl⟩ | ⟨hcb, hx⟩
    · exact hn
    exact h.blk c x hx
  have ow : ∀ (c : Nat) (x : ABlk), (H.set b nx)[c]? = some x → x.owned = true → ∃ x' : ABlk, H[c]? = some x' ∧ x'.owned = true := fun c x hx ho => by
    rcases hget c x hx with ⟨rfl, rfl⟩ | ⟨_, hx⟩
    · exact ⟨_, hb, h0⟩
    exact ⟨x, hx, ho⟩
  obtain ⟨x', hx', ox'⟩ := ow c x hx ox
  obtain ⟨y', hy', oy'⟩ := ow d y hy oy
  exact h.inj c d x' y' hx' hy' ox' oy' hcd
/-- The loop over a map begins: the map stays as it is while it is gone through. -/
theorem snd_range (h : Emb E H w) {b : Nat} {mv : Value} {t k e : TypeId} {es : List (AV × AV)} (hm : Rel E (.mp (some b)) mv) (hb : H[b]? = some (.map es)) (ht : P.underlying t = some (.map k e)) :
    ∃ bs ck, bs.length = es.length ∧ Snd P E w (Instr.range t mv) (.ptr (some (H.length, 0)), H.set b (.fmap es bs ck) ++ [.iter b bs [] ck]) := by
  cases hm with
  | mp _ hbn =>
  obtain ⟨k1, k2, ents, ck, k3, k4, k5, k6⟩ := h.blk b _ hb
  refine ⟨ents.toList.map (·.born), ck, by have := k4.1; simpa using this.symm, ?_⟩
  have h1 : Emb E (H.set b (.fmap es (ents.toList.map (·.born)) ck)) w := h.seen hb rfl ⟨k1, k2, ents, k3, k4, k5, rfl⟩
  have hg : w.grownBy (w.alloc (.mapIter (some (E.loc b).blk) ck #[] ck)) none := ⟨rfl, rfl, rfl, by simp, fun k hk _ => Below.heap_alloc _ _ _ hk⟩
  have hlen : (H.set b (.fmap es (ents.toList.map (·.born)) ck)).length = H.length := List.length_set
  have hE := h1.grow hg (fun k hk => by cases hk) rfl (fun c x hx => .inr ⟨hx, fun _ hh => by cases hh⟩) ⟨w.heap.size, 0, 0, 0⟩ (.iter b (ents.toList.map (·.born)) [] ck)
    ⟨h.base, by simp, by simp [Env.push]; omega, rfl, k6.2, fun x hx => by
      obtain ⟨y, hy, rfl⟩ := List.mem_map.1 hx
      exact k6.1 y hy, by rw [Env.push_old _ _ hbn]; exact heap_alloc_new w _⟩
    (fun c x hx ho => by have := h1.ownLt hx ho; show (E.loc c).blk ≠ w.heap.size; omega)
  have en := Env.push_new E ⟨w.heap.size, 0, 0, 0⟩
  rw [h.n] at en
  have hp := Rel.ptr (E := E.push ⟨w.heap.size, 0, 0, 0⟩) H.length 0 (by simp [Env.push, h.n])
  rw [en] at hp
  refine ⟨_, _, _, ?_, E.le_push _, hp, hE⟩
  have hget : (getObj (E.loc b).blk).run P w = .ok (.map ents ck) w := by simp [getObj, Sem.run, k3]
  simp [Instr.range, run_underlying ht, hget]
/-- A step of an iterator: nothing is left, or one of those that are left comes out. -/
theorem run_nextI (w : World) (ty : TypeId) (r bm ck : Nat) (seen : Array Nat) (es : Array MapEntry) (hr : w.heap[r]? = some (.mapIter (some bm) ck seen ck)) (hb : w.heap[bm]? = some (.map es ck)) (hold : ∀ x ∈ es.toList, x.born < ck) :
    ((es.filter fun e => !seen.contains e.born).size = 0 ∧ (Instr.next (.pointer (some ⟨r, 0, none⟩)) false ty).run P w = .ok (.tuple #[.bool false]) w) ∨
    ∃ e ∈ (es.filter fun e => !seen.contains e.born).toList, ∃ w1 : World, (w1 = w ∨ w1 = w.drew) ∧ (Instr.next (.pointer (some ⟨r, 0, none⟩)) false ty).run P w = .ok (.tuple #[.bool true, e.key, e.val]) { w1 with heap := w1.heap.setIfInBounds r (.mapIter (some bm) ck (seen.push e.born) ck) } := by
  have ht : (!seen.isEmpty && !es.isEmpty && es.all (fun x => decide (x.born ≥ ck))) = false := by
    cases he : es.isEmpty with
    | true => simp
    | false =>
      have hall : es.all (fun x => decide (x.born ≥ ck)) = false := by
        rw [Bool.eq_false_iff]
        intro h
        rw [Array.all_eq_true_iff_forall_mem] at h
        have h0 : 0 < es.size := by
          rcases Nat.eq_zero_or_pos es.size with h0 | h0
          · simp [Array.isEmpty, h0] at he
          exact h0
        have h1 := h _ (Array.getElem_mem h0)
        have h2 := hold es[0] (by simp)
        simp at h1
        omega
      simp [hall]
  simp only [Instr.next, getObj, Sem.run_bind, Sem.run, hr, hb, Result.andThen, ht, Bool.false_eq_true, if_false]
  have hmem : ∀ x ∈ (Array.filter (fun e => !seen.contains e.born) es).toList, x.born < ck := fun x hx => hold x (by simp at hx ⊢; exact hx.1)
  generalize Array.filter (fun e => !seen.contains e.born) es = L at hmem ⊢
  have e1 : L.filter (fun x => decide (x.born < ck)) = L := Array.filter_eq_self.2 (fun x hx => by simpa using hmem x (by simpa using hx))
  have e2 : L.filter (fun x => decide (x.born ≥ ck)) = #[] := by
    rw [Array.filter_eq_empty_iff]
    intro x hx
    have := hmem x (by simpa using hx)
    simp
    omega
  simp only [e1, e2, Array.append_empty]
  by_cases h0 : L.size = 0
  · left
    have : L = #[] := Array.eq_empty_of_size_eq_zero h0
    subst this
    refine ⟨rfl, ?_⟩
    simp [choose, Sem.run, Question.forced]
  right
  have hne : L.isEmpty = false := by simp [Array.isEmpty, h0]
  simp only [hne, Bool.false_eq_true, if_false, Array.empty_append, Array.size_map]
  have hch : ∃ (j : Nat) (w1 : World), j < L.size ∧ (w1 = w ∨ w1 = w.drew) ∧ (choose (Question.mapNext L.size)).run P w = .ok j w1 := by
    by_cases hf : L.size ≤ 1
    · exact ⟨0, w, by omega, .inl rfl, by simp [choose, Sem.run, Question.forced, hf]⟩
    exact ⟨_, w.drew, Nat.mod_lt _ (by omega), .inr rfl, by
      simp only [choose, Sem.run, Question.forced, decide_eq_true_eq, hf, if_false, Question.cut]
      rfl⟩
  obtain ⟨j, w1, hj, hal, hrun⟩ := hch
  refine ⟨L[j], by simp, w1, hal, ?_⟩
  have hr1 : w1.heap[r]? = some (.mapIter (some bm) ck seen ck) := by rcases hal with rfl | rfl <;> exact hr
  have hset : ∀ (o' : Obj), (setObj r o').run P w1 = .ok () { w1 with heap := w1.heap.setIfInBounds r o' } := fun o' => by
    simp only [setObj, Sem.run, hr1]
  simp only [hrun, Array.getElem?_map, Array.getElem?_eq_getElem hj, Option.map_some, Sem.run_bind, hset, Result.andThen]
  rfl
theorem snd_next (h : Emb E H w) {bi m ck : Nat} {bs sn : List Nat} {es : List (AV × AV)} {pv : Value} (hp : Rel E (.ptr (some (bi, 0))) pv) (hi : H[bi]? = some (.iter m bs sn ck)) (hm : H[m]? = some (.fmap es bs ck)) (ty : TypeId) :
    (leftE es bs sn = [] ∧ Snd P E w (Instr.next pv false ty) (.tup [.bool false], H)) ∨
    ∃ (l1 : List (AV × AV)) (x : AV × AV) (l2 : List (AV × AV)) (st : Nat), (∃ j : Nat, es[j]? = some x ∧ bs[j]? = some st) ∧ leftE es bs sn = l1 ++ x :: l2 ∧ leftE es bs (sn ++ [st]) = l1 ++ l2 ∧ Snd P E w (Instr.next pv false ty) (.tup [.bool true, x.1, x.2], H.set bi (.iter m bs (sn ++ [st]) ck)) := by
  cases hp with
  | ptr _ _ hbn =>
  obtain ⟨i1, i2, i3, i4, i5, i6, i7⟩ := h.blk bi _ hi
  obtain ⟨k1, k2, ents, k3, k4, k5, k6⟩ := h.blk m _ hm
  rw [i4]
  have hold : ∀ x ∈ ents.toList, x.born < ck := fun x hx => i6 _ (k6 ▸ List.mem_map_of_mem hx)
  have hlen : es.length = ents.toList.length := by have := k4.1; simpa using this
  rcases run_nextI (P := P) w ty (E.loc bi).blk (E.loc m).blk ck sn.toArray ents i7 k3 hold with ⟨q1, q2⟩ | ⟨e, he, w1, hw1, hrun⟩
  · left
    refine ⟨?_, E, _, w, q2, .refl E, ?_, h⟩
    · unfold leftE
      have hf : (ents.toList.filter fun e => !sn.contains e.born) = [] := by
        have := congrArg Array.toList (Array.eq_empty_of_size_eq_zero q1)
        simpa using this
      rw [List.filter_eq_nil_iff] at hf
      have : (es.zip bs).filter (fun p => !sn.contains p.2) = [] := by
        rw [List.filter_eq_nil_iff]
        intro p hp
        have h2 : p.2 ∈ bs := (List.of_mem_zip (a := p.1) (b := p.2) hp).2
        rw [← k6] at h2
        obtain ⟨y, hy, e⟩ := List.mem_map.1 h2
        rw [← e]
        exact hf y hy
      rw [this]; rfl
    exact RelL.tup (.cons (.bool false) (.nil E))
  right
  have he' : e ∈ ents.toList ∧ e.born ∉ sn := by simpa using he
  obtain ⟨j, hj⟩ := List.mem_iff_getElem?.1 he'.1
  have hjl := getElem?_lt hj
  have hx : es[j]? = some (es[j]'(by omega)) := List.getElem?_eq_getElem _
  have hbj : bs[j]? = some e.born := by rw [← k6, List.getElem?_map, hj]; rfl
  obtain ⟨l1, l2, h1, h2⟩ := leftE_at i5 hx hbj he'.2
  refine ⟨l1, _, l2, e.born, ⟨j, hx, hbj⟩, h1, h2, E, _, _, hrun, .refl E, ?_, ?_⟩
  · have r1 : Rel E (es[j]'(by omega)).1 e.key := k4.2 j _ _ (by rw [List.getElem?_map, hx]; rfl) (by rw [List.getElem?_map, hj]; rfl)
    have r2 : Rel E (es[j]'(by omega)).2 e.val := k5.2 j _ _ (by rw [List.getElem?_map, hx]; rfl) (by rw [List.getElem?_map, hj]; rfl)
    exact RelL.tup (.cons (.bool true) (.cons r1 (.cons r2 (.nil E))))
  have hE1 : Emb E H w1 := by rcases hw1 with rfl | rfl; exact h; exact h.drew
  have hs : w1.heap.size = w.heap.size := by rcases hw1 with rfl | rfl <;> rfl
  refine hE1.setObj hi rfl _ i1 ⟨i1, by simp [hs]; exact i2, i3, i4, i5, i6, ?_⟩
  simp only
  rw [Array.getElem?_setIfInBounds_self_of_lt (by rw [hs]; exact i2)]
  simp
/-- What came out at the last step. -/
theorem snd_entry (h : Emb E H w) {bi m ck j st : Nat} {bs sn : List Nat} {es : List (AV × AV)} {x : AV × AV} {pv : Value} (hp : Rel E (.ptr (some (bi, 0))) pv) (hi : H[bi]? = some (.iter m bs (sn ++ [st]) ck)) (hm : H[m]? = some (.fmap es bs ck)) (hx : es[j]? = some x) (hs : bs[j]? = some st) :
    Snd P E w (Instr.entry pv) (.tup [x.1, x.2], H) := by
  cases hp with
  | ptr _ _ hbn =>
  obtain ⟨i1, i2, i3, i4, i5, i6, i7⟩ := h.blk bi _ hi
  obtain ⟨k1, k2, ents, k3, k4, k5, k6⟩ := h.blk m _ hm
  rw [i4]
  have hjb : j < bs.length := getElem?_lt hs
  have hje : j < ents.toList.length := by rw [← k6, List.length_map] at hjb; exact hjb
  have hst : ents.toList[j].born = st := by
    have : (ents.toList.map (·.born))[j]? = some st := by rw [k6]; exact hs
    rw [List.getElem?_map, List.getElem?_eq_getElem hje] at this
    simpa using this
  have hfind : ents.find? (fun e => e.born == st) = some ents.toList[j] := by
    rw [← Array.find?_toList, List.find?_eq_some_iff_getElem]
    refine ⟨by rw [hst]; exact beq_self_eq_true _, j, hje, rfl, fun i hi => ?_⟩
    have hne : ents.toList[i].born ≠ st := fun q => by
      have h1 : bs[i]? = some st := by rw [← k6, List.getElem?_map, List.getElem?_eq_getElem (by omega)]; exact congrArg some q
      have := (List.getElem?_inj (by have := getElem?_lt h1; omega) i5).1 (h1.trans hs.symm)
      omega
    simpa using hne
  have hxe : es[j]? = some x := hx
  have r1 : Rel E x.1 ents.toList[j].key := k4.2 j _ _ (by rw [List.getElem?_map, hx]; rfl) (by rw [List.getElem?_map, List.getElem?_eq_getElem hje]; rfl)
  have r2 : Rel E x.2 ents.toList[j].val := k5.2 j _ _ (by rw [List.getElem?_map, hx]; rfl) (by rw [List.getElem?_map, List.getElem?_eq_getElem hje]; rfl)
  refine ⟨E, _, w, ?_, .refl E, RelL.tup (.cons r1 (.cons r2 (.nil E))), h⟩
  have hback : (sn ++ [st]).toArray.back? = some st := by simp
  simp only [Instr.entry, getObj, Sem.run_bind, Sem.run, i7, k3, Result.andThen, hback, hfind]
  simp
end
section
variable {P : Program} {N n : Nat} {q : Bool} {Q : Exit → Fr → AHeap → Prop} {F : Fr} {H : AHeap}
end
def mkv (p : Int × Int) : AV × AV := (.agg [.int .i64 p.1, .int .i64 p.2], .bool true)
/-- The map of a set of cells. -/
def mset (l : List (Int × Int)) : List (AV × AV) := l.map mkv
section
variable {P : Program} {kt : TypeId}
theorem key_mblk (hE : ∀ a b c d : Int, aEq P 20 kt [.int .i64 a, .int .i64 b] [.int .i64 c, .int .i64 d] = some ((a == c) && ((b == d) && true))) (x y : Int) : aKey P kt (.agg [.int .i64 x, .int .i64 y]) = some [.int .i64 x, .int .i64 y] := by
  unfold aKey
  simp only [hE, Option.bind_some, sameInts, decide_true, Bool.and_true, need, if_true, Option.map_some]
end
def lkM (P : Program) (t : TypeId) (B : Option ABlk) (k : AV) : Option AV :=
  match B with
  | some (.map es) => (tMap P t).bind fun p => (aKey P p.1 k).bind fun ks => (aFind P p.1 ks es).bind fun o => (need (tZeroOk P p.2 = true)).bind fun _ => (zeroAV P p.2).map fun z => match o with | some q => q.2 | none => z
  | _ => none
def upM (P : Program) (t : TypeId) (B : Option ABlk) (k x : AV) : Option ABlk :=
  match B with
  | some (.map es) => (tMap P t).bind fun p => (aKey P p.1 k).bind fun ks => (aFind P p.1 ks es).bind fun o =>
      match o with
      | none => some (.map (es ++ [(.agg ks, x)]))
      | some q => (need ((match es[q.1]? with | some (.agg ks', _) => sameInts ks' ks | _ => false) = true)).map fun _ => .map (es.set q.1 (.agg ks, x))
  | _ => none
def deM (P : Program) (t : TypeId) (B : Option ABlk) (k : AV) : Option ABlk :=
  match B with
  | some (.map es) => (tMap P t).bind fun p => (aKey P p.1 k).bind fun ks => (aFind P p.1 ks es).map fun o =>
      match o with
      | none => .map es
      | some q => .map (es.eraseIdx q.1)
  | _ => none
theorem lk_eq {P : Program} {t : TypeId} {b : Nat} {k : AV} {H : AHeap} : aLookup P t (.mp (some b)) k false H = lkM P t H[b]? k := by
  unfold aLookup lkM aEnts
  cases tMap P t with
  | none => simp only [Option.bind_none]; split <;> rfl
  | some p =>
    simp only [Option.bind_some]
    cases H[b]? with
    | none => rfl
    | some x => cases x <;> rfl
def lkG (P : Program) (t : TypeId) (m k : AV) (ok : Bool) (H : AHeap) : Option AV := aLookup P t m k ok H
/-- As general as the definition's own equation, and ahead of it in the list. -/
theorem lk_gen {P : Program} {t : TypeId} {m k : AV} {ok : Bool} {H : AHeap} : aLookup P t m k ok H = lkG P t m k ok H := rfl
theorem lk_mp {P : Program} {t : TypeId} {b : Nat} {k : AV} {H : AHeap} : lkG P t (.mp (some b)) k false H = lkM P t H[b]? k := lk_eq
theorem up_eq {P : Program} {t : TypeId} {b : Nat} {k x : AV} {H : AHeap} : aMapUpdate P t (.mp (some b)) k x H = (upM P t H[b]? k x).map fun y => H.set b y := by
  unfold aMapUpdate upM
  simp only
  cases H[b]? with
  | none => rfl
  | some z =>
    cases z with
    | map es =>
      simp only
      cases tMap P t with
      | none => rfl
      | some p =>
        simp only [Option.bind_some]
        cases aKey P p.1 k with
        | none => rfl
        | some ks =>
          simp only [Option.bind_some]
          cases aFind P p.1 ks es with
          | none => rfl
          | some o =>
            simp only [Option.bind_some]
            cases o with
            | none => rfl
            | some q => simp only [Option.map_map]; rfl
    | _ => rfl
theorem de_eq {P : Program} {t : TypeId} {b : Nat} {k : AV} {H : AHeap} : aDelete P t (.mp (some b)) k H = (deM P t H[b]? k).map fun y => H.set b y := by
  unfold aDelete deM
  simp only
  cases H[b]? with
  | none => rfl
  | some z =>
    cases z with
    | map es =>
      simp only
      cases tMap P t with
      | none => rfl
      | some p =>
        simp only [Option.bind_some]
        cases aKey P p.1 k with
        | none => rfl
        | some ks =>
          simp only [Option.bind_some]
          cases aFind P p.1 ks es with
          | none => rfl
          | some o => cases o <;> rfl
    | _ => rfl
section
variable {P : Program} {t kt et : TypeId} (hT : tMap P t = some (kt, et)) (hE : ∀ a b c d : Int, aEq P 20 kt [.int .i64 a, .int .i64 b] [.int .i64 c, .int .i64 d] = some ((a == c) && ((b == d) && true)))
include hT hE
end
theorem mset_nil : mset [] = [] := rfl
def mkE (e : T4) : AV × AV := (.agg [.int .i64 e.1, .int .i64 e.2.1], .agg [.int .i64 e.1, .int .i64 e.2.1, .int .i64 e.2.2.1, .int .i64 e.2.2.2])
/-- The map of a list of entries (each cell once), by their cells. -/
def mapE (l : List T4) : List (AV × AV) := l.map mkE
/-- Where an entry at a cell stands. -/
def fdE4 : List T4 → Int → Int → Option (Nat × T4)
  | [], _, _ => none
  | p :: r, x, y => bif ((x == p.1) && ((y == p.2.1) && true)) then some (0, p) else (fdE4 r x y).map fun q => (q.1 + 1, q.2)
/-- The entry at a cell, or that of nothing. -/
def lkE (l : List T4) (x y : Int) : T4 := match fdE4 l x y with | some q => q.2 | none => (0, 0, 0, 0)
/-- An entry is laid in. -/
def upE (l : List T4) (e : T4) : List T4 := match fdE4 l e.1 e.2.1 with | some q => l.set q.1 e | none => l ++ [e]
theorem fdE4_some : ∀ {l : List T4} {x y : Int} {q : Nat × T4}, fdE4 l x y = some q → l[q.1]? = some q.2 ∧ q.2.1 = x ∧ q.2.2.1 = y
  | [], _, _, _, h => by cases h
  | p :: r, x, y, q, h => by
    unfold fdE4 at h
    cases hb : ((x == p.1) && ((y == p.2.1) && true)) with
    | true =>
      rw [hb] at h
      simp only [cond_true, Option.some.injEq] at h
      subst h
      simp only [Bool.and_true, Bool.and_eq_true, beq_iff_eq] at hb
      exact ⟨rfl, hb.1.symm, hb.2.symm⟩
    | false =>
      rw [hb] at h
      simp only [cond_false, Option.map_eq_some_iff] at h
      obtain ⟨q', hq, rfl⟩ := h
      exact fdE4_some (l := r) hq
section
variable {P : Program} {kt : TypeId}
theorem find_ment (hE : ∀ a b c d : Int, aEq P 20 kt [.int .i64 a, .int .i64 b] [.int .i64 c, .int .i64 d] = some ((a == c) && ((b == d) && true))) (x y : Int) : ∀ l : List T4, aFind P kt [.int .i64 x, .int .i64 y] (l.map mkE) = some ((fdE4 l x y).map fun q => (q.1, .agg [.int .i64 q.2.1, .int .i64 q.2.2.1, .int .i64 q.2.2.2.1, .int .i64 q.2.2.2.2]))
  | [] => rfl
  | p :: r => by
    rw [List.map_cons]
    show (aEq P 20 kt [.int .i64 x, .int .i64 y] [.int .i64 p.1, .int .i64 p.2.1]).bind _ = _
    rw [hE, find_ment hE x y r]
    rw [show fdE4 (p :: r) x y = bif ((x == p.1) && ((y == p.2.1) && true)) then some (0, p) else (fdE4 r x y).map fun q => (q.1 + 1, q.2) from rfl]
    cases ((x == p.1) && ((y == p.2.1) && true)) with
    | true => rfl
    | false => simp only [Option.bind_some, cond_false, Option.map_some, Option.map_map]; rfl
end
section
variable {P : Program} {t kt et : TypeId} (hT : tMap P t = some (kt, et)) (hE : ∀ a b c d : Int, aEq P 20 kt [.int .i64 a, .int .i64 b] [.int .i64 c, .int .i64 d] = some ((a == c) && ((b == d) && true)))
include hT hE
theorem lk_ment (hz : tZeroOk P et = true) (h0 : zeroAV P et = some (.agg [.int .i64 0, .int .i64 0, .int .i64 0, .int .i64 0])) (l : List T4) (x y : Int) : lkM P t (some (.map (mapE l))) (.agg [.int .i64 x, .int .i64 y]) = some (.agg [.int .i64 (lkE l x y).1, .int .i64 (lkE l x y).2.1, .int .i64 (lkE l x y).2.2.1, .int .i64 (lkE l x y).2.2.2]) := by
  unfold lkM mapE
  simp only [hT, Option.bind_some, key_mblk hE, find_ment hE, hz, need, if_true, h0, Option.map_some]
  unfold lkE
  cases h : fdE4 l x y with
  | none => rfl
  | some q => rfl
theorem up_ment (l : List T4) (x y h p : Int) : upM P t (some (.map (mapE l))) (.agg [.int .i64 x, .int .i64 y]) (.agg [.int .i64 x, .int .i64 y, .int .i64 h, .int .i64 p]) = some (.map (mapE (upE l (x, y, h, p)))) := by
  unfold upM mapE
  simp only [hT, Option.bind_some, key_mblk hE, find_ment hE]
  unfold upE
  cases hf : fdE4 l x y with
  | none => simp [mkE]
  | some q =>
    obtain ⟨h1, h2, h3⟩ := fdE4_some hf
    have hg : (l.map mkE)[q.1]? = some (mkE q.2) := by rw [List.getElem?_map, h1]; rfl
    simp only [Option.map_some, hg, mkE, h2, h3, sameInts, decide_true, Bool.and_true, need, if_true, Option.some.injEq, ABlk.map.injEq]
    rw [List.map_set]; rfl
end
theorem mapE_nil : mapE [] = [] := rfl
theorem mv_mapE {σ : Nat → Nat} (l : List T4) : List.map (fun p => (AV.mv σ p.1, AV.mv σ p.2)) (mapE l) = mapE l := by
  unfold mapE
  rw [List.map_map]
  rfl
/-- Counters are added at a cell. -/
def addE (l : List T4) (x y h p : Int) : List T4 := upE l (x, y, (lkE l x y).2.2.1 + h, (lkE l x y).2.2.2 + p)
/-- The rest of a region, from its operation k on. -/
def ARest (P : Program) (N n : Nat) (Q : Exit → Fr → AHeap → Prop) (ops : Array Oper) (k : Nat) (F : Fr) (H : AHeap) : Prop :=
  ∀ (E : Env) (w : World) (a : Act), n ≤ E.n → a.tmps.size = N → a.defers = [] → FrRel E F a → Emb E H w → wpOps P ops (LiftQ N n Q E) (List.range' k (ops.size - k)) a w
section
variable {P : Program} {N n : Nat} {q : Bool} {Q : Exit → Fr → AHeap → Prop} {F : Fr} {H : AHeap} {ops : Array Oper}
theorem AW_rest {id : Nat} (h : ARest P N n Q ops 0 F H) : AW P N n (.region id ops false) Q F H := by
  intro E w a h1 h2 h3 h4 h5
  refine wp_region ?_
  have := h E w a h1 h2 h3 h4 h5
  rwa [Nat.sub_zero, ← List.range_eq_range'] at this
theorem AOps_pre (hN : dstsOk N ops = true) {K : Fr → AHeap → Prop} (m : Nat) : ∀ (l : List Oper) (k : Nat), (∀ i, i < l.length → ops[k + i]? = l[i]?) → (∀ F' H', K F' H' → ARest P N n Q ops (k + l.length) F' H') → k + l.length + m = ops.size → ∀ (F : Fr) (H : AHeap), AOps P ops l F H K → ARest P N n Q ops k F H
  | [], k, _, hK, _, F, H, h => hK F H h
  | o :: os, k, hk, hK, hm, F, H, h => fun E w a h1 h2 h3 h4 h5 => by
    have ho : ops[k]? = some o := by
      have := hk 0 (by simp)
      simpa using this
    have hos : ∀ i, i < os.length → ops[k + 1 + i]? = os[i]? := fun i hi => by
      have := hk (i + 1) (by simpa using hi)
      rw [show k + (i + 1) = k + 1 + i by omega] at this
      simpa using this
    have hd : ∀ t, o.dst = some t → t < N := fun t ht => by
      have := Array.all_eq_true_iff_forall_mem.1 hN o (Array.mem_of_getElem? ho)
      rw [ht] at this
      simpa using this
    rw [List.length_cons] at hm
    have hK' : ∀ F' H', K F' H' → ARest P N n Q ops (k + 1 + os.length) F' H' := fun F' H' hh => by
      have := hK F' H' hh
      rwa [List.length_cons, show k + (os.length + 1) = k + 1 + os.length by omega] at this
    have next : ∀ (F' : Fr) (H' : AHeap), AOps P ops os F' H' K → ∀ (E' : Env) (w' : World) (a' : Act), E.le E' → a'.tmps.size = N → a'.defers = [] → FrRel E' F' a' → Emb E' H' w' → wpOps P ops (LiftQ N n Q E) (List.range' (k + 1) (ops.size - (k + 1))) a' w' := fun F' H' h' E' w' a' hle k2 k3 k4 k5 => by
      have := AOps_pre hN m os (k + 1) hos hK' (by omega) F' H' h' E' w' a' (Nat.le_trans h1 hle.n) k2 k3 k4 k5
      exact wpOps_mono' (fun e a w hq => hq.shift (hle.leN h1)) _ _ _ this
    have hops : ∀ x ∈ o.op.operands, Rel E (aev F x) (a.eval x) := fun x _ => h4.ev x
    rw [show ops.size - k = (ops.size - (k + 1)) + 1 by omega]
    simp only [List.range'_succ, wpOps, ho]
    unfold AOps at h
    cases hg : gd ops F o with
    | none => rw [hg] at h; exact h.elim
    | some b =>
      rw [hg] at h
      rw [gd_spec hg (fun t _ => h4 t)]
      cases b
      · simp only at h
        simp only [Bool.false_eq_true, if_false]
        obtain ⟨q1, q2, q3⟩ := put_rel h4 h2 hd (rel_undef E)
        exact next _ _ h E w _ (.refl E) q2 (q3.trans h3) q1 h5
      simp only [AOp] at h
      simp only [if_true]
      left
      unfold Oper.wp
      cases hc : calleeOf o.op F with
      | some p =>
        obtain ⟨f, args⟩ := p
        rw [hc] at h
        obtain ⟨hok, hcall⟩ := h
        obtain ⟨vs, hrun, hvs⟩ := run_callOp hops hc hok w
        rw [hrun, Oper.upon_enter]
        refine (hcall E w vs h5 hvs).mono ?_
        rintro e w' ⟨E', v, H', x, rfl, hx, hle, hv, hE'⟩
        obtain ⟨q1, q2, q3⟩ := put_rel (h4.mono hle) h2 hd hv
        exact next _ _ hx E' w' _ hle q2 (q3.trans h3) q1 hE'
      | none =>
        rw [hc] at h
        obtain ⟨r, hr, h⟩ := h
        obtain ⟨E', nx, w', hrun, hn, hle, hE'⟩ := snd_op h5 o hops hr
        rw [hrun]
        rcases hn with ⟨rfl, hany⟩ | ⟨v, rfl, hv⟩
        · rw [Oper.upon_skip]
          obtain ⟨q1, q2, q3⟩ := put_rel (h4.mono hle) h2 hd (x := r.1) (v := undef) (by rw [hany]; exact .any _)
          exact next _ _ h E' w' _ hle q2 (q3.trans h3) q1 hE'
        rw [Oper.upon_value]
        obtain ⟨q1, q2, q3⟩ := put_rel (h4.mono hle) h2 hd hv
        exact next _ _ h E' w' _ hle q2 (q3.trans h3) q1 hE'
/-- Some operations are run. -/
theorem ARest_pre {k : Nat} {l rest : List Oper} (hops : ops.toList.drop k = l ++ rest) (h : ∀ J : Fr → AHeap → Prop, (∀ F' H', ARest P N n Q ops (k + l.length) F' H' → J F' H') → AGo P N n q Q [.ops (l.map (lightOf (dsts ops))), .inv J] F H) (hN : dstsOk N ops = true := by kernel_rfl) (hs : k + l.length + rest.length = ops.size := by rfl) : ARest P N n Q ops k F H := by
  refine AOps_pre hN rest.length l k (fun i hi => ?_) (fun _ _ hh => hh) hs F H (AOps_of (ops := ops) l F H (h _ fun _ _ hh => hh))
  have := congrArg (·[i]?) hops
  simp only [List.getElem?_drop] at this
  rw [List.getElem?_append_left hi] at this
  simpa using this
/-- The rest is run. -/
theorem ARest_fin {k : Nat} {l : List Oper} (hops : ops.toList.drop k = l) (h : AGo P N n q Q [.ops (l.map (lightOf (dsts ops)))] F H) (hN : dstsOk N ops = true := by kernel_rfl) : ARest P N n Q ops k F H := fun E w a h1 h2 h3 h4 h5 => by
  have hl := congrArg List.length hops
  rw [List.length_drop, Array.length_toList] at hl
  have := AOps_wp (n := n) hN l k hops F H (AOps_of (ops := ops) l F H h) E w a h1 h2 h3 h4 h5
  rwa [← hl] at this
/-- An operation of which only this is known: what it comes to, in whatever world. -/
theorem ARest_op {k : Nat} {o : Oper} (hk : ops[k]? = some o) (hN : dstsOk N ops = true) (hg : o.guard = none)
    (h : ∀ (E : Env) (w : World) (a : Act), FrRel E F a → Emb E H w → ∃ r : AV × AHeap, (∃ E' v w', ((execOp a.eval o).run P w = .ok (.value v) w' ∨ ((execOp a.eval o).run P w = .ok .skip w' ∧ v = undef)) ∧ E.le E' ∧ Rel E' r.1 v ∧ Emb E' r.2 w') ∧ ARest P N n Q ops (k + 1) (putF o.dst r.1 F) r.2) : ARest P N n Q ops k F H := by
  intro E w a h1 h2 h3 h4 h5
  obtain ⟨r, ⟨E', v, w', hrun, hle, hv, hE'⟩, hgo⟩ := h E w a h4 h5
  have hks : k < ops.size := by
    rw [Array.getElem?_eq_some_iff] at hk
    exact hk.1
  have hd : ∀ t, o.dst = some t → t < N := fun t ht => by
    have := Array.all_eq_true_iff_forall_mem.1 hN o (Array.mem_of_getElem? hk)
    rw [ht] at this
    simpa using this
  obtain ⟨q1, q2, q3⟩ := put_rel (h4.mono hle) h2 hd hv
  have hr := hgo E' w' _ (Nat.le_trans h1 hle.n) q2 (q3.trans h3) q1 hE'
  have hr' := wpOps_mono' (fun e a w hq => LiftQ.shift (hle.leN h1) hq) _ _ _ hr
  rw [show ops.size - k = (ops.size - (k + 1)) + 1 by omega]
  simp only [List.range'_succ, wpOps, hk]
  have hw : Region.wanted o (yielded ops a.tmps) = true := by unfold Region.wanted; rw [hg]
  rw [hw]
  simp only [if_true]
  left
  unfold Oper.wp
  rcases hrun with hrun | ⟨hrun, rfl⟩
  · rw [hrun, Oper.upon_value]; exact hr'
  rw [hrun, Oper.upon_skip]; exact hr'
theorem ARest_range {k : Nat} {o : Oper} {t kt e : TypeId} {x : Operand} {b : Nat} {es : List (AV × AV)} (hk : ops[k]? = some o) (ho : o.op = .range t x) (hx : aev F x = .mp (some b)) (hb : H[b]? = some (.map es))
    (h : ∀ bs ck, bs.length = es.length → ARest P N n Q ops (k + 1) (putF o.dst (.ptr (some (H.length, 0))) F) (H.set b (.fmap es bs ck) ++ [.iter b bs [] ck])) (hN : dstsOk N ops = true := by kernel_rfl) (hg : o.guard = none := by rfl) (ht : P.underlying t = some (.map kt e) := by kernel_rfl) : ARest P N n Q ops k F H := by
  refine ARest_op hk hN hg fun E w a hF hE => ?_
  have hr := hF.ev x
  rw [hx] at hr
  obtain ⟨bs, ck, hl, E', v, w', q1, q2, q3, q4⟩ := snd_range (P := P) hE hr hb ht
  exact ⟨_, ⟨E', v, w', .inl (by simp [execOp, ho, q1]), q2, q3, q4⟩, h bs ck hl⟩
theorem ARest_next {k : Nat} {o : Oper} {it : Operand} {bi m ck : Nat} {bs sn : List Nat} {es : List (AV × AV)} (hk : ops[k]? = some o) (ho : o.op = .next it false) (hit : aev F it = .ptr (some (bi, 0))) (hi : H[bi]? = some (.iter m bs sn ck)) (hm : H[m]? = some (.fmap es bs ck))
    (h0 : leftE es bs sn = [] → ARest P N n Q ops (k + 1) (putF o.dst (.tup [.bool false]) F) H)
    (h1 : ∀ (l1 : List (AV × AV)) (x : AV × AV) (l2 : List (AV × AV)) (st j : Nat), es[j]? = some x → bs[j]? = some st → leftE es bs sn = l1 ++ x :: l2 → leftE es bs (sn ++ [st]) = l1 ++ l2 → ARest P N n Q ops (k + 1) (putF o.dst (.tup [.bool true, x.1, x.2]) F) (H.set bi (.iter m bs (sn ++ [st]) ck)))
    (hN : dstsOk N ops = true := by kernel_rfl) (hg : o.guard = none := by rfl) : ARest P N n Q ops k F H := by
  refine ARest_op hk hN hg fun E w a hF hE => ?_
  have hr := hF.ev it
  rw [hit] at hr
  rcases snd_next (P := P) hE hr hi hm o.type with ⟨e0, E', v, w', q1, q2, q3, q4⟩ | ⟨l1, x, l2, st, ⟨j, ex, es'⟩, e1, e2, E', v, w', q1, q2, q3, q4⟩
  · exact ⟨_, ⟨E', v, w', .inl (by simp [execOp, ho, q1]), q2, q3, q4⟩, h0 e0⟩
  exact ⟨_, ⟨E', v, w', .inl (by simp [execOp, ho, q1]), q2, q3, q4⟩, h1 l1 x l2 st j ex es' e1 e2⟩
theorem ARest_entry {k : Nat} {o : Oper} {it : Operand} {bi m ck j st : Nat} {bs sn : List Nat} {es : List (AV × AV)} {x : AV × AV} (hk : ops[k]? = some o) (ho : o.op = .entry it) (hit : aev F it = .ptr (some (bi, 0))) (hi : H[bi]? = some (.iter m bs (sn ++ [st]) ck)) (hm : H[m]? = some (.fmap es bs ck)) (hx : es[j]? = some x) (hs : bs[j]? = some st)
    (h : ARest P N n Q ops (k + 1) (putF o.dst (.tup [x.1, x.2]) F) H) (hN : dstsOk N ops = true := by kernel_rfl) (hg : o.guard = none := by rfl) : ARest P N n Q ops k F H := by
  refine ARest_op hk hN hg fun E w a hF hE => ?_
  have hr := hF.ev it
  rw [hit] at hr
  obtain ⟨E', v, w', q1, q2, q3, q4⟩ := snd_entry (P := P) hE hr hi hm hx hs
  exact ⟨_, ⟨E', v, w', .inl (by simp [execOp, ho, q1]), q2, q3, q4⟩, h⟩
end
/-- Maps of entries that are gone through. -/
theorem mapE_cons {rem : List T4} {l1 l2 : List (AV × AV)} {x : AV × AV} (h : mapE rem = l1 ++ x :: l2) : ∃ r1 e r2, rem = r1 ++ e :: r2 ∧ l1 = mapE r1 ∧ x = mkE e ∧ l2 = mapE r2 := by
  unfold mapE at h ⊢
  obtain ⟨a, b, rfl, rfl, h2⟩ := List.map_eq_append_iff.1 h
  obtain ⟨c, d, rfl, rfl, rfl⟩ := List.map_eq_cons_iff.1 h2
  exact ⟨a, c, d, rfl, rfl, rfl, rfl⟩
theorem mapE_mem {S : List T4} {j : Nat} {e : T4} (h : (mapE S)[j]? = some (mkE e)) : e ∈ S := by
  unfold mapE at h
  rw [List.getElem?_map] at h
  cases hs : S[j]? with
  | none => rw [hs] at h; simp at h
  | some a =>
    rw [hs] at h
    have k : mkE a = mkE e := by simpa using h
    have k2 := congrArg (·.2) k
    simp [mkE] at k2
    have : a = e := Prod.ext k2.1 (Prod.ext k2.2.1 (Prod.ext k2.2.2.1 k2.2.2.2))
    rw [← this]
    exact List.mem_of_getElem? hs
theorem modify_same {ents : Array MapEntry} {i : Nat} {e : MapEntry} {K : Value} (h : ents[i]? = some e) (hk : e.key = K) : (ents.modify i fun e => { e with key := K }) = ents := by
  refine Array.toList_inj.1 (List.ext_getElem? fun j => ?_)
  simp only [Array.toList_modify, List.getElem?_modify]
  by_cases q : i = j
  · subst q
    have h' : ents.toList[i]? = some e := by simpa using h
    rw [h']
    subst hk
    show some (if i = i then _ else e) = some e
    rw [if_pos rfl]
  simp [q]
section
variable {P : Program} {E : Env} {H : AHeap} {w : World}
theorem snd_mapEntry (h : Emb E H w) {t kt et : TypeId} {b : Nat} {k : AV} {mv kv : Value} (hm : Rel E (.mp (some b)) mv) (hk : Rel E k kv) {es : List (AV × AV)} (hb : H[b]? = some (.map es)) (ht : tMap P t = some (kt, et)) {ks : List AV} (hks : aKey P kt k = some ks) {o : Option (Nat × AV)} (ho : aFind P kt ks es = some o) :
    (o = none → ∀ {z : AV}, tZeroOk P et = true → zeroAV P et = some z → ∃ bs ck, bs.length = es.length ∧ (bs ++ [ck]).Nodup ∧ (∀ x ∈ bs ++ [ck], x < ck + 1) ∧ Snd P E w (Instr.mapEntry t mv kv) (.tup [z, .int .i64 (ck : Nat)], H.set b (.fmap (es ++ [(k, z)]) (bs ++ [ck]) (ck + 1)))) ∧
    (∀ i y, o = some (i, y) → (match es[i]? with | some (.agg ks', _) => sameInts ks' ks | _ => false) = true → ∃ bs ck st, bs.length = es.length ∧ bs.Nodup ∧ (∀ x ∈ bs, x < ck) ∧ bs[i]? = some st ∧ Snd P E w (Instr.mapEntry t mv kv) (.tup [y, .int .i64 (st : Nat)], H.set b (.fmap es bs ck))) := by
  obtain ⟨hu, fs, hkt⟩ := tMap_spec ht
  obtain ⟨rfl, -, q, hq⟩ := aKey_spec hks
  obtain ⟨kvs, rfl, hkr⟩ := rel_agg_inv hk
  cases hm with
  | mp _ hbn =>
  obtain ⟨k1, k2, ents, clock, k3, k4, k5, k6⟩ := h.blk b _ hb
  have hag : tAgg P kt = some true := by rw [tAgg_of hkt]; rfl
  obtain ⟨o', q1, q2, q3⟩ := run_findKey (w := w) hkt hkr k4 k5 ho
  have hck : ∀ em, (Instr.checkKey em 10000 kt (.agg kvs.toArray)).run P w = .ok () w := fun em => run_checkKey em 20 kt ks kvs _ q hq hkr (by unfold ofCells; rw [if_pos hag]) 9980 w
  have hget : (getObj (E.loc b).blk).run P w = .ok (.map ents clock) w := by simp [getObj, Sem.run, k3]
  have hlen : es.length = ents.toList.length := by have := k4.1; simpa using this
  have hbl := getElem?_lt hb
  refine ⟨fun hn z hzo hz => ?_, fun i y hs hsame => ?_⟩
  · have := q2 hn
    subst this
    obtain ⟨zv, z1, z2⟩ := zeroAV_spec (E := E) (w := w) hz (fun zv hzv => by
      unfold tZeroOk at hzo
      try simp only at hzo
      rw [hzv] at hzo
      constructor
      · intro hg; rw [hg] at hzo; cases zv <;> first | exact ⟨_, rfl⟩ | cases hzo
      intro hg cs hcs; subst hcs; rw [hg] at hzo; cases hzo)
    have hE := h.setMap hb (es' := es ++ [(.agg ks, z)]) (ents := ents.push { key := .agg kvs.toArray, val := zv, born := clock }) (clock + 1) (by simpa using k4.append (.cons hk (.nil E))) (by simpa using k5.append (.cons z2 (.nil E))) (mok_push k6)
    have hmo := mok_push k6 (k := .agg kvs.toArray) (v := zv)
    have hset : (H.set b (.map (es ++ [(.agg ks, z)])))[b]? = some (.map (es ++ [(.agg ks, z)])) := List.getElem?_set_self hbl
    obtain ⟨m1, m2, ents2, ck2, m3, m4, m5, m6⟩ := hE.blk b _ hset
    have hheap : ({ w with heap := w.heap.setIfInBounds (E.loc b).blk (.map (ents.push { key := .agg kvs.toArray, val := zv, born := clock }) (clock + 1)) } : World).heap[(E.loc b).blk]? = some (.map (ents.push { key := .agg kvs.toArray, val := zv, born := clock }) (clock + 1)) := by
      show (w.heap.setIfInBounds (E.loc b).blk _)[(E.loc b).blk]? = _
      rw [Array.getElem?_setIfInBounds_self_of_lt k2]
    rw [hheap] at m3
    obtain ⟨rfl, rfl⟩ : ents.push { key := .agg kvs.toArray, val := zv, born := clock } = ents2 ∧ clock + 1 = ck2 := by simpa using m3
    have hbs : (ents.push { key := .agg kvs.toArray, val := zv, born := clock }).toList.map (·.born) = ents.toList.map (·.born) ++ [clock] := by simp
    have hE2 := hE.seen hset rfl (nx := .fmap (es ++ [(.agg ks, z)]) (ents.toList.map (·.born) ++ [clock]) (clock + 1)) ⟨m1, m2, _, hheap, m4, m5, hbs⟩
    rw [List.set_set] at hE2
    refine ⟨ents.toList.map (·.born), clock, by rw [List.length_map, hlen], by rw [← hbs]; exact hmo.2, fun x hx => ?_, E, .tuple #[zv, goInt (clock : Nat)], _, ?_, .refl E, ?_, hE2⟩
    · rw [← hbs] at hx
      obtain ⟨e, he, rfl⟩ := List.mem_map.1 hx
      exact hmo.1 e he
    · simp only [Instr.mapEntry, Sem.run_bind, run_underlying hu, Result.andThen_ok, hget, hck, q1, z1, run_setObj k3]
      rfl
    exact (RelL.cons z2 (.cons (.int .i64 _) (.nil E))).tup
  obtain ⟨v, rfl, hv⟩ := q3 i y hs
  split at hsame
  · rename_i ks' y' hes
    have hkeyrel : ∃ e, ents[i]? = some e ∧ Rel E (.agg ks') e.key := by
      obtain ⟨u, hu1, hu2⟩ := k4.get (i := i) (x := .agg ks') (by rw [List.getElem?_map, hes]; rfl)
      rw [List.getElem?_map] at hu1
      cases hei : ents.toList[i]? with
      | none => rw [hei] at hu1; cases hu1
      | some e => rw [hei] at hu1; simp at hu1; subst hu1; exact ⟨e, by simpa using hei, hu2⟩
    obtain ⟨e, he, her⟩ := hkeyrel
    obtain ⟨us, hus, husr⟩ := rel_agg_inv her
    have hkeq := sameInts_rel hsame husr hkr
    subst hkeq
    obtain ⟨w1, hw1, hw1'⟩ := run_keyStays (P := P) (w := w) (.agg us.toArray)
    have hE1 : Emb E H w1 := by rcases hw1' with rfl | rfl; exact h; exact h.drew
    have k3' : w1.heap[(E.loc b).blk]? = some (.map ents clock) := by rcases hw1' with rfl | rfl <;> exact k3
    have k2' : (E.loc b).blk < w1.heap.size := by rcases hw1' with rfl | rfl <;> exact k2
    have hE2 := hE1.setMap hb (es' := es) (ents := ents) clock k4 k5 k6
    have hset : (H.set b (.map es))[b]? = some (.map es) := List.getElem?_set_self hbl
    have hheap : ({ w1 with heap := w1.heap.setIfInBounds (E.loc b).blk (.map ents clock) } : World).heap[(E.loc b).blk]? = some (.map ents clock) := by
      show (w1.heap.setIfInBounds (E.loc b).blk _)[(E.loc b).blk]? = _
      rw [Array.getElem?_setIfInBounds_self_of_lt k2']
    have hE3 := hE2.seen hset rfl (nx := .fmap es (ents.toList.map (·.born)) clock) ⟨k1, by simpa using k2', ents, hheap, k4, k5, rfl⟩
    rw [List.set_set] at hE3
    have hei : ents.toList[i]? = some e := by simpa using he
    refine ⟨ents.toList.map (·.born), clock, e.born, by rw [List.length_map, hlen], k6.2, fun x hx => ?_, by rw [List.getElem?_map, hei]; rfl, E, .tuple #[v, goInt (e.born : Nat)], _, ?_, .refl E, ?_, hE3⟩
    · obtain ⟨e', he', rfl⟩ := List.mem_map.1 hx
      exact k6.1 e' he'
    · have hmap : ((ents[i]?.map (·.key)).getD (.agg us.toArray)) = .agg us.toArray := by rw [he]; exact hus
      have hms := modify_same he hus
      simp only [Instr.mapEntry, Sem.run_bind, run_underlying hu, Result.andThen_ok, hget, hck, q1]
      have hbo : (((ents[i]?).map (fun x => (x.born : Int))).getD 0) = (e.born : Int) := by rw [he]; rfl
      simp only [hmap, hw1, Result.andThen_ok, hms, run_setObj k3', Sem.run_bind]
      rw [hbo]
      rfl
    exact (RelL.cons hv (.cons (.int .i64 _) (.nil E))).tup
  cases hsame
theorem snd_entryStore (h : Emb E H w) {t : TypeId} {b i st ck : Nat} {bs : List Nat} {es : List (AV × AV)} {kk y x : AV} {mv sv xv : Value} (hm : Rel E (.mp (some b)) mv) (hs : Rel E (.int .i64 (st : Nat)) sv) (hx : Rel E x xv) (hb : H[b]? = some (.fmap es bs ck)) (hi : bs[i]? = some st) (hes : es[i]? = some (kk, y)) (hn : bs.Nodup) (hlt : ∀ x ∈ bs, x < ck) :
    SndU P E w (Instr.entryStore t mv sv xv) (H.set b (.map (es.set i (kk, x)))) := by
  cases hm with
  | mp _ hbn =>
  cases hs with
  | int _ _ =>
  obtain ⟨k1, k2, ents, k3, k4, k5, k6⟩ := h.blk b _ hb
  have hbl := getElem?_lt hb
  have hie : i < ents.toList.length := by have := getElem?_lt hi; rw [← k6, List.length_map] at this; exact this
  have hst : ents.toList[i].born = st := by
    have : (ents.toList.map (·.born))[i]? = some st := by rw [k6]; exact hi
    rw [List.getElem?_map, List.getElem?_eq_getElem hie] at this
    simpa using this
  have hmok : MOk ents ck := ⟨fun e he => hlt _ (k6 ▸ List.mem_map_of_mem he), by rw [k6]; exact hn⟩
  have hE0 : Emb E (H.set b (.map es)) w := h.seen hb rfl ⟨k1, k2, ents, ck, k3, k4, k5, hmok⟩
  have hset : (H.set b (.map es))[b]? = some (.map es) := List.getElem?_set_self hbl
  have hfind : ents.findIdx? (fun e => (e.born : Int) == (st : Int)) = some i := by
    rw [Array.findIdx?_eq_some_iff_getElem]
    have hq : ents[i].born = st := by simpa using hst
    refine ⟨by simpa using hie, by simp [hq], fun j hj => ?_⟩
    have hne : ents.toList[j].born ≠ st := fun q => by
      have h1 : bs[j]? = some st := by rw [← k6, List.getElem?_map, List.getElem?_eq_getElem (by omega)]; exact congrArg some q
      have := (List.getElem?_inj (by have := getElem?_lt h1; omega) hn).1 (h1.trans hi.symm)
      omega
    have hsz0 : i < ents.size := by simpa using hie
    have hne' : (ents[j]'(by omega)).born ≠ st := by simpa using hne
    simp only [beq_iff_eq, Int.natCast_inj]
    exact hne'
  have hget : (getObj (E.loc b).blk).run P w = .ok (.map ents ck) w := by simp [getObj, Sem.run, k3]
  have hk1 : RelL E ((es.set i (kk, x)).map (·.1)) ((ents.modify i fun e => { e with val := xv }).toList.map (·.key)) := by
    have e1 : (es.set i (kk, x)).map (·.1) = es.map (·.1) := by
      refine List.ext_getElem? fun j => ?_
      rw [List.map_set, List.getElem?_set]
      split
      · rename_i q; subst q
        rw [List.getElem?_map, hes]
        have := getElem?_lt hes
        simp [this]
      rfl
    have e2 : (ents.modify i fun e => { e with val := xv }).toList.map (·.key) = ents.toList.map (·.key) := by
      refine List.ext_getElem? fun j => ?_
      simp only [List.getElem?_map, Array.toList_modify, List.getElem?_modify]
      by_cases q : i = j
      · subst q; cases ents.toList[i]? <;> simp
      simp [q]
    rw [e1, e2]; exact k4
  have hk2 : RelL E ((es.set i (kk, x)).map (·.2)) ((ents.modify i fun e => { e with val := xv }).toList.map (·.val)) := by
    have := relL_set k5 i hx
    refine ⟨by have := this.1; simp at this ⊢; exact this, fun j y u hy hu => this.2 j y u (by rw [← hy]; simp [List.map_set]) ?_⟩
    rw [← hu]
    simp only [List.getElem?_set, List.getElem?_map, List.length_map, Array.toList_modify, List.getElem?_modify]
    have hsz : i < ents.size := by simpa using hie
    have he2 : ents[i]? = some ents[i] := Array.getElem?_eq_getElem hsz
    by_cases e : i = j
    · subst e; simp [he2, hsz]
    simp [e]
  have hmo : MOk (ents.modify i fun e => { e with val := xv }) ck := by
    have e : (ents.modify i fun e => { e with val := xv }).toList.map (·.born) = ents.toList.map (·.born) := by
      refine List.ext_getElem? fun j => ?_
      simp only [List.getElem?_map, Array.toList_modify, List.getElem?_modify]
      by_cases q : i = j
      · subst q; cases ents.toList[i]? <;> simp
      simp [q]
    refine ⟨fun a ha => ?_, by rw [e]; exact hmok.2⟩
    have : a.born ∈ ents.toList.map (·.born) := e ▸ List.mem_map_of_mem ha
    obtain ⟨a', ha', q⟩ := List.mem_map.1 this
    rw [← q]; exact hmok.1 a' ha'
  have hE2 := hE0.setMap hset (es' := es.set i (kk, x)) (ents := ents.modify i fun e => { e with val := xv }) ck hk1 hk2 hmo
  rw [List.set_set] at hE2
  refine ⟨E, _, ?_, .refl E, hE2⟩
  simp only [Instr.entryStore, Sem.run_bind, hget, Result.andThen_ok, asInt, asIntOf, Sem.run_pure, hfind, run_setObj k3]
end
section
variable {P : Program} {N n : Nat} {q : Bool} {Q : Exit → Fr → AHeap → Prop} {F : Fr} {H : AHeap} {ops : Array Oper}
/-- A key that the map does not have: its entry is new. -/
theorem ARest_mapNew {k : Nat} {o : Oper} {t kt et : TypeId} {xm xk : Operand} {b : Nat} {kk z : AV} {es : List (AV × AV)} {ks : List AV} (hk : ops[k]? = some o) (ho : o.op = .mapEntry t xm xk) (hx : aev F xm = .mp (some b)) (hxk : aev F xk = kk) (hb : H[b]? = some (.map es)) (hks : aKey P kt kk = some ks) (hf : aFind P kt ks es = some none)
    (h : ∀ bs ck, bs.length = es.length → (bs ++ [ck]).Nodup → (∀ x ∈ bs ++ [ck], x < ck + 1) → ARest P N n Q ops (k + 1) (putF o.dst (.tup [z, .int .i64 (ck : Nat)]) F) (H.set b (.fmap (es ++ [(kk, z)]) (bs ++ [ck]) (ck + 1))))
    (ht : tMap P t = some (kt, et) := by kernel_rfl) (hzo : tZeroOk P et = true := by kernel_rfl) (hz : zeroAV P et = some z := by kernel_rfl) (hN : dstsOk N ops = true := by kernel_rfl) (hg : o.guard = none := by rfl) : ARest P N n Q ops k F H := by
  refine ARest_op hk hN hg fun E w a hF hE => ?_
  have hr := hF.ev xm
  rw [hx] at hr
  have hr2 := hF.ev xk
  rw [hxk] at hr2
  obtain ⟨bs, ck, h1, h2, h3, E', v, w', q1, q2, q3, q4⟩ := (snd_mapEntry (P := P) hE hr hr2 hb ht hks hf).1 rfl hzo hz
  exact ⟨_, ⟨E', v, w', .inl (by simp [execOp, ho, q1]), q2, q3, q4⟩, h bs ck h1 h2 h3⟩
/-- A key that the map has: its entry is opened. -/
theorem ARest_mapOld {k : Nat} {o : Oper} {t kt et : TypeId} {xm xk : Operand} {b i : Nat} {kk y : AV} {es : List (AV × AV)} {ks : List AV} (hk : ops[k]? = some o) (ho : o.op = .mapEntry t xm xk) (hx : aev F xm = .mp (some b)) (hxk : aev F xk = kk) (hb : H[b]? = some (.map es)) (hks : aKey P kt kk = some ks) (hf : aFind P kt ks es = some (some (i, y))) (hsm : (match es[i]? with | some (.agg ks', _) => sameInts ks' ks | _ => false) = true)
    (h : ∀ bs ck st, bs.length = es.length → bs.Nodup → (∀ x ∈ bs, x < ck) → bs[i]? = some st → ARest P N n Q ops (k + 1) (putF o.dst (.tup [y, .int .i64 (st : Nat)]) F) (H.set b (.fmap es bs ck)))
    (ht : tMap P t = some (kt, et) := by kernel_rfl) (hN : dstsOk N ops = true := by kernel_rfl) (hg : o.guard = none := by rfl) : ARest P N n Q ops k F H := by
  refine ARest_op hk hN hg fun E w a hF hE => ?_
  have hr := hF.ev xm
  rw [hx] at hr
  have hr2 := hF.ev xk
  rw [hxk] at hr2
  obtain ⟨bs, ck, st, h1, h2, h3, h4, E', v, w', q1, q2, q3, q4⟩ := (snd_mapEntry (P := P) hE hr hr2 hb ht hks hf).2 i y rfl hsm
  exact ⟨_, ⟨E', v, w', .inl (by simp [execOp, ho, q1]), q2, q3, q4⟩, h bs ck st h1 h2 h3 h4⟩
/-- The opened entry is stored to. -/
theorem ARest_store {k : Nat} {o : Oper} {t : TypeId} {xm xs xx : Operand} {b i st ck : Nat} {bs : List Nat} {es : List (AV × AV)} {kk y x : AV} (hk : ops[k]? = some o) (ho : o.op = .entryStore t xm xs xx) (hd : o.dst = none) (hx : aev F xm = .mp (some b)) (hxs : aev F xs = .int .i64 (st : Nat)) (hxx : aev F xx = x) (hb : H[b]? = some (.fmap es bs ck)) (hi : bs[i]? = some st) (hes : es[i]? = some (kk, y)) (hn : bs.Nodup) (hlt : ∀ x ∈ bs, x < ck)
    (h : ARest P N n Q ops (k + 1) F (H.set b (.map (es.set i (kk, x)))))
    (hN : dstsOk N ops = true := by kernel_rfl) (hg : o.guard = none := by rfl) : ARest P N n Q ops k F H := by
  refine ARest_op hk hN hg fun E w a hF hE => ?_
  have hr := hF.ev xm
  rw [hx] at hr
  have hr2 := hF.ev xs
  rw [hxs] at hr2
  have hr3 := hF.ev xx
  rw [hxx] at hr3
  obtain ⟨E', w', q1, q2, q3⟩ := snd_entryStore (P := P) hE hr hr2 hr3 hb hi hes hn hlt (t := t)
  exact ⟨(.any, _), ⟨E', undef, w', .inr ⟨by simp [execOp, ho, q1], rfl⟩, q2, .any _, q3⟩, by rw [hd]; exact h⟩
end
/-- The form of a number. -/
def form (n : Nat) : List Int := if n < 128 then [(n : Int)] else ((n % 128 + 128 : Nat) : Int) :: form (n / 128)
theorem form_lt {n : Nat} (h : n < 128) : form n = [(n : Int)] := by rw [form, if_pos h]
theorem form_ge {n : Nat} (h : 128 ≤ n) : form n = ((n % 128 + 128 : Nat) : Int) :: form (n / 128) := by rw [form, if_neg (by omega)]
theorem form_pos (n : Nat) : 0 < (form n).length := by
  by_cases h : n < 128
  · rw [form_lt h]; exact Nat.one_pos
  rw [form_ge (by omega)]; exact Nat.succ_pos _
theorem form_len : ∀ (k n : Nat), n < 128 ^ (k + 1) → (form n).length ≤ k + 1
  | 0, n, h => by rw [form_lt (by simpa using h)]; exact Nat.le_refl _
  | k + 1, n, h => by
    by_cases hn : n < 128
    · rw [form_lt hn]; simp
    rw [form_ge (by omega), List.length_cons]
    have := form_len k (n / 128) (Nat.div_lt_of_lt_mul (by rw [Nat.pow_succ] at h; omega))
    omega
theorem form_bd (n : Nat) : ∀ c ∈ form n, 0 ≤ c ∧ c ≤ 255 := by
  induction n using Nat.strongRecOn with
  | ind n ih =>
    intro c hc
    by_cases h : n < 128
    · rw [form_lt h] at hc; simp at hc; omega
    rw [form_ge (by omega)] at hc
    rcases List.mem_cons.1 hc with rfl | hc
    · omega
    exact ih (n / 128) (by omega) c hc
/-- The form's reading from number i on: the number so far, the rest, or an error. -/
def rdU : Nat → Nat → List Int → Nat × List Int × Int
  | _, _, [] => (0, [], 4)
  | i, a, c :: r => if i = 9 ∧ 1 < c then (0, [], 2) else if 128 ≤ c then rdU (i + 1) (a + (c % 128).toNat * 2 ^ (7 * i)) r else if c = 0 ∧ 0 < i then (0, [], 3) else (a + (c % 128).toNat * 2 ^ (7 * i), r, 0)
/-- What is written is read. -/
theorem rdU_form : ∀ (n i a : Nat) (r : List Int), a + n * 2 ^ (7 * i) < 2 ^ 64 → (0 < i → 0 < n) → i ≤ 9 → rdU i a (form n ++ r) = (a + n * 2 ^ (7 * i), r, 0) := by
  intro n
  induction n using Nat.strongRecOn with
  | ind n ih =>
    intro i a r h h0 hi
    have h9 : i = 9 → n ≤ 1 := fun e => by subst e; simp at h; omega
    by_cases hn : n < 128
    · rw [form_lt hn]
      show rdU i a ((n : Int) :: r) = _
      rw [rdU, if_neg (by intro ⟨e, q⟩; have := h9 e; omega), if_neg (by omega), if_neg (by intro ⟨q, e⟩; have := h0 e; omega)]
      have : ((n : Int) % 128).toNat = n := by omega
      rw [this]
    have hi9 : i ≠ 9 := fun e => by have := h9 e; omega
    rw [form_ge (by omega), List.cons_append, rdU, if_neg (by intro ⟨e, _⟩; exact hi9 e), if_pos (by omega)]
    have e1 : (((n % 128 + 128 : Nat) : Int) % 128).toNat = n % 128 := by omega
    have e2 : n % 128 * 2 ^ (7 * i) + n / 128 * 2 ^ (7 * (i + 1)) = n * 2 ^ (7 * i) := by
      rw [show 7 * (i + 1) = 7 + 7 * i by omega, Nat.pow_add, ← Nat.mul_assoc, ← Nat.add_mul]
      congr 1; show n % 128 + n / 128 * 128 = n; omega
    rw [e1, ih (n / 128) (by omega) (i + 1) _ r (by omega) (fun _ => by omega) (by omega), Nat.add_assoc, e2]
/-- What is read was written: the form is the only one. -/
theorem rdU_inv : ∀ (l : List Int) (i a n : Nat) (r : List Int), (∀ c ∈ l, 0 ≤ c ∧ c ≤ 255) → rdU i a l = (n, r, 0) → a < 2 ^ (7 * i) → i ≤ 9 → ∃ m, n = a + m * 2 ^ (7 * i) ∧ l = form m ++ r ∧ (0 < i → 0 < m) ∧ m * 2 ^ (7 * i) < 2 ^ 64
  | [], i, a, n, r, _, h, _, _ => by simp [rdU] at h
  | c :: l, i, a, n, r, hc, h, ha, hi => by
    have hc0 := hc c (List.mem_cons_self ..)
    unfold rdU at h
    split at h
    · simp at h
    rename_i h9
    have hp : (2 : Nat) ^ (7 * i) ≤ 2 ^ 63 := Nat.pow_le_pow_right (by omega) (by omega)
    split at h
    · rename_i h1
      have hi9 : i ≠ 9 := fun e => h9 ⟨e, by omega⟩
      have e7 : (2 : Nat) ^ (7 * (i + 1)) = 128 * 2 ^ (7 * i) := by rw [show 7 * (i + 1) = 7 + 7 * i by omega, Nat.pow_add]
      have hcm : (c % 128).toNat ≤ 127 := by omega
      have hle : (c % 128).toNat * 2 ^ (7 * i) ≤ 127 * 2 ^ (7 * i) := Nat.mul_le_mul_right _ hcm
      obtain ⟨m, m1, m2, m3, m4⟩ := rdU_inv l (i + 1) _ n r (fun x hx => hc x (List.mem_cons_of_mem _ hx)) h (by omega) (by omega)
      have hm := m3 (by omega)
      have hmm : ((c % 128).toNat + m * 128) * 2 ^ (7 * i) = (c % 128).toNat * 2 ^ (7 * i) + m * 2 ^ (7 * (i + 1)) := by
        rw [e7, Nat.add_mul, Nat.mul_assoc]
      refine ⟨(c % 128).toNat + m * 128, by rw [hmm, m1, Nat.add_assoc], ?_, fun _ => by omega, ?_⟩
      · rw [form_ge (by omega), show ((c % 128).toNat + m * 128) / 128 = m by omega, show ((c % 128).toNat + m * 128) % 128 = (c % 128).toNat by omega, List.cons_append, ← m2]
        congr 1; omega
      rw [hmm]
      have hmul : (m + 1) * 2 ^ (7 * (i + 1)) ≤ 2 ^ 64 := by
        rcases Nat.lt_or_ge ((m + 1) * 2 ^ (7 * (i + 1))) (2 ^ 64 + 1) with q | q
        · omega
        exfalso
        have hd : (2 : Nat) ^ 64 = 2 ^ (64 - 7 * (i + 1)) * 2 ^ (7 * (i + 1)) := by rw [← Nat.pow_add]; congr 1; omega
        rw [hd] at m4 q
        have a1 := Nat.lt_of_mul_lt_mul_right m4
        have a2 : 2 ^ (64 - 7 * (i + 1)) < m + 1 := by
          rcases Nat.lt_or_ge (2 ^ (64 - 7 * (i + 1))) (m + 1) with z | z
          · exact z
          have := Nat.mul_le_mul_right (2 ^ (7 * (i + 1))) z; omega
        omega
      rw [Nat.add_mul, Nat.one_mul] at hmul
      omega
    rename_i h1
    split at h
    · simp at h
    rename_i h0
    simp only [Prod.mk.injEq, and_true] at h
    obtain ⟨rfl, rfl⟩ := h
    have hcm : (c % 128).toNat = c.toNat := by omega
    refine ⟨c.toNat, by rw [hcm], ?_, fun h => ?_, ?_⟩
    · rw [form_lt (by omega)]
      show c :: l = _ :: l
      congr 1; omega
    · rcases (by omega : c = 0 ∨ 0 < c) with e | e
      · exact absurd ⟨e, h⟩ h0
      omega
    have e64 : (2 : Nat) ^ 64 = 2 * 2 ^ 63 := by decide
    rcases (by omega : i = 9 ∨ i ≤ 8) with e | e
    · have : c.toNat ≤ 1 := by
        rcases (by omega : c ≤ 1 ∨ 1 < c) with q | q
        · omega
        exact absurd ⟨e, q⟩ h9
      have := Nat.mul_le_mul this hp
      omega
    have hp8 : (2 : Nat) ^ (7 * i) ≤ 2 ^ 56 := Nat.pow_le_pow_right (by omega) (by omega)
    have h127 : c.toNat ≤ 127 := by omega
    have := Nat.mul_le_mul h127 hp8
    have : 127 * (2 : Nat) ^ 56 < 2 ^ 64 := by decide
    omega
theorem rdU_len : ∀ (l : List Int) (i a n : Nat) (r : List Int), rdU i a l = (n, r, 0) → r.length < l.length
  | [], i, a, n, r, h => by simp [rdU] at h
  | c :: l, i, a, n, r, h => by
    unfold rdU at h
    split at h
    · simp at h
    split at h
    · have := rdU_len l _ _ _ _ h; simp; omega
    split at h
    · simp at h
    simp only [Prod.mk.injEq, and_true] at h
    obtain ⟨-, rfl⟩ := h; simp
/-- An integer as a number without sign, and back. -/
def zig (n : Int) : Nat := if 0 ≤ n then 2 * n.toNat else 2 * (-(n + 1)).toNat + 1
def zag (n : Nat) : Int := if n % 2 = 0 then ((n / 2 : Nat) : Int) else -((n / 2 : Nat) : Int) - 1
theorem zag_zig (n : Int) : zag (zig n) = n := by
  unfold zig zag
  split
  · rw [if_pos (by omega)]; omega
  rw [if_neg (by omega)]; omega
theorem zig_bd {n : Int} (h : -9223372036854775808 ≤ n ∧ n ≤ 9223372036854775807) : zig n < 2 ^ 64 := by
  have : (2 : Nat) ^ 64 = 18446744073709551616 := by decide
  unfold zig; split <;> omega
def rdI (l : List Int) : Int × List Int × Int := if (rdU 0 0 l).2.2 = 0 then (zag (rdU 0 0 l).1, (rdU 0 0 l).2.1, 0) else (0, [], (rdU 0 0 l).2.2)
/-- cmp.Compare -/
def cmpI (x y : Int) : Int := if x < y then -1 else if y < x then 1 else 0
/-- By (Y, X). -/
def cfC (a b : Int × Int) : Int := if cmpI a.2 b.2 = 0 then cmpI a.1 b.1 else cmpI a.2 b.2
def cfE (a b : T4) : Int := cfC (a.1, a.2.1) (b.1, b.2.1)
def befP (a b : Int × Int) : Prop := a.2 < b.2 ∨ (a.2 = b.2 ∧ a.1 < b.1)
instance (a b : Int × Int) : Decidable (befP a b) := by unfold befP; infer_instance
/-- An entry's cell. -/
def cel (e : T4) : Int × Int := (e.1, e.2.1)
def befE (a b : T4) : Prop := befP (a.1, a.2.1) (b.1, b.2.1)
instance (a b : T4) : Decidable (befE a b) := by unfold befE; infer_instance
theorem befP_irr {a : Int × Int} : ¬ befP a a := by unfold befP; omega
theorem befP_trans {a b c : Int × Int} (h : befP a b) (k : befP b c) : befP a c := by unfold befP at *; omega
theorem befP_asymm {a b : Int × Int} (h : befP a b) : ¬ befP b a := by unfold befP at *; omega
theorem befP_tri (a b : Int × Int) : befP a b ∨ a = b ∨ befP b a := by
  unfold befP
  rcases Int.lt_trichotomy a.2 b.2 with h | h | h
  · exact .inl (.inl h)
  · rcases Int.lt_trichotomy a.1 b.1 with k | k | k
    · exact .inl (.inr ⟨h, k⟩)
    · exact .inr (.inl (Prod.ext k h))
    exact .inr (.inr (.inr ⟨h.symm, k⟩))
  exact .inr (.inr (.inl h))
theorem cfC_neg (a b : Int × Int) : cfC a b < 0 ↔ befP a b := by
  unfold cfC cmpI befP
  repeat' split
  all_goals omega
theorem cfC_zero (a b : Int × Int) : cfC a b = 0 ↔ a = b := by
  obtain ⟨x, y⟩ := a; obtain ⟨z, w⟩ := b
  rw [Prod.mk.injEq]
  unfold cfC cmpI
  simp only
  repeat' split
  all_goals omega
/-- Lists in order, whose elements are the same, are the same. -/
theorem eq_strict {α : Type} {r : α → α → Prop} (hi : ∀ a, ¬ r a a) (ha : ∀ {a b}, r a b → ¬ r b a) : ∀ {l m : List α}, l.Pairwise r → m.Pairwise r → (∀ x, x ∈ l ↔ x ∈ m) → l = m
  | [], [], _, _, _ => rfl
  | [], b :: m, _, _, h => absurd ((h b).2 (List.mem_cons_self ..)) (by simp)
  | a :: l, [], _, _, h => absurd ((h a).1 (List.mem_cons_self ..)) (by simp)
  | a :: l, b :: m, hl, hm, h => by
    rw [List.pairwise_cons] at hl hm
    have e : a = b := by
      rcases List.mem_cons.1 ((h a).1 (List.mem_cons_self ..)) with e | e
      · exact e
      rcases List.mem_cons.1 ((h b).2 (List.mem_cons_self ..)) with k | k
      · exact k.symm
      exact absurd (hm.1 a e) (ha (hl.1 b k))
    subst e
    rw [eq_strict hi ha hl.2 hm.2 fun x => ⟨fun hx => ?_, fun hx => ?_⟩]
    · rcases List.mem_cons.1 ((h x).1 (List.mem_cons_of_mem _ hx)) with k | k
      · subst k; exact absurd (hl.1 x hx) (hi x)
      exact k
    rcases List.mem_cons.1 ((h x).2 (List.mem_cons_of_mem _ hx)) with k | k
    · subst k; exact absurd (hm.1 x hx) (hi x)
    exact k
theorem wrap_u8 {x : Int} (h1 : 0 ≤ x) (h2 : x ≤ 255) : IntKind.u8.wrap x = x := IntWalk.u8_in _ ⟨h1, h2⟩
theorem wrap_u64 {x : Int} (h1 : 0 ≤ x) (h2 : x ≤ 18446744073709551615) : IntKind.u64.wrap x = x := IntWalk.u64_in _ ⟨h1, h2⟩
/-- At most m in magnitude. -/
def within (x m : Int) : Bool := decide (0 - m ≤ x) && decide (x ≤ m)
theorem within_iff {x m : Int} : within x m = true ↔ -m ≤ x ∧ x ≤ m := by unfold within; simp
/-- The first that is not 0. -/
def orL : List Int → Int
  | [] => 0
  | x :: l => if x = 0 then orL l else x
theorem orL_drop {l : List Int} {j : Nat} (h : j < l.length) : orL (l.drop j) = if gi l j = 0 then orL (l.drop (j + 1)) else gi l j := by
  rw [List.drop_eq_getElem_cons h, show gi l j = l[j] by simp [gi, List.getD_eq_getElem?_getD, h]]; rfl
theorem orL_two (a b : Int) : orL [a, b] = if a = 0 then b else a := by
  simp only [orL]; repeat' split
  all_goals omega
/-- A cell's tile, and its number there. -/
def hom (c : Int × Int) : Int × Int := (c.1 / 16, c.2 / 16)
def numI (c : Int × Int) : Int := (c.2 % 16) * 16 + c.1 % 16
theorem numI_eq (x y : Int) : (y - 16 * (y / 16)) * 16 + x - 16 * (x / 16) = numI (x, y) := by unfold numI; simp only; omega
theorem numI_bd (c : Int × Int) : 0 ≤ numI c ∧ numI c ≤ 255 := by unfold numI; omega
/-- By (Y, X), as numbers. -/
def befB (a b c d : Int) : Bool := decide (b < d) || (b == d && decide (a < c))
theorem befB_iff (a b c d : Int) : befB a b c d = decide (befP (a, b) (c, d)) := by
  rw [Bool.eq_iff_iff, decide_eq_true_eq]; unfold befB befP; simp
theorem splice_tail : ∀ (ys xs : List AV) (o : Nat), o + ys.length = xs.length → splice xs o ys = xs.take o ++ ys
  | [], xs, o, h => by
    rw [splice, List.append_nil, List.take_of_length_le]
    simp at h; omega
  | y :: ys, xs, o, h => by
    rw [splice, splice_tail ys _ _ (by simp at h ⊢; omega)]
    simp only [List.length_cons] at h
    have ho : o < xs.length := by omega
    rw [List.take_succ_eq_append_getElem (by simpa using ho), List.getElem_set_self, List.take_set_of_le (Nat.le_refl _)]
    simp
set_option maxHeartbeats 4000000
set_option maxRecDepth 100000
theorem ints_all {k : IntKind} {l : List Int} : (ints k l).take l.length = ints k l ∧ (ints k l).take (l.length * 1) = ints k l := ⟨List.take_of_length_le (by rw [ints_len]; omega), List.take_of_length_le (by rw [ints_len]; omega)⟩
theorem wrap_u8n (n : Nat) : IntKind.u8.wrap (n : Int) = ((n % 256 : Nat) : Int) := by rw [IntKind.wrap_u8]; omega
theorem u8_or128 (n : Nat) : (BitVec.ofInt IntKind.u8.bits ((n % 256 : Nat) : Int) ||| BitVec.ofInt IntKind.u8.bits 128).toNat % 256 = n % 128 + 128 := by
  have k : ∀ m : Fin 256, (BitVec.ofInt 8 (m.val : Int) ||| BitVec.ofInt 8 128).toNat % 256 = m.val % 128 + 128 := by decide
  have := k ⟨n % 256, Nat.mod_lt _ (by omega)⟩
  simp only at this
  exact this.trans (by omega)
theorem shr_7 (n : Nat) : Int.fdiv (n : Int) (2 ^ (min 7 IntKind.u64.bits)) = ((n / 128 : Nat) : Int) := by
  show Int.fdiv (n : Int) 128 = _
  rw [Int.fdiv_eq_ediv_of_nonneg _ (by omega)]; rfl
theorem wuint_c (H : AHeap) (n : Nat) (hn : n < 18446744073709551616) : ACalls Try.prog 52 [.int .u64 ((n : Nat) : Int)] H (fun v H' => v = .sl (some (H.length, 0)) ((form n).length) none ∧ H' = H ++ [.cells true 1 (ints .u8 (form n))]) := by
  refine AcT true Try.func52 ?_; intro hbel Q hQ
  have g'1 := (jn @wrap_u8n (jn @u8_or128 @shr_7))
  refine runTf g'1 ?_
  refine glp (fun k F Hx => ∃ m : Nat, ∃ out : List Int, k = m ∧ out ++ form m = form n ∧ m < 18446744073709551616 ∧ F = [(0, .int .u64 ((m : Nat) : Int)), (3, .sl (some (H.length, 0)) out.length (capG out.length))] ∧ Hx = H ++ [.cells (ownG out.length) 1 (ints .u8 out)]) (n) ?_ ?_
  · refine ⟨_, _, _, ⟨n, [], by omega, rfl, hn, rfl, rfl⟩, Abs.byE hbel [.cells false 1 []] rfl [0] (by decide) ?_⟩
    exact absR
  rintro k0 F Hx ⟨m, out, hm0, hfo, hml, rfl, rfl⟩ J0 hJ0
  have hol : out.length ≤ 10 := by
    have h1 := congrArg List.length hfo
    rw [List.length_append] at h1
    have := form_len 9 n (by omega)
    omega
  have g'2 := (jn @ints_len (jn @ints_ones g'1))
  refine rcs g'2 (fun h1 h1d _ => ?_) (fun h1 h1d _ => ?_)
  · have g'3 := (jn h1 (jn h1d (jn @prs_len (jn @capG_s g'2))))
    refine runTf g'3 ?_
    refine hJ0 _ _ ⟨m / 128, by omega, _, _, _, ⟨m / 128, out ++ [((m % 128 + 128 : Nat) : Int)], by omega, by rw [← hfo, form_ge (n := m) (by omega), List.append_assoc]; rfl, by omega, rfl, rfl⟩, bS hbel [2] absR⟩
  have hfin : out ++ [((m % 256 : Nat) : Int)] = form n := by rw [← hfo, form_lt (n := m) (by omega), Nat.mod_eq_of_lt (by omega : m < 256)]
  have g'4 := (jn h1 (jn h1d (jn @prs_len (jn @capG_s g'2))))
  refine runTf g'4 ?_
  refine hQ _ _ (end_byG (.inl rfl) hbel (x1 := .sl (some (H.length + 2, 0)) ((out ++ [((m % 256 : Nat) : Int)]).length) none) (l2 := [.cells true 1 (ints .u8 (out ++ [((m % 256 : Nat) : Int)]))]) (.sl (some (H.length, 0)) ((out ++ [((m % 256 : Nat) : Int)]).length) none) (resTf (jn @List.length_append.{0} (jn @List.length_cons.{0} @List.length_nil.{0})) Try.results52) [] rfl [2] (by decide) ⟨by rw [hfin], by rw [hfin]⟩ ?_)
  exact absWf (jn @ints_app (jn @ints_cons @ints_nil))
theorem zig_lt {n : Int} (h : -1152921504606846976 ≤ n ∧ n ≤ 1152921504606846976) : zig n < 18446744073709551616 := by
  unfold zig; split <;> omega
theorem zig_xor {n : Int} (h : -1152921504606846976 ≤ n ∧ n ≤ 1152921504606846976) : IntKind.u64.wrap (((BitVec.ofInt IntKind.u64.bits (IntKind.u64.wrap (IntKind.u64.wrap n * 2 ^ min 1 IntKind.u64.bits)) ^^^ BitVec.ofInt IntKind.u64.bits (IntKind.u64.wrap (n.fdiv (2 ^ min 63 IntKind.i64.bits)))).toNat : Nat) : Int) = ((zig n : Nat) : Int) := by
  have e2 : (2 : Int) ^ min 1 IntKind.u64.bits = 2 := rfl
  have e63 : (2 : Int) ^ min 63 IntKind.i64.bits = 9223372036854775808 := rfl
  have eb : IntKind.u64.bits = 64 := rfl
  have w (x : Int) : IntKind.u64.wrap x = x % 18446744073709551616 := by rw [IntKind.wrap_u64]
  have hd : n.fdiv 9223372036854775808 = if 0 ≤ n then 0 else -1 := by
    rw [Int.fdiv_eq_ediv_of_nonneg _ (by omega)]; split <;> omega
  rw [e2, e63, eb, hd, BitVec.toNat_xor, BitVec.toNat_ofInt, BitVec.toNat_ofInt]
  simp only [w]
  have p64 : ((2 ^ 64 : Nat) : Int) = 18446744073709551616 := by decide
  rw [p64]
  by_cases h0 : 0 ≤ n
  · rw [if_pos h0]
    have e1 : (0 % 18446744073709551616 % 18446744073709551616 : Int).toNat = 0 := rfl
    rw [e1, Nat.xor_zero]
    unfold zig
    rw [if_pos h0]
    omega
  rw [if_neg h0]
  have e1 : (-1 % 18446744073709551616 % 18446744073709551616 : Int).toNat = (BitVec.allOnes 64).toNat := by decide
  obtain ⟨m, hm, hlt⟩ : ∃ m : Nat, (n % 18446744073709551616 * 2 % 18446744073709551616 % 18446744073709551616).toNat = m ∧ m < 2 ^ 64 := ⟨_, rfl, by omega⟩
  have em : (BitVec.ofNat 64 m).toNat = m := by rw [BitVec.toNat_ofNat]; exact Nat.mod_eq_of_lt hlt
  have ex : (m ^^^ (BitVec.allOnes 64).toNat) = 2 ^ 64 - 1 - m := by
    have := congrArg BitVec.toNat (BitVec.xor_allOnes (x := BitVec.ofNat 64 m))
    rw [BitVec.toNat_xor, BitVec.toNat_not, em] at this
    exact this
  rw [e1, hm, ex]
  have hm2 : (m : Int) = 2 * n + 18446744073709551616 := by omega
  unfold zig
  rw [if_neg h0]
  have : (2 : Nat) ^ 64 = 18446744073709551616 := by decide
  omega
theorem wint_c (H : AHeap) (n : Int) (hn : -1152921504606846976 ≤ n ∧ n ≤ 1152921504606846976) : ACalls Try.prog 53 [iV n] H (fun v H' => v = .sl (some (H.length, 0)) ((form (zig n)).length) none ∧ H' = H ++ [.cells true 1 (ints .u8 (form (zig n)))]) := by
  have hzb := zig_lt hn
  have hz := zig_xor hn
  refine AcT true Try.func53 ?_; intro hbel Q hQ
  have g'1 := @hz
  refine runTf g'1 ?_
  refine cvr g'1 (wuint_c _ (zig n) (by first | omega | exact hzb)) ?_
  refine hQ _ _ (end_byG (.inl rfl) hbel (x1 := .sl (some (H.length, 0)) ((form (zig n)).length) none) (l2 := [.cells true 1 (ints .u8 (form (zig n)))]) (.sl (some (H.length, 0)) ((form (zig n)).length) none) (resT Try.results53) [] rfl [0] (by decide) ⟨rfl, rfl⟩ ?_)
  exact absW
set_option maxRecDepth 100000 in
theorem clone_v (H : AHeap) (b : Nat) {o : Bool} {cp : Option Nat} (l : List Int) (hb : H[b]? = some (.cells o 1 (ints .u8 l))) (k : Nat) (hk : 0 < k) (hkl : k ≤ l.length) (hl : l.length ≤ 1000000000) : ACalls Try.prog 75 [.sl (some (b, k)) (l.length - k) cp] H (fun v H' => v = .sl (some (H.length, 0)) (List.drop k l).length (capG (List.drop k l).length) ∧ H' = H ++ [.cells (ownG (List.drop k l).length) 1 (ints .u8 (List.drop k l))]) := by
  have hbl := getElem?_lt hb
  have hb0 := fun l => get_app (l := l) hb
  generalize hm : l.length - k = m at *
  have hd : (List.drop k l).length = m := by rw [List.length_drop]; exact hm
  rw [hd]
  have hko : (k != 0) = true := bne_iff_ne.2 (by omega)
  have htk : List.take m (List.drop k (ints .u8 l)) = ints .u8 (List.drop k l) := by
    rw [show List.drop k (ints .u8 l) = ints .u8 (List.drop k l) by simp [ints]]
    exact List.take_of_length_le (by rw [ints_len, hd]; exact Nat.le_refl _)
  refine AcT true Try.func75 ?_; intro hbel Q hQ
  rcases Nat.eq_zero_or_pos m with h0 | h0
  · have he : List.drop k l = [] := List.eq_nil_of_length_eq_zero (by omega)
    subst h0
    simp -implicitDefEqProofs (disch := omega) only [hb, hb0, Option.isNone_some, htk, nilKnown, hko, simprocAttr, amset, tyset, Function.comp_apply, one1, lenV, calleeOf, lateOk, belowV, aop, AV.ofValue, AV.ofCell, AV.cells, AV.flat, AV.one, arep, aBin, aAppend, aConv]
    repeat refine And.intro (by omega) ?_
    refine hQ _ _ (end_byG (.inl rfl) hbel (x1 := .sl (some (H.length, 0)) 0 (some 0)) (l2 := [.cells false 1 []]) (.sl (some (H.length, 0)) 0 (some 0)) (resT Try.results75) [] rfl [0] (by decide) ⟨rfl, by rw [he]; rfl⟩ ?_)
    exact absTf (jn @W_nil0 (jn @W_nil1 @W_cap'))
  have hm0 : (m == 0) = false := beq_eq_false_iff_ne.2 (by omega)
  have hm1 : (m != 0) = true := bne_iff_ne.2 (by omega)
  simp -implicitDefEqProofs (disch := omega) only [hb, hb0, Option.isNone_some, hm0, h0, htk, nilKnown, hm1, simprocAttr, amset, tyset, Function.comp_apply, one1, lenV, calleeOf, lateOk, belowV, aop, AV.ofValue, AV.ofCell, AV.cells, AV.flat, AV.one, arep, aBin, aAppend, aConv]
  repeat refine And.intro (by omega) ?_
  refine hQ _ _ (end_by (.inl rfl) hbel (x1 := .sl (some (H.length + 1, 0)) m none) (.sl (some (H.length, 0)) m none) (resT Try.results75) [1] (by decide) ⟨by rw [capG_p h0], by rw [ownG_p h0]⟩ ?_)
  exact absT
theorem drop_gi {l : List Int} {i : Nat} (h : i < l.length) : List.drop i l = gi l i :: List.drop (i + 1) l := by
  rw [show gi l i = l[i] by simp [gi, List.getD_eq_getElem?_getD, h]]; exact List.drop_eq_getElem_cons h
theorem rd_ops {c : Int} {i acc : Nat} (hc : 0 ≤ c ∧ c ≤ 255) (hi : i ≤ 9) (h9 : ¬ (i = 9 ∧ 1 < c)) (ha : acc < 2 ^ (7 * i)) :
    IntKind.u8.wrap (((BitVec.ofInt IntKind.u8.bits c &&& ~~~BitVec.ofInt IntKind.u8.bits 128).toNat : Nat) : Int) = (((c % 128).toNat : Nat) : Int) ∧
    IntKind.u64.wrap (((c % 128).toNat : Nat) : Int) = (((c % 128).toNat : Nat) : Int) ∧
    IntKind.u64.wrap ((((c % 128).toNat : Nat) : Int) * 2 ^ min (7 * (i : Int)).toNat IntKind.u64.bits) = (((c % 128).toNat * 2 ^ (7 * i) : Nat) : Int) ∧
    IntKind.u64.wrap (((BitVec.ofInt IntKind.u64.bits ((acc : Nat) : Int) ||| BitVec.ofInt IntKind.u64.bits (((c % 128).toNat * 2 ^ (7 * i) : Nat) : Int)).toNat : Nat) : Int) = ((acc + (c % 128).toNat * 2 ^ (7 * i) : Nat) : Int) ∧ acc + (c % 128).toNat * 2 ^ (7 * i) < 2 ^ (7 * (i + 1)) := by
  obtain ⟨x, hx⟩ : ∃ x, x = (c % 128).toNat := ⟨_, rfl⟩
  have hx1 : x ≤ 127 := by omega
  have e7 : (2 : Nat) ^ (7 * (i + 1)) = 128 * 2 ^ (7 * i) := by rw [show 7 * (i + 1) = 7 + 7 * i by omega, Nat.pow_add]
  have hle : x * 2 ^ (7 * i) ≤ 127 * 2 ^ (7 * i) := Nat.mul_le_mul_right _ hx1
  have hb : acc + x * 2 ^ (7 * i) < 2 ^ 64 := by
    have hp : (2 : Nat) ^ (7 * i) ≤ 2 ^ 63 := Nat.pow_le_pow_right (by omega) (by omega)
    rcases (by omega : i = 9 ∨ i ≤ 8) with e | e
    · have h1 : x ≤ 1 := by omega
      have := Nat.mul_le_mul h1 hp
      have e64 : (2 : Nat) ^ 64 = 2 * 2 ^ 63 := by decide
      omega
    have hp8 : (2 : Nat) ^ (7 * i) ≤ 2 ^ 56 := Nat.pow_le_pow_right (by omega) (by omega)
    have e64 : (2 : Nat) ^ 64 = 256 * 2 ^ 56 := by decide
    omega
  have e64 : (2 : Nat) ^ 64 = 18446744073709551616 := by decide
  rw [← hx]
  refine ⟨?_, wrap_u64 (by omega) (by omega), ?_, ?_, by rw [e7]; omega⟩
  · have k : ∀ m : Fin 256, (BitVec.ofInt 8 (m.val : Int) &&& ~~~BitVec.ofInt 8 128).toNat = m.val % 128 := by decide
    have := k ⟨c.toNat, by omega⟩
    simp only at this
    rw [show ((c.toNat : Nat) : Int) = c by omega] at this
    show IntKind.u8.wrap (((BitVec.ofInt 8 c &&& ~~~BitVec.ofInt 8 128).toNat : Nat) : Int) = _
    rw [this, wrap_u8 (by omega) (by omega)]
    omega
  · have em : min (7 * (i : Int)).toNat IntKind.u64.bits = 7 * i := by show min _ 64 = _; omega
    rw [em]
    have ec : ((x * 2 ^ (7 * i) : Nat) : Int) = (x : Int) * 2 ^ (7 * i) := by rw [Int.natCast_mul, Int.natCast_pow]; rfl
    rw [← ec]
    exact wrap_u64 (by omega) (by omega)
  have hor : (BitVec.ofInt IntKind.u64.bits ((acc : Nat) : Int) ||| BitVec.ofInt IntKind.u64.bits ((x * 2 ^ (7 * i) : Nat) : Int)).toNat = acc + x * 2 ^ (7 * i) := by
    show (BitVec.ofInt 64 ((acc : Nat) : Int) ||| BitVec.ofInt 64 ((x * 2 ^ (7 * i) : Nat) : Int)).toNat = _
    rw [BitVec.toNat_or, BitVec.toNat_ofInt, BitVec.toNat_ofInt]
    have p64 : ((2 ^ 64 : Nat) : Int) = 18446744073709551616 := by decide
    rw [p64, show (((acc : Nat) : Int) % 18446744073709551616).toNat = acc by omega, show (((x * 2 ^ (7 * i) : Nat) : Int) % 18446744073709551616).toNat = x * 2 ^ (7 * i) by omega]
    have := Nat.shiftLeft_add_eq_or_of_lt ha x
    rw [Nat.shiftLeft_eq] at this
    rw [Nat.or_comm, ← this]; omega
  rw [hor]
  exact wrap_u64 (by omega) (by omega)
theorem rduint_c (H : AHeap) (s : AV) (l : List Int) (hs : Sl H 1 s l.length (ints .u8 l)) (hB : ∀ c ∈ l, 0 ≤ c ∧ c ≤ 255) (hl : l.length ≤ 1000000000) : ACalls Try.prog 59 [s] H (fun v H' => v = .tup [.int .u64 (((rdU 0 0 l).1 : Nat) : Int), .sl (some (H.length, 0)) (((rdU 0 0 l).2.1).length) (capG ((rdU 0 0 l).2.1).length), iV ((rdU 0 0 l).2.2)] ∧ H' = H ++ [.cells (ownG ((rdU 0 0 l).2.1).length) 1 (ints .u8 ((rdU 0 0 l).2.1))]) := by
  obtain ⟨bs, os, cs, rfl, hbs⟩ := hs
  have hbls := getElem?_lt hbs
  have hb0s := fun l => get_app (l := l) hbs
  refine AcT true Try.func59 ?_; intro hbel Q hQ
  have g'1 := (jn @hbs @hb0s)
  refine runTf g'1 ?_
  refine glp (fun k F Hx => ∃ i : Nat, ∃ acc : Nat, i + k = l.length ∧ rdU 0 0 l = rdU i acc (List.drop i l) ∧ acc < 2 ^ (7 * i) ∧ i ≤ 9 ∧ F = [(0, .sl (some (bs, 0)) l.length cs), (5, .int .u64 ((acc : Nat) : Int)), (8, .sl (some (bs, 0)) l.length cs), (9, iV ((l.length : Nat) : Int)), (10, iV ((i : Nat) : Int))] ∧ H = Hx) (l.length) ?_ ?_
  · refine ⟨_, _, _, ⟨0, 0, by omega, rfl, (by decide), (by decide), rfl, rfl⟩, Abs.by0 hbel ?_⟩
    exact absW
  rintro k0 F Hx ⟨i, acc, hm0, hrd, hac, hi9, rfl, rfl⟩ J0 hJ0
  refine rcs g'1 (fun h1 h1d _ => ?_) (fun h1 h1d g'18 => ?_)
  · have hlt : i < l.length := by omega
    have hgb := hB _ (gi_mem hlt)
    have hrs := hrd.trans (congrArg (rdU i acc) (drop_gi hlt))
    have hsfn : (((i : Nat) : Int) + 1).toNat = i + 1 := by omega
    have q2 := ints_get (k := .u8) (xs := l) (j := i) (by omega)
    have g'2 := (jn h1 (jn h1d (jn @hsfn (jn q2 g'1))))
    refine rgs g'2 (fun h3 h3d _ => ?_) (fun h3 h3d _ => ?_)
    · have h3n := bnT h3
      have g'3 := (jn h3 (jn h3n (jn @int_bne (jn @int_beq g'2))))
      refine rcs g'3 (fun h4 h4d g'4 => ?_) (fun h4 h4d _ => ?_)
      · have hfin : rdU 0 0 l = (0, [], 2) := by rw [hrs, rdU, if_pos ⟨by omega, by omega⟩]
        refine runTf g'4 ?_
        refine hQ _ _ (end_byE (.inl rfl) hbel (x1 := .tup [.int .u64 0, .sl none 0 (some 0), iV 2]) (l2 := [.cells false 1 []]) (.tup [.int .u64 0, .sl (some (H.length, 0)) 0 (some 0), iV 2]) (resT Try.results59) [.cells false 1 []] rfl [0] (by decide) ⟨by first | (rw [hfin]; done) | (rw [hfin]; rfl), by first | (rw [hfin]; done) | (rw [hfin]; rfl)⟩ ?_)
        exact absW
      have hrq := rd_ops (c := gi l i) (i := i) (acc := acc) hgb hi9 (by omega) hac
      have hsfa := hrq.1
      have hsfb := hrq.2.1
      have hsfc := hrq.2.2.1
      have hsfd := hrq.2.2.2.1
      have g'5 := (jn h4 (jn h4d (jn @hsfa (jn @hsfb (j2 hsfc hsfd g'3)))))
      refine rcs g'5 (fun h5 h5d g'6 => ?_) (fun h5 h5d g'7 => ?_)
      · have hrd2 : rdU 0 0 l = rdU (i + 1) (acc + (gi l i % 128).toNat * 2 ^ (7 * i)) (List.drop (i + 1) l) := by rw [hrs, rdU, if_neg (by omega), if_pos (by omega)]
        refine runTf g'6 ?_
        refine hJ0 _ _ ⟨k0 - 1, by omega, _, _, _, ⟨i + 1, (acc + (gi l i % 128).toNat * 2 ^ (7 * i)), by omega, hrd2, hrq.2.2.2.2, by omega, rfl, rfl⟩, Abs.by0 hbel ?_⟩
        exact absW
      refine rgs g'7 (fun h6 h6d _ => ?_) (fun h6 h6d _ => ?_)
      · have h6n := bnT h6
        have g'8 := j2 h6 h6n g'7
        refine rcs g'8 (fun h7 h7d g'9 => ?_) (fun h7 h7d _ => ?_)
        · have hfin : rdU 0 0 l = (0, [], 3) := by rw [hrs, rdU, if_neg (by omega), if_neg (by omega), if_pos ⟨by omega, by omega⟩]
          refine runTf g'9 ?_
          refine hQ _ _ (end_byE (.inl rfl) hbel (x1 := .tup [.int .u64 0, .sl none 0 (some 0), iV 3]) (l2 := [.cells false 1 []]) (.tup [.int .u64 0, .sl (some (H.length, 0)) 0 (some 0), iV 3]) (resT Try.results59) [.cells false 1 []] rfl [0] (by decide) ⟨by first | (rw [hfin]; done) | (rw [hfin]; rfl), by first | (rw [hfin]; done) | (rw [hfin]; rfl)⟩ ?_)
          exact absW
        omega
      have h6n := bnT h6
      have hfin : rdU 0 0 l = ((acc + (gi l i % 128).toNat * 2 ^ (7 * i)), List.drop (i + 1) l, 0) := by rw [hrs, rdU, if_neg (by omega), if_neg (by omega), if_neg (by omega)]
      have g'10 := j2 h6 h6n g'7
      refine runTf g'10 ?_
      refine cvr g'10 (clone_v _ _ l (by first | exact hb0s _ | exact hbs) (i + 1) (by omega) (by omega) (by omega)) ?_
      refine hQ _ _ (end_byG (.inl rfl) hbel (x1 := .tup [.int .u64 (((acc + (gi l i % 128).toNat * 2 ^ (7 * i)) : Nat) : Int), .sl (some (H.length, 0)) ((List.drop (i + 1) l).length) (capG (List.drop (i + 1) l).length), iV 0]) (l2 := [.cells (ownG (List.drop (i + 1) l).length) 1 (ints .u8 (List.drop (i + 1) l))]) (.tup [.int .u64 (((acc + (gi l i % 128).toNat * 2 ^ (7 * i)) : Nat) : Int), .sl (some (H.length, 0)) ((List.drop (i + 1) l).length) (capG (List.drop (i + 1) l).length), iV 0]) (resT Try.results59) [] rfl [0] (by decide) ⟨by first | (rw [hfin]; done) | (rw [hfin]; rfl), by first | (rw [hfin]; done) | (rw [hfin]; rfl)⟩ ?_)
      exact absW
    have h3n := bnT h3
    have hrq := rd_ops (c := gi l i) (i := i) (acc := acc) hgb hi9 (by omega) hac
    have hsfa := hrq.1
    have hsfb := hrq.2.1
    have hsfc := hrq.2.2.1
    have hsfd := hrq.2.2.2.1
    have g'11 := (jn h3 (jn h3n (jn @int_bne (jn @int_beq (jn @hsfa (jn @hsfb (j2 hsfc hsfd g'2)))))))
    refine rcs g'11 (fun h8 h8d g'12 => ?_) (fun h8 h8d g'13 => ?_)
    · have hrd2 : rdU 0 0 l = rdU (i + 1) (acc + (gi l i % 128).toNat * 2 ^ (7 * i)) (List.drop (i + 1) l) := by rw [hrs, rdU, if_neg (by omega), if_pos (by omega)]
      refine runTf g'12 ?_
      refine hJ0 _ _ ⟨k0 - 1, by omega, _, _, _, ⟨i + 1, (acc + (gi l i % 128).toNat * 2 ^ (7 * i)), by omega, hrd2, hrq.2.2.2.2, by omega, rfl, rfl⟩, Abs.by0 hbel ?_⟩
      exact absW
    refine rgs g'13 (fun h9 h9d _ => ?_) (fun h9 h9d _ => ?_)
    · have h9n := bnT h9
      have g'14 := j2 h9 h9n g'13
      refine rcs g'14 (fun h10 h10d g'15 => ?_) (fun h10 h10d g'16 => ?_)
      · have hfin : rdU 0 0 l = (0, [], 3) := by rw [hrs, rdU, if_neg (by omega), if_neg (by omega), if_pos ⟨by omega, by omega⟩]
        refine runTf g'15 ?_
        refine hQ _ _ (end_byE (.inl rfl) hbel (x1 := .tup [.int .u64 0, .sl none 0 (some 0), iV 3]) (l2 := [.cells false 1 []]) (.tup [.int .u64 0, .sl (some (H.length, 0)) 0 (some 0), iV 3]) (resT Try.results59) [.cells false 1 []] rfl [0] (by decide) ⟨by first | (rw [hfin]; done) | (rw [hfin]; rfl), by first | (rw [hfin]; done) | (rw [hfin]; rfl)⟩ ?_)
        exact absW
      have hfin : rdU 0 0 l = ((acc + (gi l i % 128).toNat * 2 ^ (7 * i)), List.drop (i + 1) l, 0) := by rw [hrs, rdU, if_neg (by omega), if_neg (by omega), if_neg (by omega)]
      refine runTf g'16 ?_
      refine cvr g'16 (clone_v _ _ l (by first | exact hb0s _ | exact hbs) (i + 1) (by omega) (by omega) (by omega)) ?_
      refine hQ _ _ (end_byG (.inl rfl) hbel (x1 := .tup [.int .u64 (((acc + (gi l i % 128).toNat * 2 ^ (7 * i)) : Nat) : Int), .sl (some (H.length, 0)) ((List.drop (i + 1) l).length) (capG (List.drop (i + 1) l).length), iV 0]) (l2 := [.cells (ownG (List.drop (i + 1) l).length) 1 (ints .u8 (List.drop (i + 1) l))]) (.tup [.int .u64 (((acc + (gi l i % 128).toNat * 2 ^ (7 * i)) : Nat) : Int), .sl (some (H.length, 0)) ((List.drop (i + 1) l).length) (capG (List.drop (i + 1) l).length), iV 0]) (resT Try.results59) [] rfl [0] (by decide) ⟨by first | (rw [hfin]; done) | (rw [hfin]; rfl), by first | (rw [hfin]; done) | (rw [hfin]; rfl)⟩ ?_)
      exact absW
    have h9n := bnT h9
    have hfin : rdU 0 0 l = ((acc + (gi l i % 128).toNat * 2 ^ (7 * i)), List.drop (i + 1) l, 0) := by rw [hrs, rdU, if_neg (by omega), if_neg (by omega), if_neg (by omega)]
    have g'17 := j2 h9 h9n g'13
    refine runTf g'17 ?_
    refine cvr g'17 (clone_v _ _ l (by first | exact hb0s _ | exact hbs) (i + 1) (by omega) (by omega) (by omega)) ?_
    refine hQ _ _ (end_byG (.inl rfl) hbel (x1 := .tup [.int .u64 (((acc + (gi l i % 128).toNat * 2 ^ (7 * i)) : Nat) : Int), .sl (some (H.length, 0)) ((List.drop (i + 1) l).length) (capG (List.drop (i + 1) l).length), iV 0]) (l2 := [.cells (ownG (List.drop (i + 1) l).length) 1 (ints .u8 (List.drop (i + 1) l))]) (.tup [.int .u64 (((acc + (gi l i % 128).toNat * 2 ^ (7 * i)) : Nat) : Int), .sl (some (H.length, 0)) ((List.drop (i + 1) l).length) (capG (List.drop (i + 1) l).length), iV 0]) (resT Try.results59) [] rfl [0] (by decide) ⟨by first | (rw [hfin]; done) | (rw [hfin]; rfl), by first | (rw [hfin]; done) | (rw [hfin]; rfl)⟩ ?_)
    exact absW
  have hfin : rdU 0 0 l = (0, [], 4) := by rw [hrd, List.drop_of_length_le (by omega)]; rfl
  refine runTf g'18 ?_
  refine hQ _ _ (end_byE (.inl rfl) hbel (x1 := .tup [.int .u64 0, .sl none 0 (some 0), iV 4]) (l2 := [.cells false 1 []]) (.tup [.int .u64 0, .sl (some (H.length, 0)) 0 (some 0), iV 4]) (resT Try.results59) [.cells false 1 []] rfl [0] (by decide) ⟨by first | (rw [hfin]; done) | (rw [hfin]; rfl), by first | (rw [hfin]; done) | (rw [hfin]; rfl)⟩ ?_)
  exact absW
theorem rdU_lt {l : List Int} (hB : ∀ c ∈ l, 0 ≤ c ∧ c ≤ 255) (h : (rdU 0 0 l).2.2 = 0) : (rdU 0 0 l).1 < 18446744073709551616 := by
  obtain ⟨m, m1, -, -, m4⟩ := rdU_inv l 0 0 (rdU 0 0 l).1 (rdU 0 0 l).2.1 hB (by rw [← h]) (by decide) (by decide)
  have e64 : (2 : Nat) ^ 64 = 18446744073709551616 := by decide
  omega
theorem ri_ops {n : Nat} (hn : n < 18446744073709551616) :
    IntKind.i64.wrap (((BitVec.ofInt IntKind.i64.bits (IntKind.i64.wrap ((n : Int).fdiv (2 ^ min 1 IntKind.u64.bits))) ^^^ BitVec.ofInt IntKind.i64.bits (IntKind.i64.wrap (0 - IntKind.i64.wrap (IntKind.u64.wrap (((BitVec.ofInt IntKind.u64.bits (n : Int) &&& BitVec.ofInt IntKind.u64.bits 1).toNat : Nat) : Int))))).toNat : Nat) : Int) = zag n := by
  have e2 : (2 : Int) ^ min 1 IntKind.u64.bits = 2 := rfl
  have eb : IntKind.u64.bits = 64 := rfl
  have eb2 : IntKind.i64.bits = 64 := rfl
  have p64 : ((2 ^ 64 : Nat) : Int) = 18446744073709551616 := by decide
  have h1 : (n : Int).fdiv 2 = ((n / 2 : Nat) : Int) := by rw [Int.fdiv_eq_ediv_of_nonneg _ (by omega)]; rfl
  have h2 : (BitVec.ofInt 64 (n : Int) &&& BitVec.ofInt 64 1).toNat = n % 2 := by
    rw [BitVec.toNat_and, BitVec.toNat_ofInt, BitVec.toNat_ofInt, p64]
    have a1 : ((n : Int) % 18446744073709551616).toNat = n := by omega
    have a2 : ((1 : Int) % 18446744073709551616).toNat = 2 ^ 1 - 1 := by decide
    rw [a1, a2, Nat.and_two_pow_sub_one_eq_mod]
  rw [e2, eb, eb2, h1, h2, wrap_u64 (by omega) (by omega), wrap_in (x := ((n % 2 : Nat) : Int)) (by omega) (by omega), wrap_in (x := ((n / 2 : Nat) : Int)) (by omega) (by omega), wrap_in (x := 0 - ((n % 2 : Nat) : Int)) (by omega) (by omega), BitVec.toNat_xor, BitVec.toNat_ofInt, BitVec.toNat_ofInt, p64]
  have a3 : (((n / 2 : Nat) : Int) % 18446744073709551616).toNat = n / 2 := by omega
  rw [a3]
  unfold zag
  rcases (by omega : n % 2 = 0 ∨ n % 2 = 1) with h | h
  · rw [if_pos h, h]
    have : ((0 - ((0 : Nat) : Int)) % 18446744073709551616).toNat = 0 := rfl
    rw [this, Nat.xor_zero]
    exact wrap_in (by omega) (by omega)
  rw [if_neg (by omega), h]
  have e1 : ((0 - ((1 : Nat) : Int)) % 18446744073709551616).toNat = (BitVec.allOnes 64).toNat := by decide
  have em : (BitVec.ofNat 64 (n / 2)).toNat = n / 2 := by rw [BitVec.toNat_ofNat]; exact Nat.mod_eq_of_lt (by omega)
  have ex : (n / 2) ^^^ (BitVec.allOnes 64).toNat = 2 ^ 64 - 1 - n / 2 := by
    have := congrArg BitVec.toNat (BitVec.xor_allOnes (x := BitVec.ofNat 64 (n / 2)))
    rw [BitVec.toNat_xor, BitVec.toNat_not, em] at this
    exact this
  rw [e1, ex, IntKind.wrap_i64]
  have : (2 : Nat) ^ 64 = 18446744073709551616 := by decide
  omega
theorem rdint_c (H : AHeap) (s : AV) (l : List Int) (hs : Sl H 1 s l.length (ints .u8 l)) (hB : ∀ c ∈ l, 0 ≤ c ∧ c ≤ 255) (hl : l.length ≤ 1000000000) : ACalls Try.prog 60 [s] H (fun v H' => v = .tup [iV ((rdI l).1), .sl (some (H.length, 0)) (((rdI l).2.1).length) (capG ((rdI l).2.1).length), iV ((rdI l).2.2)] ∧ H' = H ++ [.cells (ownG ((rdI l).2.1).length) 1 (ints .u8 ((rdI l).2.1))]) := by
  obtain ⟨bs, os, cs, rfl, hbs⟩ := hs
  have hbls := getElem?_lt hbs
  have hb0s := fun l => get_app (l := l) hbs
  refine AcT true Try.func60 ?_; intro hbel Q hQ
  have g'1 := (jn @hbs @hb0s)
  refine runTf g'1 ?_
  refine cv (rduint_c _ _ l (⟨_, _, _, rfl, by first | exact hb0s _ | exact hbs⟩) (by first | assumption | exact hB) (by omega)) ?_
  refine rcs g'1 (fun h1 h1d _ => ?_) (fun h1 h1d _ => ?_)
  · have h1n := bnT h1
    have hfin : rdI l = (0, [], (rdU 0 0 l).2.2) := by unfold rdI; rw [if_neg h1d]
    have g'2 := (jn h1 (jn h1n (jn @int_bne (jn @int_beq g'1))))
    refine runTf g'2 ?_
    refine hQ _ _ (end_byG (.inl rfl) hbel (x1 := .tup [iV 0, .sl none 0 (some 0), iV ((rdU 0 0 l).2.2)]) (l2 := [.cells false 1 []]) (.tup [iV 0, .sl (some (H.length, 0)) 0 (some 0), iV ((rdU 0 0 l).2.2)]) (resT Try.results60) [.cells false 1 []] rfl [1] (by decide) ⟨by first | (rw [hfin]; done) | (rw [hfin]; rfl), by first | (rw [hfin]; done) | (rw [hfin]; rfl)⟩ ?_)
    exact absW
  have h1n := bnT h1
  have hro := ri_ops (rdU_lt hB h1d)
  have hsfo := hro
  have hfin : rdI l = (zag (rdU 0 0 l).1, (rdU 0 0 l).2.1, 0) := by unfold rdI; rw [if_pos h1d]
  have g'3 := (jn h1 (jn h1n (jn @int_bne (jn @int_beq (jn @hsfo g'1)))))
  refine runTf g'3 ?_
  refine hQ _ _ (end_byG (.inl rfl) hbel (x1 := .tup [iV (zag (rdU 0 0 l).1), .sl (some (H.length, 0)) (((rdU 0 0 l).2.1).length) (capG ((rdU 0 0 l).2.1).length), iV 0]) (l2 := [.cells (ownG ((rdU 0 0 l).2.1).length) 1 (ints .u8 ((rdU 0 0 l).2.1))]) (.tup [iV (zag (rdU 0 0 l).1), .sl (some (H.length, 0)) (((rdU 0 0 l).2.1).length) (capG ((rdU 0 0 l).2.1).length), iV 0]) (resT Try.results60) [] rfl [0] (by decide) ⟨by first | (rw [hfin]; done) | (rw [hfin]; rfl), by first | (rw [hfin]; done) | (rw [hfin]; rfl)⟩ ?_)
  exact absW
def gdB (x y h p : Int) : Bool := (within h 1099511627776 && within p 1099511627776) && ((h != 0 || p != 0) && (within x 16384 && within y 16384))
theorem gdB_iff {x y h p : Int} : gdB x y h p = true ↔ (-1099511627776 ≤ h ∧ h ≤ 1099511627776) ∧ (-1099511627776 ≤ p ∧ p ≤ 1099511627776) ∧ (h ≠ 0 ∨ p ≠ 0) ∧ (-16384 ≤ x ∧ x ≤ 16384) ∧ -16384 ≤ y ∧ y ≤ 16384 := by
  unfold gdB
  simp only [Bool.and_eq_true, within_iff, Bool.or_eq_true, bne_iff_ne]
  omega
/-- The first i entries are good and in order. -/
def okN (l : List T4) : Nat → Bool
  | 0 => true
  | i + 1 => okN l i && (gdB (g41 l i) (g42 l i) (g43 l i) (g44 l i) && (i == 0 || befB (g41 l (i - 1)) (g42 l (i - 1)) (g41 l i) (g42 l i)))
def vldE (l : List T4) : Bool := decide (l.length ≤ 1048576) && okN l l.length
theorem okN_le {l : List T4} : ∀ {i j : Nat}, i ≤ j → okN l j = true → okN l i = true
  | i, 0, h, k => by rw [Nat.le_zero.1 h]; exact k
  | i, j + 1, h, k => by
    rcases Nat.lt_or_ge i (j + 1) with q | q
    · unfold okN at k
      rw [Bool.and_eq_true] at k
      exact okN_le (by omega) k.1
    rw [show i = j + 1 by omega]; exact k
theorem okN_bad {l : List T4} {i : Nat} (h : i < l.length) (k : okN l (i + 1) = false) : vldE l = false := by
  unfold vldE
  cases e : okN l l.length with
  | false => rw [Bool.and_false]
  | true => rw [okN_le (i := i + 1) (by omega) e] at k; cases k
theorem okN_gd {l : List T4} {i : Nat} (k : gdB (g41 l i) (g42 l i) (g43 l i) (g44 l i) = false) : okN l (i + 1) = false := by
  unfold okN; rw [k, Bool.false_and, Bool.and_false]
theorem okN_cf {l : List T4} {i j : Nat} (hj : j + 1 = i) (k : befB (g41 l j) (g42 l j) (g41 l i) (g42 l i) = false) : okN l (i + 1) = false := by
  subst hj
  unfold okN; rw [show j + 1 - 1 = j by omega, k, Bool.or_false, show (j + 1 == 0) = false from rfl, Bool.and_false, Bool.and_false]
theorem okN_0 {l : List T4} {i : Nat} (h0 : i = 0) (h : okN l i = true) (k : gdB (g41 l i) (g42 l i) (g43 l i) (g44 l i) = true) : okN l (i + 1) = true := by
  subst h0; unfold okN; rw [h, k]; rfl
theorem okN_s {l : List T4} {i j : Nat} (hj : j + 1 = i) (h : okN l i = true) (k : gdB (g41 l i) (g42 l i) (g43 l i) (g44 l i) = true) (q : befB (g41 l j) (g42 l j) (g41 l i) (g42 l i) = true) : okN l (i + 1) = true := by
  subst hj; unfold okN; rw [show j + 1 - 1 = j by omega, h, k, q, Bool.or_true]; rfl
theorem befB_cfC (a b c d : Int) : befB a b c d = !decide (0 ≤ cfC (a, b) (c, d)) := by
  rw [befB_iff, Bool.eq_iff_iff]
  simp only [decide_eq_true_eq, Bool.not_eq_true', decide_eq_false_iff_not]
  rw [← cfC_neg]; omega
theorem g4_cel {l : List T4} {i : Nat} (h : i < l.length) : (g41 l i, g42 l i) = cel l[i] := by
  have := g4_eq h
  unfold cel
  rw [← this]
/-- What a valid list is. -/
structure VldE (l : List T4) : Prop where
  len : l.length ≤ 1048576
  good : ∀ e ∈ l, gdB e.1 e.2.1 e.2.2.1 e.2.2.2 = true
  ord : l.Pairwise befE
theorem befE_trans {a b c : T4} (h : befE a b) (k : befE b c) : befE a c := befP_trans h k
theorem pairwise_of {α : Type} {r : α → α → Prop} (tr : ∀ a b c, r a b → r b c → r a c) : ∀ {l : List α}, (∀ (i : Nat) (h : i + 1 < l.length), r (l[i]'(by omega)) l[i + 1]) → l.Pairwise r
  | [], _ => .nil
  | [_], _ => by simp
  | a :: b :: l, h => by
    have ih := pairwise_of tr (l := b :: l) (fun i hi => h (i + 1) (by simpa using hi))
    have hab : r a b := h 0 (by simp)
    rw [List.pairwise_cons]
    refine ⟨fun x hx => ?_, ih⟩
    rcases List.mem_cons.1 hx with e | e
    · rw [e]; exact hab
    exact tr _ _ _ hab ((List.pairwise_cons.1 ih).1 x e)
theorem vldE_iff {l : List T4} : vldE l = true ↔ VldE l := by
  have key : ∀ n, n ≤ l.length → (okN l n = true ↔ (∀ (i : Nat) (h : i < n) (hl : i < l.length), gdB l[i].1 l[i].2.1 l[i].2.2.1 l[i].2.2.2 = true) ∧ ∀ (i : Nat) (h : i + 1 < n) (hl : i + 1 < l.length), befE (l[i]'(by omega)) l[i + 1]) := by
    intro n
    induction n with
    | zero => intro _; exact ⟨fun _ => ⟨fun i h => absurd h (Nat.not_lt_zero _), fun i h => absurd h (Nat.not_lt_zero _)⟩, fun _ => rfl⟩
    | succ n ih =>
      intro hn
      have ih := ih (by omega)
      have e := g4_eq (l := l) (j := n) (by omega)
      have e1 : g41 l n = l[n].1 := by rw [← e]
      have e2 : g42 l n = l[n].2.1 := by rw [← e]
      have e3 : g43 l n = l[n].2.2.1 := by rw [← e]
      have e4 : g44 l n = l[n].2.2.2 := by rw [← e]
      unfold okN
      rw [Bool.and_eq_true, ih, Bool.and_eq_true, Bool.or_eq_true, beq_iff_eq, e1, e2, e3, e4]
      constructor
      · rintro ⟨⟨a1, a2⟩, a3, a4⟩
        refine ⟨fun i h hl => ?_, fun i h hl => ?_⟩
        · rcases Nat.lt_or_ge i n with q | q
          · exact a1 i q hl
          obtain rfl : i = n := by omega
          exact a3
        rcases Nat.lt_or_ge (i + 1) n with q | q
        · exact a2 i q hl
        obtain rfl : i + 1 = n := by omega
        rcases a4 with a4 | a4
        · omega
        rw [befB_iff, decide_eq_true_eq] at a4
        have f := g4_eq (l := l) (j := i) (by omega)
        have f1 : g41 l (i + 1 - 1) = (l[i]'(by omega)).1 := by rw [show i + 1 - 1 = i by omega, ← f]
        have f2 : g42 l (i + 1 - 1) = (l[i]'(by omega)).2.1 := by rw [show i + 1 - 1 = i by omega, ← f]
        rw [f1, f2] at a4
        exact a4
      rintro ⟨a1, a2⟩
      refine ⟨⟨fun i h hl => a1 i (by omega) hl, fun i h hl => a2 i (by omega) hl⟩, a1 n (by omega) (by omega), ?_⟩
      rcases Nat.eq_zero_or_pos n with q | q
      · exact .inl q
      right
      have a3 := a2 (n - 1) (by omega) (by omega)
      have f := g4_eq (l := l) (j := n - 1) (by omega)
      have f1 : g41 l (n - 1) = (l[n - 1]'(by omega)).1 := by rw [← f]
      have f2 : g42 l (n - 1) = (l[n - 1]'(by omega)).2.1 := by rw [← f]
      rw [befB_iff, decide_eq_true_eq, f1, f2]
      have ee : l[n - 1 + 1]'(by omega) = l[n] := by congr 1; omega
      rw [ee] at a3
      exact a3
  unfold vldE
  rw [Bool.and_eq_true, decide_eq_true_eq, key _ (Nat.le_refl _)]
  constructor
  · rintro ⟨a1, a2, a3⟩
    refine ⟨a1, fun e he => ?_, pairwise_of (r := befE) (fun _ _ _ => befE_trans) fun i h => a3 i h h⟩
    obtain ⟨i, hi, rfl⟩ := List.mem_iff_getElem.1 he
    exact a2 i hi hi
  rintro ⟨a1, a2, a3⟩
  exact ⟨a1, fun i h hl => a2 _ (List.getElem_mem hl), fun i h hl => (List.pairwise_iff_getElem.1 a3) i (i + 1) (by omega) hl (by omega)⟩
theorem VldE.nil : VldE [] := ⟨by decide, fun e he => by simp at he, .nil⟩
/-- A tile: its place, its data. -/
structure Tl where
  x : Int
  y : Int
  s : AV
  d : List Int
def tlC (e : Tl) : List AV := [.int .i64 e.x, .int .i64 e.y, e.s]
def tlR (l : List Tl) : List AV := l.flatMap tlC
def tlG (l : List Tl) (j : Nat) : Tl := l.getD j ⟨0, 0, .any, []⟩
def tlOk (H : AHeap) (l : List Tl) : Prop := ∀ e ∈ l, Sl H 1 e.s e.d.length (ints .u8 e.d) ∧ e.d.length ≤ 1000000000 ∧ ∀ c ∈ e.d, 0 ≤ c ∧ c ≤ 255
theorem tlR_cons {p : Tl} {l : List Tl} : tlR (p :: l) = tlC p ++ tlR l := rfl
theorem tlR_append {l m : List Tl} : tlR (l ++ m) = tlR l ++ tlR m := List.flatMap_append
theorem tlR_len : ∀ {l : List Tl}, (tlR l).length = l.length * 3
  | [] => rfl
  | p :: l => by rw [tlR_cons, List.length_append, tlR_len (l := l), List.length_cons]; show 3 + _ = _; omega
theorem drop_add3 : ∀ (a b : List AV) (n : Nat), (a ++ b).drop (a.length + n) = b.drop n
  | [], b, n => by simp
  | x :: a, b, n => by rw [List.length_cons, show a.length + 1 + n = (a.length + n) + 1 by omega]; exact drop_add3 a b n
theorem tlR_at : ∀ {l : List Tl} {j : Nat} (_h : j < l.length), (tlR l).drop (j * 3) = tlC (tlG l j) ++ (tlR l).drop ((j + 1) * 3)
  | [], j, h => by simp at h
  | p :: l, 0, _ => by rw [tlR_cons]; rfl
  | p :: l, j + 1, h => by
    have ih := tlR_at (l := l) (j := j) (by simpa using h)
    rw [tlR_cons, show (j + 1) * 3 = (tlC p).length + j * 3 by show _ = 3 + _; omega, show (j + 1 + 1) * 3 = (tlC p).length + (j + 1) * 3 by show _ = 3 + _; omega, drop_add3, drop_add3, ih]
    rfl
theorem tlR_p {l : List Tl} {j : Nat} {v : AV} (h : j < l.length) (hs : (tlG l j).s = v) : ((tlR l).drop (j * 3)).take 3 = [.int .i64 (tlG l j).x, .int .i64 (tlG l j).y, v] := by rw [tlR_at h, ← hs]; rfl
theorem tlR_at0 {l : List Tl} {j : Nat} (h : j < l.length) : (tlR l)[j * 3]? = some (.int .i64 (tlG l j).x) := by
  have k : ((tlR l).drop (j * 3))[0]? = some (.int .i64 (tlG l j).x) := by rw [tlR_at h]; rfl
  rw [List.getElem?_drop] at k; exact k
theorem tlR_at1 {l : List Tl} {j : Nat} (h : j < l.length) : (tlR l)[j * 3 + 1]? = some (.int .i64 (tlG l j).y) := by
  have k : ((tlR l).drop (j * 3))[1]? = some (.int .i64 (tlG l j).y) := by rw [tlR_at h]; rfl
  rw [List.getElem?_drop] at k; exact k
theorem tlR_at2 {l : List Tl} {j : Nat} {v : AV} (h : j < l.length) (hs : (tlG l j).s = v) : (tlR l)[j * 3 + 2]? = some v := by
  have k : ((tlR l).drop (j * 3))[2]? = some (tlG l j).s := by rw [tlR_at h]; rfl
  rw [List.getElem?_drop] at k; rw [← hs]; exact k
theorem tlG_mem {l : List Tl} {j : Nat} (h : j < l.length) : tlG l j ∈ l := by
  unfold tlG
  rw [List.getD_eq_getElem?_getD, List.getElem?_eq_getElem h]
  exact List.getElem_mem h
theorem tlOk.at {H : AHeap} {l : List Tl} {j : Nat} (k : tlOk H l) (h : j < l.length) : ∃ b o c, (tlG l j).s = .sl (some (b, 0)) (tlG l j).d.length c ∧ H[b]? = some (.cells o 1 (ints .u8 (tlG l j).d)) := by
  obtain ⟨b, o, c, e1, e2⟩ := (k _ (tlG_mem h)).1
  exact ⟨b, o, c, e1, e2⟩
/-- One entry of a tile is read: the entry, the next number, what is left, the error. -/
def entR (tx ty : Int) (nx : Nat) (b : List Int) : T4 × Nat × List Int × Int :=
  if (rdU 0 0 b).2.2 ≠ 0 then ((0, 0, 0, 0), 0, [], (rdU 0 0 b).2.2) else
  if (rdI (rdU 0 0 b).2.1).2.2 ≠ 0 then ((0, 0, 0, 0), 0, [], (rdI (rdU 0 0 b).2.1).2.2) else
  if (rdI (rdI (rdU 0 0 b).2.1).2.1).2.2 ≠ 0 then ((0, 0, 0, 0), 0, [], (rdI (rdI (rdU 0 0 b).2.1).2.1).2.2) else
  if 256 ≤ nx + (rdU 0 0 b).1 ∨ ((rdI (rdU 0 0 b).2.1).1 = 0 ∧ (rdI (rdI (rdU 0 0 b).2.1).2.1).1 = 0) then ((0, 0, 0, 0), 0, [], 3) else
  if (within (rdI (rdU 0 0 b).2.1).1 1099511627776 && within (rdI (rdI (rdU 0 0 b).2.1).2.1).1 1099511627776) = false then ((0, 0, 0, 0), 0, [], 2) else
  if (within (16 * tx + (((nx + (rdU 0 0 b).1) % 16 : Nat) : Int)) 16384 && within (16 * ty + (((nx + (rdU 0 0 b).1) / 16 : Nat) : Int)) 16384) = false then ((0, 0, 0, 0), 0, [], 1) else
  ((16 * tx + (((nx + (rdU 0 0 b).1) % 16 : Nat) : Int), 16 * ty + (((nx + (rdU 0 0 b).1) / 16 : Nat) : Int), (rdI (rdU 0 0 b).2.1).1, (rdI (rdI (rdU 0 0 b).2.1).2.1).1), nx + (rdU 0 0 b).1 + 1, (rdI (rdI (rdU 0 0 b).2.1).2.1).2.1, 0)
theorem rdU_suf : ∀ (l : List Int) (i a : Nat), (rdU i a l).2.1 <:+ l
  | [], _, _ => by unfold rdU; exact List.suffix_refl _
  | c :: r, i, a => by
    unfold rdU
    repeat' split
    · exact List.nil_suffix
    · exact (rdU_suf r _ _).trans (List.suffix_cons ..)
    · exact List.nil_suffix
    exact List.suffix_cons ..
theorem rdI_suf (l : List Int) : (rdI l).2.1 <:+ l := by
  unfold rdI; split
  · exact rdU_suf l 0 0
  exact List.nil_suffix
theorem suf_B {l m : List Int} (h : l <:+ m) (hB : ∀ c ∈ m, 0 ≤ c ∧ c ≤ 255) : ∀ c ∈ l, 0 ≤ c ∧ c ≤ 255 := fun c hc => hB c (h.mem hc)
theorem add_nat1 (a b : Nat) : (a : Int) + (b : Int) + 1 = ((a + b + 1 : Nat) : Int) := rfl
theorem rem_16 (a b : Nat) : Int.tmod ((a : Int) + (b : Int)) 16 = (((a + b) % 16 : Nat) : Int) := rfl
theorem quo_16 (a b : Nat) : Int.tdiv ((a : Int) + (b : Int)) 16 = (((a + b) / 16 : Nat) : Int) := rfl
section
variable {tx ty : Int} {nx : Nat} {b : List Int}
theorem entR_1 (h : (rdU 0 0 b).2.2 ≠ 0) : entR tx ty nx b = ((0, 0, 0, 0), 0, [], (rdU 0 0 b).2.2) := by unfold entR; rw [if_pos h]
theorem entR_2 (h1 : (rdU 0 0 b).2.2 = 0) (h : (rdI (rdU 0 0 b).2.1).2.2 ≠ 0) : entR tx ty nx b = ((0, 0, 0, 0), 0, [], (rdI (rdU 0 0 b).2.1).2.2) := by unfold entR; rw [if_neg (not_not_intro h1), if_pos h]
theorem entR_3 (h1 : (rdU 0 0 b).2.2 = 0) (h2 : (rdI (rdU 0 0 b).2.1).2.2 = 0) (h : (rdI (rdI (rdU 0 0 b).2.1).2.1).2.2 ≠ 0) : entR tx ty nx b = ((0, 0, 0, 0), 0, [], (rdI (rdI (rdU 0 0 b).2.1).2.1).2.2) := by unfold entR; rw [if_neg (not_not_intro h1), if_neg (not_not_intro h2), if_pos h]
theorem entR_4 (h1 : (rdU 0 0 b).2.2 = 0) (h2 : (rdI (rdU 0 0 b).2.1).2.2 = 0) (h3 : (rdI (rdI (rdU 0 0 b).2.1).2.1).2.2 = 0) (h : 256 ≤ nx + (rdU 0 0 b).1 ∨ ((rdI (rdU 0 0 b).2.1).1 = 0 ∧ (rdI (rdI (rdU 0 0 b).2.1).2.1).1 = 0)) : entR tx ty nx b = ((0, 0, 0, 0), 0, [], 3) := by unfold entR; rw [if_neg (not_not_intro h1), if_neg (not_not_intro h2), if_neg (not_not_intro h3), if_pos h]
theorem entR_5 (h1 : (rdU 0 0 b).2.2 = 0) (h2 : (rdI (rdU 0 0 b).2.1).2.2 = 0) (h3 : (rdI (rdI (rdU 0 0 b).2.1).2.1).2.2 = 0) (h4 : ¬ (256 ≤ nx + (rdU 0 0 b).1 ∨ ((rdI (rdU 0 0 b).2.1).1 = 0 ∧ (rdI (rdI (rdU 0 0 b).2.1).2.1).1 = 0))) (h : (within (rdI (rdU 0 0 b).2.1).1 1099511627776 && within (rdI (rdI (rdU 0 0 b).2.1).2.1).1 1099511627776) = false) : entR tx ty nx b = ((0, 0, 0, 0), 0, [], 2) := by unfold entR; rw [if_neg (not_not_intro h1), if_neg (not_not_intro h2), if_neg (not_not_intro h3), if_neg h4, if_pos h]
theorem entR_6 (h1 : (rdU 0 0 b).2.2 = 0) (h2 : (rdI (rdU 0 0 b).2.1).2.2 = 0) (h3 : (rdI (rdI (rdU 0 0 b).2.1).2.1).2.2 = 0) (h4 : ¬ (256 ≤ nx + (rdU 0 0 b).1 ∨ ((rdI (rdU 0 0 b).2.1).1 = 0 ∧ (rdI (rdI (rdU 0 0 b).2.1).2.1).1 = 0))) (h5 : (within (rdI (rdU 0 0 b).2.1).1 1099511627776 && within (rdI (rdI (rdU 0 0 b).2.1).2.1).1 1099511627776) = true) (h : (within (16 * tx + (((nx + (rdU 0 0 b).1) % 16 : Nat) : Int)) 16384 && within (16 * ty + (((nx + (rdU 0 0 b).1) / 16 : Nat) : Int)) 16384) = false) : entR tx ty nx b = ((0, 0, 0, 0), 0, [], 1) := by unfold entR; rw [if_neg (not_not_intro h1), if_neg (not_not_intro h2), if_neg (not_not_intro h3), if_neg h4, if_neg (by rw [h5]; decide), if_pos h]
theorem entR_7 (h1 : (rdU 0 0 b).2.2 = 0) (h2 : (rdI (rdU 0 0 b).2.1).2.2 = 0) (h3 : (rdI (rdI (rdU 0 0 b).2.1).2.1).2.2 = 0) (h4 : ¬ (256 ≤ nx + (rdU 0 0 b).1 ∨ ((rdI (rdU 0 0 b).2.1).1 = 0 ∧ (rdI (rdI (rdU 0 0 b).2.1).2.1).1 = 0))) (h5 : (within (rdI (rdU 0 0 b).2.1).1 1099511627776 && within (rdI (rdI (rdU 0 0 b).2.1).2.1).1 1099511627776) = true) (h : (within (16 * tx + (((nx + (rdU 0 0 b).1) % 16 : Nat) : Int)) 16384 && within (16 * ty + (((nx + (rdU 0 0 b).1) / 16 : Nat) : Int)) 16384) = true) : entR tx ty nx b = ((16 * tx + (((nx + (rdU 0 0 b).1) % 16 : Nat) : Int), 16 * ty + (((nx + (rdU 0 0 b).1) / 16 : Nat) : Int), (rdI (rdU 0 0 b).2.1).1, (rdI (rdI (rdU 0 0 b).2.1).2.1).1), nx + (rdU 0 0 b).1 + 1, (rdI (rdI (rdU 0 0 b).2.1).2.1).2.1, 0) := by unfold entR; rw [if_neg (not_not_intro h1), if_neg (not_not_intro h2), if_neg (not_not_intro h3), if_neg h4, if_neg (by rw [h5]; decide), if_neg (by rw [h]; decide)]
end
/-- An entry is put into a list in order. -/
def insE (x : T4) : List T4 → List T4
  | [] => [x]
  | y :: l => if befE x y then x :: y :: l else y :: insE x l
def srtE : List T4 → List T4
  | [] => []
  | x :: l => insE x (srtE l)
theorem insE_perm (x : T4) : ∀ l : List T4, (insE x l).Perm (x :: l)
  | [] => .refl _
  | y :: l => by
    unfold insE
    split
    · exact .refl _
    exact ((insE_perm x l).cons y).trans (List.Perm.swap x y l)
theorem srtE_perm : ∀ l : List T4, (srtE l).Perm l
  | [] => .refl _
  | x :: l => (insE_perm x _).trans ((srtE_perm l).cons x)
theorem srtE_len (l : List T4) : (srtE l).length = l.length := (srtE_perm l).length_eq
theorem insE_strict {x : T4} : ∀ {l : List T4}, l.Pairwise befE → (∀ y ∈ l, cel x ≠ cel y) → (insE x l).Pairwise befE
  | [], _, _ => by unfold insE; simp
  | y :: l, h, hx => by
    rw [List.pairwise_cons] at h
    unfold insE
    split
    · rename_i hxy
      rw [List.pairwise_cons, List.pairwise_cons]
      refine ⟨fun z hz => ?_, h⟩
      rcases List.mem_cons.1 hz with e | e
      · rw [e]; exact hxy
      exact befE_trans hxy (h.1 z e)
    rename_i hxy
    rw [List.pairwise_cons]
    refine ⟨fun z hz => ?_, insE_strict h.2 fun z hz => hx z (List.mem_cons_of_mem _ hz)⟩
    rcases List.mem_cons.1 ((insE_perm x l).mem_iff.1 hz) with e | e
    · rw [e]
      rcases befP_tri (cel x) (cel y) with k | k | k
      · exact absurd k hxy
      · exact absurd k (hx y (List.mem_cons_self ..))
      exact k
    exact h.1 z e
theorem srtE_strict : ∀ {l : List T4}, (l.map cel).Nodup → (srtE l).Pairwise befE
  | [], _ => .nil
  | x :: l, h => by
    rw [List.map_cons, List.nodup_cons] at h
    refine insE_strict (srtE_strict h.2) fun y hy e => h.1 ?_
    rw [e]
    exact List.mem_map_of_mem ((srtE_perm l).mem_iff.1 hy)
theorem strict_of : ∀ {l : List T4}, l.Pairwise (fun x y => ¬ befE y x) → (l.map cel).Nodup → l.Pairwise befE
  | [], _, _ => .nil
  | x :: l, h, hn => by
    rw [List.pairwise_cons] at h ⊢
    rw [List.map_cons, List.nodup_cons] at hn
    refine ⟨fun y hy => ?_, strict_of h.2 hn.2⟩
    rcases befP_tri (cel x) (cel y) with k | k | k
    · exact k
    · exact absurd (k ▸ List.mem_map_of_mem hy) hn.1
    exact absurd k (h.1 y hy)
theorem strict_nodup {l : List T4} (h : l.Pairwise befE) : (l.map cel).Nodup := by
  rw [List.nodup_iff_pairwise_ne, List.pairwise_map]
  refine h.imp fun {a b} hab e => ?_
  unfold befE at hab
  have e' : (a.1, a.2.1) = (b.1, b.2.1) := e
  rw [e'] at hab
  exact befP_irr hab
/-- Lists of entries in order with the same members are the same. -/
theorem strict_eq {l m : List T4} (hl : l.Pairwise befE) (hm : m.Pairwise befE) (h : ∀ x, x ∈ l ↔ x ∈ m) : l = m := eq_strict (r := befE) (fun _ => befP_irr) befP_asymm hl hm h
theorem srtE_congr {l m : List T4} (hp : l.Perm m) (hn : (l.map cel).Nodup) : srtE l = srtE m := strict_eq (srtE_strict hn) (srtE_strict ((hp.map cel).nodup_iff.1 hn)) fun x => by rw [(srtE_perm l).mem_iff, (srtE_perm m).mem_iff, hp.mem_iff]
def fl (i a b : Nat) : Nat := match i with
  | 0 => a
  | _ + 1 => b
def fqI (i : Nat) (Q : List Int) : List Int := match i with
  | 0 => []
  | _ + 1 => Q
def owg (i n : Nat) : Bool := match i with
  | 0 => false
  | _ + 1 => ownG n
theorem fl_0 {a b : Nat} : fl 0 a b = a := rfl
theorem fl_s {i a b : Nat} : fl (i + 1) a b = b := rfl
theorem fl_1 {a b : Nat} : fl 1 a b = b := rfl
theorem fqI_0 {Q : List Int} : fqI 0 Q = [] := rfl
theorem fqI_s {i : Nat} {Q : List Int} : fqI (i + 1) Q = Q := rfl
theorem owg_0 {n : Nat} : owg 0 n = false := rfl
theorem owg_s {i n : Nat} : owg (i + 1) n = ownG n := rfl
/-- All entries of a tile are read, and added to others. -/
def tlE (ad : List T4 → T4 → List T4) (tx ty : Int) : Nat → Nat → List Int → List T4 → List T4 × Int
  | 0, _, _, acc => (acc, 0)
  | f + 1, nx, b, acc => if b = [] then (acc, 0) else if (entR tx ty nx b).2.2.2 ≠ 0 then ([], (entR tx ty nx b).2.2.2) else tlE ad tx ty f (entR tx ty nx b).2.1 (entR tx ty nx b).2.2.1 (ad acc (entR tx ty nx b).1)
def okT (pv : Option (Int × Int)) (t : Tl) : Bool := (match pv with | some q => decide (befP q (t.x, t.y)) | none => true) && (within t.x 1024 && within t.y 1024)
def unpF (ad : List T4 → T4 → List T4) : Option (Int × Int) → List Tl → List T4 → List T4 × Int
  | _, [], acc => (acc, 0)
  | pv, t :: ts, acc => if okT pv t = false then ([], 1) else if t.d = [] then ([], 3) else if (tlE ad t.x t.y t.d.length 0 t.d acc).2 ≠ 0 then ([], (tlE ad t.x t.y t.d.length 0 t.d acc).2) else unpF ad (some (t.x, t.y)) ts (tlE ad t.x t.y t.d.length 0 t.d acc).1
def adA (acc : List T4) (e : T4) : List T4 := acc ++ [e]
/-- tile.Unpack -/
def unpR (ts : List Tl) : List T4 × Int := (srtE (unpF adA none ts []).1, (unpF adA none ts []).2)
/-- What holds of the entries read so far: the cells are in earlier tiles, or have a smaller number in this one. -/
structure UnpI (tx ty : Int) (nx : Nat) (acc : List T4) : Prop where
  nd : (acc.map cel).Nodup
  hm : ∀ e ∈ acc, befP (hom (cel e)) (tx, ty) ∨ (hom (cel e) = (tx, ty) ∧ numI (cel e) < nx)
theorem entR_ok {tx ty : Int} {nx : Nat} {b : List Int} (h : (entR tx ty nx b).2.2.2 = 0) : ∃ n : Nat, nx ≤ n ∧ n < 256 ∧ (entR tx ty nx b).2.1 = n + 1 ∧ (entR tx ty nx b).2.2.1 <:+ b ∧ (entR tx ty nx b).2.2.1.length < b.length ∧ n = nx + (rdU 0 0 b).1 ∧ gdB (entR tx ty nx b).1.1 (entR tx ty nx b).1.2.1 (entR tx ty nx b).1.2.2.1 (entR tx ty nx b).1.2.2.2 = true ∧
    (entR tx ty nx b).1 = (16 * tx + ((n % 16 : Nat) : Int), 16 * ty + ((n / 16 : Nat) : Int), (rdI (rdU 0 0 b).2.1).1, (rdI (rdI (rdU 0 0 b).2.1).2.1).1) ∧ (rdU 0 0 b).2.2 = 0 ∧ (rdI (rdU 0 0 b).2.1).2.2 = 0 ∧ (rdI (rdI (rdU 0 0 b).2.1).2.1).2.2 = 0 ∧ (entR tx ty nx b).2.2.1 = (rdI (rdI (rdU 0 0 b).2.1).2.1).2.1 := by
  by_cases h1 : (rdU 0 0 b).2.2 = 0
  case neg => rw [entR_1 h1] at h; exact absurd h h1
  by_cases h2 : (rdI (rdU 0 0 b).2.1).2.2 = 0
  case neg => rw [entR_2 h1 h2] at h; exact absurd h h2
  by_cases h3 : (rdI (rdI (rdU 0 0 b).2.1).2.1).2.2 = 0
  case neg => rw [entR_3 h1 h2 h3] at h; exact absurd h h3
  by_cases h4 : 256 ≤ nx + (rdU 0 0 b).1 ∨ ((rdI (rdU 0 0 b).2.1).1 = 0 ∧ (rdI (rdI (rdU 0 0 b).2.1).2.1).1 = 0)
  case pos => rw [entR_4 h1 h2 h3 h4] at h; exact absurd h (by decide)
  cases h5 : (within (rdI (rdU 0 0 b).2.1).1 1099511627776 && within (rdI (rdI (rdU 0 0 b).2.1).2.1).1 1099511627776) with
  | false => rw [entR_5 h1 h2 h3 h4 h5] at h; exact absurd h (by decide)
  | true =>
    cases h6 : (within (16 * tx + (((nx + (rdU 0 0 b).1) % 16 : Nat) : Int)) 16384 && within (16 * ty + (((nx + (rdU 0 0 b).1) / 16 : Nat) : Int)) 16384) with
    | false => rw [entR_6 h1 h2 h3 h4 h5 h6] at h; exact absurd h (by decide)
    | true =>
      have e := entR_7 (tx := tx) (ty := ty) h1 h2 h3 h4 h5 h6
      have hl : (rdU 0 0 b).2.1.length < b.length := rdU_len b 0 0 (rdU 0 0 b).1 (rdU 0 0 b).2.1 (by rw [← h1])
      have s1 := rdI_suf (rdU 0 0 b).2.1
      have s2 := rdI_suf (rdI (rdU 0 0 b).2.1).2.1
      refine ⟨nx + (rdU 0 0 b).1, by omega, by omega, by rw [e], by rw [e]; exact s2.trans (s1.trans (rdU_suf b 0 0)), by rw [e]; have := s1.length_le; have := s2.length_le; show (rdI (rdI (rdU 0 0 b).2.1).2.1).2.1.length < _; omega, rfl, ?_, by rw [e], h1, h2, h3, by rw [e]⟩
      rw [e, gdB_iff]
      rw [Bool.and_eq_true, within_iff, within_iff] at h5 h6
      refine ⟨h5.1, h5.2, ?_, h6.1, h6.2⟩
      simp only
      omega
def pvT (l : List Tl) : Nat → Option (Int × Int)
  | 0 => none
  | i + 1 => some ((tlG l i).x, (tlG l i).y)
def okP (l : List Tl) (i : Nat) : Prop := ∀ j, j + 1 = i → befP ((tlG l j).x, (tlG l j).y) ((tlG l i).x, (tlG l i).y)
theorem okT_1 {l : List Tl} {i j : Nat} (hj : j + 1 = i) (h : 0 ≤ cfC ((tlG l j).x, (tlG l j).y) ((tlG l i).x, (tlG l i).y)) : okT (pvT l i) (tlG l i) = false := by
  subst hj
  show (decide (befP ((tlG l j).x, (tlG l j).y) ((tlG l (j + 1)).x, (tlG l (j + 1)).y)) && _) = false
  rw [decide_eq_false (fun q => by have := (cfC_neg _ _).2 q; omega), Bool.false_and]
theorem okT_2 {pv : Option (Int × Int)} {t : Tl} (h : within t.x 1024 = false) : okT pv t = false := by unfold okT; rw [h, Bool.false_and, Bool.and_false]
theorem okT_3 {pv : Option (Int × Int)} {t : Tl} (h : within t.y 1024 = false) : okT pv t = false := by unfold okT; rw [h, Bool.and_false, Bool.and_false]
theorem okP_of {l : List Tl} {i j : Nat} (hj : j + 1 = i) (h : ¬ 0 ≤ cfC ((tlG l j).x, (tlG l j).y) ((tlG l i).x, (tlG l i).y)) : okP l i := fun k hk => by
  obtain rfl : k = j := by omega
  exact (cfC_neg _ _).1 (by omega)
theorem okT_4 {l : List Tl} {i : Nat} (hp : okP l i) (h1 : within (tlG l i).x 1024 = true) (h2 : within (tlG l i).y 1024 = true) : okT (pvT l i) (tlG l i) = true := by
  unfold okT
  rw [h1, h2]
  cases i with
  | zero => rfl
  | succ i => simp only [pvT, Bool.and_true]; exact decide_eq_true (hp i rfl)
theorem tl_drop {l : List Tl} {i : Nat} (h : i < l.length) : l.drop i = tlG l i :: l.drop (i + 1) := by
  rw [List.drop_eq_getElem_cons h]
  unfold tlG
  rw [List.getD_eq_getElem?_getD, List.getElem?_eq_getElem h]; rfl
section
variable {ad : List T4 → T4 → List T4} {l : List Tl} {i : Nat} {acc : List T4} (hun : unpF ad none l [] = unpF ad (pvT l i) (l.drop i) acc) (hlt : i < l.length)
include hun hlt
theorem unp_1 (h : okT (pvT l i) (tlG l i) = false) : unpF ad none l [] = ([], 1) := by rw [hun, tl_drop hlt, unpF, if_pos h]
theorem unp_3 (h1 : okT (pvT l i) (tlG l i) = true) (h : (tlG l i).d = []) : unpF ad none l [] = ([], 3) := by rw [hun, tl_drop hlt, unpF, if_neg (by rw [h1]; decide), if_pos h]
theorem unp_e {r : List T4 × Int} (h1 : okT (pvT l i) (tlG l i) = true) (h2 : (tlG l i).d ≠ []) (h : tlE ad (tlG l i).x (tlG l i).y (tlG l i).d.length 0 (tlG l i).d acc = r) (h0 : r.2 ≠ 0) : unpF ad none l [] = ([], r.2) := by
  rw [hun, tl_drop hlt, unpF, if_neg (by rw [h1]; decide), if_neg h2, if_pos (by rw [h]; exact h0), h]
theorem unp_s {r : List T4 × Int} (h1 : okT (pvT l i) (tlG l i) = true) (h2 : (tlG l i).d ≠ []) (h : tlE ad (tlG l i).x (tlG l i).y (tlG l i).d.length 0 (tlG l i).d acc = r) (h0 : r.2 = 0) : unpF ad none l [] = unpF ad (pvT l (i + 1)) (l.drop (i + 1)) r.1 := by
  rw [hun, tl_drop hlt, unpF, if_neg (by rw [h1]; decide), if_neg h2, if_neg (by rw [h]; exact not_not_intro h0), h]; rfl
end
theorem tlE_e {ad : List T4 → T4 → List T4} {tx ty : Int} {fu nx : Nat} {q : List Int} {ac : List T4} (hf : q.length ≤ fu) (h0 : 0 < q.length) (h : (entR tx ty nx q).2.2.2 ≠ 0) : tlE ad tx ty fu nx q ac = ([], (entR tx ty nx q).2.2.2) := by
  cases fu with
  | zero => omega
  | succ fu => rw [tlE, if_neg (by intro e; rw [e] at h0; simp at h0), if_pos h]
theorem tlE_s {ad : List T4 → T4 → List T4} {tx ty : Int} {fu nx : Nat} {q : List Int} {ac : List T4} (hf : q.length ≤ fu) (h0 : 0 < q.length) (h : (entR tx ty nx q).2.2.2 = 0) : tlE ad tx ty fu nx q ac = tlE ad tx ty (fu - 1) (entR tx ty nx q).2.1 (entR tx ty nx q).2.2.1 (ad ac (entR tx ty nx q).1) := by
  cases fu with
  | zero => omega
  | succ fu => rw [tlE, if_neg (by intro e; rw [e] at h0; simp at h0), if_neg (not_not_intro h)]; rfl
theorem tlE_z {ad : List T4 → T4 → List T4} {tx ty : Int} {fu nx : Nat} {q : List Int} {ac : List T4} (h : q.length = 0) : tlE ad tx ty fu nx q ac = (ac, 0) := by
  cases fu with
  | zero => rfl
  | succ fu => rw [tlE, if_pos (List.eq_nil_of_length_eq_zero h)]
theorem UnpI.nil (tx ty : Int) : UnpI tx ty 0 [] := ⟨by simp, fun e h => by cases h⟩
theorem UnpI.mem {tx ty : Int} {nx n : Nat} {acc : List T4} (k : UnpI tx ty nx acc) (hn : nx ≤ n) (hn2 : n < 256) {x y : Int} (hx : x = 16 * tx + ((n % 16 : Nat) : Int)) (hy : y = 16 * ty + ((n / 16 : Nat) : Int)) : (x, y) ∉ acc.map cel := by
  intro hm
  obtain ⟨e, he, hc⟩ := List.mem_map.1 hm
  have hh : hom (cel e) = (tx, ty) := by rw [hc]; unfold hom; simp only [Prod.mk.injEq]; omega
  have hu : numI (cel e) = n := by rw [hc]; unfold numI; simp only; omega
  rcases k.hm e he with q | q
  · rw [hh] at q; exact befP_irr q
  rw [hu] at q; omega
theorem UnpI.add {tx ty : Int} {nx n : Nat} {acc : List T4} (k : UnpI tx ty nx acc) (hn : nx ≤ n) (hn2 : n < 256) {e : T4} (hx : e.1 = 16 * tx + ((n % 16 : Nat) : Int)) (hy : e.2.1 = 16 * ty + ((n / 16 : Nat) : Int)) : UnpI tx ty (n + 1) (acc ++ [e]) := by
  refine ⟨?_, fun a ha => ?_⟩
  · rw [List.map_append, List.nodup_append]
    refine ⟨k.nd, by simp, fun a ha b hb q => ?_⟩
    have hb' : b = cel e := by simpa using hb
    rw [q, hb'] at ha
    exact k.mem hn hn2 hx hy ha
  rcases List.mem_append.1 ha with q | q
  · rcases k.hm a q with r | r
    · exact .inl r
    exact .inr ⟨r.1, by omega⟩
  rw [List.mem_singleton.1 q]
  right
  unfold hom numI cel
  rw [hx, hy]
  simp only [Prod.mk.injEq]
  omega
theorem UnpI.next {tx ty tx' ty' : Int} {nx : Nat} {acc : List T4} (k : UnpI tx ty nx acc) (h : befP (tx, ty) (tx', ty')) : UnpI tx' ty' 0 acc := by
  refine ⟨k.nd, fun e he => .inl ?_⟩
  rcases k.hm e he with q | q
  · exact befP_trans q h
  rw [q.1]; exact h
structure UnpO (l : List Tl) (i : Nat) (acc : List T4) : Prop where
  nd : (acc.map cel).Nodup
  z : i = 0 → acc = []
  hm : ∀ j, j + 1 = i → UnpI (tlG l j).x (tlG l j).y 256 acc
theorem UnpO.nil {l : List Tl} : UnpO l 0 [] := ⟨by simp, fun _ => rfl, fun j h => by omega⟩
theorem UnpO.inn {l : List Tl} {i : Nat} {acc : List T4} (h : UnpO l i acc) (hp : okP l i) : UnpI (tlG l i).x (tlG l i).y 0 acc := by
  cases i with
  | zero => rw [h.z rfl]; exact UnpI.nil _ _
  | succ i => exact (h.hm i rfl).next (hp i rfl)
theorem UnpI.out {l : List Tl} {i nx : Nat} {acc : List T4} (h : UnpI (tlG l i).x (tlG l i).y nx acc) (hn : nx ≤ 256) : UnpO l (i + 1) acc := ⟨h.nd, fun q => by omega, fun j hj => by
  obtain rfl : j = i := by omega
  refine ⟨h.nd, fun e he => ?_⟩
  rcases h.hm e he with q | q
  · exact .inl q
  exact .inr ⟨q.1, by omega⟩⟩
/-- Where an entry goes: behind the last one that it is not ahead of. -/
def bkE (x : T4) (l : List T4) : Nat → Nat
  | 0 => 0
  | k + 1 => if befB x.1 x.2.1 (g41 l k) (g42 l k) = true then bkE x l k else k + 1
def putB (l : List T4) (x : T4) : List T4 := l.take (bkE x l l.length) ++ [x] ++ l.drop (bkE x l l.length)
theorem bkE_le (x : T4) (l : List T4) : ∀ n, bkE x l n ≤ n
  | 0 => Nat.le_refl _
  | k + 1 => by
    unfold bkE; split
    · have := bkE_le x l k; omega
    exact Nat.le_refl _
theorem bkE_spec (x : T4) (l : List T4) : ∀ n, (∀ j, bkE x l n ≤ j → j < n → befB x.1 x.2.1 (g41 l j) (g42 l j) = true) ∧ (0 < bkE x l n → befB x.1 x.2.1 (g41 l (bkE x l n - 1)) (g42 l (bkE x l n - 1)) = false)
  | 0 => ⟨fun j _ h => by omega, fun h => by simp [bkE] at h⟩
  | k + 1 => by
    have ih := bkE_spec x l k
    cases h : befB x.1 x.2.1 (g41 l k) (g42 l k) with
    | true =>
      rw [bkE, if_pos h]
      refine ⟨fun j h1 h2 => ?_, ih.2⟩
      rcases Nat.lt_or_ge j k with q | q
      · exact ih.1 j h1 q
      rw [show j = k by omega]; exact h
    | false =>
      rw [bkE, if_neg (by rw [h]; decide)]
      exact ⟨fun j h1 h2 => by omega, fun _ => h⟩
theorem putB_srt {l : List T4} {x : T4} (hs : l.Pairwise befE) (hx : cel x ∉ l.map cel) : (putB l x).Pairwise befE ∧ (putB l x).Perm (x :: l) := by
  obtain ⟨k, hk⟩ : ∃ k, k = bkE x l l.length := ⟨_, rfl⟩
  have hle := bkE_le x l l.length
  obtain ⟨h1, h2⟩ := bkE_spec x l l.length
  rw [← hk] at hle h1 h2
  have hlt : ∀ e ∈ l.take k, befE e x := fun e he => by
    obtain ⟨j, hj, rfl⟩ := List.mem_iff_getElem.1 he
    rw [List.length_take] at hj
    rw [List.getElem_take]
    have h3 := h2 (by omega)
    rw [befB_iff, decide_eq_false_iff_not, g4_cel (by omega : k - 1 < l.length)] at h3
    have h4 : befE (l[k - 1]'(by omega)) x := by
      rcases befP_tri (cel (l[k - 1]'(by omega))) (cel x) with q | q | q
      · exact q
      · exact absurd (q ▸ List.mem_map_of_mem (List.getElem_mem (by omega : k - 1 < l.length))) hx
      exact absurd q h3
    rcases Nat.lt_or_ge j (k - 1) with q | q
    · exact befE_trans ((List.pairwise_iff_getElem.1 hs) j (k - 1) (by omega) (by omega) q) h4
    have : j = k - 1 := by omega
    subst this; exact h4
  have hgt : ∀ e ∈ l.drop k, befE x e := fun e he => by
    obtain ⟨j, hj, rfl⟩ := List.mem_iff_getElem.1 he
    rw [List.length_drop] at hj
    rw [List.getElem_drop]
    have h3 := h1 (k + j) (by omega) (by omega)
    rw [befB_iff, decide_eq_true_eq, g4_cel (by omega : k + j < l.length)] at h3
    exact h3
  unfold putB
  rw [← hk]
  constructor
  · rw [List.append_assoc, List.pairwise_append]
    refine ⟨hs.sublist (List.take_sublist ..), ?_, fun a ha b hb => ?_⟩
    · rw [List.singleton_append, List.pairwise_cons]
      exact ⟨hgt, hs.sublist (List.drop_sublist ..)⟩
    rcases List.mem_append.1 hb with q | q
    · rw [List.mem_singleton.1 q]; exact hlt a ha
    exact befE_trans (hlt a ha) (hgt b q)
  have p1 : (l.take k ++ [x] ++ l.drop k).Perm ([x] ++ l.take k ++ l.drop k) := (List.perm_append_comm).append_right _
  refine p1.trans ?_
  rw [List.append_assoc, List.take_append_drop]; exact .refl _
theorem putB_srtE {acc : List T4} {x : T4} (hn : ((acc ++ [x]).map cel).Nodup) : putB (srtE acc) x = srtE (acc ++ [x]) := by
  have hn' := hn
  rw [List.map_append, List.nodup_append] at hn'
  have hx : cel x ∉ (srtE acc).map cel := fun h => by
    have := ((srtE_perm acc).map cel).mem_iff.1 h
    exact hn'.2.2 _ this _ (by simp) rfl
  obtain ⟨h1, h2⟩ := putB_srt (srtE_strict hn'.1) hx
  refine strict_eq h1 (srtE_strict hn) fun e => ?_
  rw [h2.mem_iff, (srtE_perm _).mem_iff, List.mem_cons, (srtE_perm acc).mem_iff, List.mem_append, List.mem_singleton]
  exact Or.comm
def gdA (l : List T4) : Prop := ∀ e ∈ l, gdB e.1 e.2.1 e.2.2.1 e.2.2.2 = true
theorem tlE_both {tx ty : Int} : ∀ (fu nx : Nat) (q : List Int) (acc : List T4), nx ≤ 256 → UnpI tx ty nx acc → gdA acc →
    (tlE putB tx ty fu nx q (srtE acc)).2 = (tlE adA tx ty fu nx q acc).2 ∧ ((tlE adA tx ty fu nx q acc).2 = 0 → (tlE putB tx ty fu nx q (srtE acc)).1 = srtE (tlE adA tx ty fu nx q acc).1 ∧ UnpI tx ty 256 (tlE adA tx ty fu nx q acc).1 ∧ gdA (tlE adA tx ty fu nx q acc).1 ∧ (tlE adA tx ty fu nx q acc).1.length ≤ acc.length + (256 - nx)) ∧ ((tlE adA tx ty fu nx q acc).2 ≠ 0 → (tlE putB tx ty fu nx q (srtE acc)).1 = [] ∧ (tlE adA tx ty fu nx q acc).1 = [])
  | 0, nx, q, acc, hn, hU, hg => ⟨rfl, fun _ => ⟨rfl, ⟨hU.nd, fun e he => by rcases hU.hm e he with k | k; exact .inl k; exact .inr ⟨k.1, by omega⟩⟩, hg, by show acc.length ≤ _; omega⟩, fun h => absurd rfl h⟩
  | fu + 1, nx, q, acc, hn, hU, hg => by
    by_cases h0 : q = []
    · rw [tlE, tlE, if_pos h0, if_pos h0]
      exact ⟨rfl, fun _ => ⟨rfl, ⟨hU.nd, fun e he => by rcases hU.hm e he with k | k; exact .inl k; exact .inr ⟨k.1, by omega⟩⟩, hg, by show acc.length ≤ _; omega⟩, fun h => absurd rfl h⟩
    by_cases h1 : (entR tx ty nx q).2.2.2 ≠ 0
    · rw [tlE, tlE, if_neg h0, if_neg h0, if_pos h1, if_pos h1]
      exact ⟨rfl, fun h => absurd h h1, fun _ => ⟨rfl, rfl⟩⟩
    rw [tlE, tlE, if_neg h0, if_neg h0, if_neg h1, if_neg h1]
    obtain ⟨n, hn1, hn2, hn3, -, -, -, hgd, hn8, -⟩ := entR_ok (Decidable.not_not.1 h1)
    have hU2 : UnpI tx ty (n + 1) (acc ++ [(entR tx ty nx q).1]) := hU.add hn1 hn2 (by rw [hn8]) (by rw [hn8])
    have hg2 : gdA (acc ++ [(entR tx ty nx q).1]) := fun e he => by
      rcases List.mem_append.1 he with k | k
      · exact hg e k
      rw [List.mem_singleton.1 k]; exact hgd
    have ih := tlE_both (tx := tx) (ty := ty) fu (entR tx ty nx q).2.1 (entR tx ty nx q).2.2.1 (acc ++ [(entR tx ty nx q).1]) (by omega) (by rw [hn3]; exact hU2) hg2
    rw [← putB_srtE hU2.nd] at ih
    show (tlE putB tx ty fu _ _ (putB (srtE acc) _)).2 = (tlE adA tx ty fu _ _ (acc ++ _)).2 ∧ _
    refine ⟨ih.1, fun h => ?_, ih.2.2⟩
    obtain ⟨a, b, c, d⟩ := ih.2.1 h
    refine ⟨a, b, c, ?_⟩
    rw [List.length_append, List.length_singleton, hn3] at d
    show (tlE adA tx ty fu _ _ (acc ++ _)).1.length ≤ _
    rw [hn3]; omega
/-- What holds of the entries of the tiles so far. -/
def pvI (pv : Option (Int × Int)) (acc : List T4) : Prop := match pv with | none => acc = [] | some q => UnpI q.1 q.2 256 acc
theorem pvI.inn {pv : Option (Int × Int)} {acc : List T4} {t : Tl} (h : pvI pv acc) (k : okT pv t = true) : UnpI t.x t.y 0 acc := by
  cases pv with
  | none => rw [show acc = [] from h]; exact UnpI.nil _ _
  | some q =>
    unfold okT at k
    rw [Bool.and_eq_true] at k
    exact UnpI.next h (of_decide_eq_true k.1)
theorem pvI.nd {pv : Option (Int × Int)} {acc : List T4} (h : pvI pv acc) : (acc.map cel).Nodup := by
  cases pv with
  | none => rw [show acc = [] from h]; simp
  | some q => exact UnpI.nd h
theorem unpF_c {ad : List T4 → T4 → List T4} {pv : Option (Int × Int)} {t : Tl} {ts : List Tl} {acc : List T4} (h1 : okT pv t = true) (h2 : t.d ≠ []) : unpF ad pv (t :: ts) acc = if (tlE ad t.x t.y t.d.length 0 t.d acc).2 ≠ 0 then ([], (tlE ad t.x t.y t.d.length 0 t.d acc).2) else unpF ad (some (t.x, t.y)) ts (tlE ad t.x t.y t.d.length 0 t.d acc).1 := by
  rw [unpF, if_neg (by rw [h1]; decide), if_neg h2]
theorem unpF_d {ad : List T4 → T4 → List T4} {pv : Option (Int × Int)} {t : Tl} {ts : List Tl} {acc : List T4} (h1 : okT pv t = true) (h2 : t.d = []) : unpF ad pv (t :: ts) acc = ([], 3) := by
  rw [unpF, if_neg (by rw [h1]; decide), if_pos h2]
theorem unpF_both : ∀ (ts : List Tl) (pv : Option (Int × Int)) (acc : List T4), pvI pv acc → gdA acc →
    (unpF putB pv ts (srtE acc)).2 = (unpF adA pv ts acc).2 ∧ ((unpF adA pv ts acc).2 = 0 → (unpF putB pv ts (srtE acc)).1 = srtE (unpF adA pv ts acc).1 ∧ ((unpF adA pv ts acc).1.map cel).Nodup ∧ gdA (unpF adA pv ts acc).1 ∧ (unpF adA pv ts acc).1.length ≤ acc.length + 256 * ts.length) ∧ ((unpF adA pv ts acc).2 ≠ 0 → (unpF putB pv ts (srtE acc)).1 = [] ∧ (unpF adA pv ts acc).1 = [])
  | [], pv, acc, hI, hg => ⟨rfl, fun _ => ⟨rfl, hI.nd, hg, by show acc.length ≤ _; omega⟩, fun h => absurd rfl h⟩
  | t :: ts, pv, acc, hI, hg => by
    cases h1 : okT pv t with
    | false => rw [unpF, unpF, if_pos h1, if_pos h1]; exact ⟨rfl, fun h => absurd h (by decide), fun _ => ⟨rfl, rfl⟩⟩
    | true =>
      by_cases h2 : t.d = []
      · rw [unpF_d h1 h2, unpF_d h1 h2]; exact ⟨rfl, fun h => absurd h (by decide), fun _ => ⟨rfl, rfl⟩⟩
      have hb := tlE_both (tx := t.x) (ty := t.y) t.d.length 0 t.d acc (by omega) (hI.inn h1) hg
      by_cases h3 : (tlE adA t.x t.y t.d.length 0 t.d acc).2 ≠ 0
      · rw [unpF_c h1 h2, unpF_c h1 h2, if_pos (by rw [hb.1]; exact h3), if_pos h3, hb.1]
        exact ⟨rfl, fun h => absurd h h3, fun _ => ⟨rfl, rfl⟩⟩
      rw [unpF_c h1 h2, unpF_c h1 h2, if_neg (by rw [hb.1]; exact h3), if_neg h3]
      obtain ⟨a, b, c, d⟩ := hb.2.1 (Decidable.not_not.1 h3)
      rw [a]
      have ih := unpF_both ts (some (t.x, t.y)) (tlE adA t.x t.y t.d.length 0 t.d acc).1 b c
      refine ⟨ih.1, fun h => ?_, ih.2.2⟩
      obtain ⟨a', b', c', d'⟩ := ih.2.1 h
      refine ⟨a', b', c', ?_⟩
      rw [List.length_cons]; omega
theorem unp_vld {ts : List Tl} (hl : ts.length ≤ 4000) : VldE (unpR ts).1 ∧ (unpR ts).1.length ≤ 256 * ts.length := by
  have h := unpF_both ts none [] rfl (fun e he => by cases he)
  unfold unpR
  by_cases q : (unpF adA none ts []).2 = 0
  · obtain ⟨-, b, c, d⟩ := h.2.1 q
    rw [List.length_nil] at d
    exact ⟨⟨by rw [srtE_len]; omega, fun e he => c e ((srtE_perm _).mem_iff.1 he), srtE_strict b⟩, by rw [srtE_len]; omega⟩
  rw [(h.2.2 q).2]
  exact ⟨VldE.nil, by show 0 ≤ _; omega⟩
/-- A tile's data, from a number on. -/
def datF (tx ty : Int) : Nat → List T4 → List Int
  | _, [] => []
  | nx, e :: l => if e.1 / 16 = tx ∧ e.2.1 / 16 = ty then (form (numI (e.1, e.2.1) - (nx : Int)).toNat ++ form (zig e.2.2.1) ++ form (zig e.2.2.2)) ++ datF tx ty (numI (e.1, e.2.1) + 1).toNat l else datF tx ty nx l
theorem bef_num {a b : T4} (h : befE a b) (h1 : a.1 / 16 = b.1 / 16) (h2 : a.2.1 / 16 = b.2.1 / 16) : numI (a.1, a.2.1) < numI (b.1, b.2.1) := by
  unfold befE befP at h; unfold numI; simp only at h ⊢; omega
theorem ints_t2 {k : IntKind} {a b : List Int} : List.take (a.length + b.length) (ints k a ++ ints k b) = ints k a ++ ints k b := List.take_of_length_le (by rw [List.length_append, ints_len, ints_len]; exact Nat.le_refl _)
theorem ints_t3 {k : IntKind} {a b c : List Int} : List.take (a.length + b.length + c.length) (ints k a ++ ints k b ++ ints k c) = ints k a ++ ints k b ++ ints k c := List.take_of_length_le (by rw [List.length_append, List.length_append, ints_len, ints_len, ints_len]; exact Nat.le_refl _)
theorem ints_t4 {k : IntKind} {a b c : List Int} : List.take (a.length + b.length + c.length) (ints k a ++ (ints k b ++ ints k c)) = ints k a ++ (ints k b ++ ints k c) := List.take_of_length_le (by rw [List.length_append, List.length_append, ints_len, ints_len, ints_len]; omega)
theorem ints_t5 {k : IntKind} {a b c : List Int} : List.take (a.length + (b.length + c.length)) (ints k a ++ (ints k b ++ ints k c)) = ints k a ++ (ints k b ++ ints k c) := List.take_of_length_le (by rw [List.length_append, List.length_append, ints_len, ints_len, ints_len]; omega)
/-- The numbers that are still to come. -/
def numOk (tx ty : Int) (nx : Nat) (l : List T4) : Prop := ∀ e ∈ l, e.1 / 16 = tx ∧ e.2.1 / 16 = ty → (nx : Int) ≤ numI (e.1, e.2.1)
theorem numOk.tail {tx ty : Int} {nx : Nat} {e : T4} {l : List T4} (h : numOk tx ty nx (e :: l)) : numOk tx ty nx l := fun x hx => h x (List.mem_cons_of_mem _ hx)
theorem numOk.next {tx ty : Int} {e : T4} {l : List T4} (ho : (e :: l).Pairwise befE) (he : e.1 / 16 = tx ∧ e.2.1 / 16 = ty) : numOk tx ty (numI (e.1, e.2.1) + 1).toNat l := fun x hx hc => by
  have hb := (List.pairwise_cons.1 ho).1 x hx
  have := bef_num hb (he.1.trans hc.1.symm) (he.2.trans hc.2.symm)
  have := numI_bd (e.1, e.2.1)
  omega
theorem numOk.zero {tx ty : Int} {l : List T4} : numOk tx ty 0 l := fun e _ _ => by have := numI_bd (e.1, e.2.1); omega
/-- The index of the first element with a property, or -1. -/
def idxI {α : Type} (p : α → Bool) (l : List α) : Int := if l.any p = true then ((l.findIdx p : Nat) : Int) else -1
theorem idxI_at {α : Type} {p : α → Bool} {l : List α} {i : Nat} (hi : i < l.length) (h0 : (l.take i).any p = false) (h1 : p l[i] = true) : idxI p l = (i : Int) := by
  have ha : l.any p = true := List.any_eq_true.2 ⟨l[i], List.getElem_mem hi, h1⟩
  have hf : l.findIdx p = i := (List.findIdx_eq hi).2 ⟨h1, fun j hj => by
    have := List.any_eq_false.1 h0 l[j] (by rw [List.mem_take_iff_getElem]; exact ⟨j, by omega, rfl⟩)
    simpa using this⟩
  unfold idxI; rw [if_pos ha, hf]
theorem idxI_none {α : Type} {p : α → Bool} {l : List α} (h : l.any p = false) : idxI p l = -1 := by
  unfold idxI; rw [if_neg (by simp [h])]
theorem idxI_any {α : Type} {p : α → Bool} {l : List α} : decide (0 ≤ idxI p l) = l.any p := by
  cases h : l.any p
  · rw [idxI_none h]; rfl
  unfold idxI; rw [if_pos h]; exact decide_eq_true (by omega)
theorem idxI_cases {α : Type} (p : α → Bool) (l : List α) : (idxI p l = -1 ∧ l.any p = false) ∨ ∃ i : Nat, ∃ hi : i < l.length, idxI p l = (i : Int) ∧ (l.take i).any p = false ∧ p l[i] = true := by
  cases h : l.any p
  · exact .inl ⟨idxI_none h, rfl⟩
  right
  have hl : l.findIdx p < l.length := List.findIdx_lt_length_of_exists (by simpa using h)
  have h1 : p l[l.findIdx p] = true := List.findIdx_getElem
  have h0 : (l.take (l.findIdx p)).any p = false := List.any_eq_false.2 fun x hx => by
    obtain ⟨j, hj, rfl⟩ := List.mem_take_iff_getElem.1 hx
    have := List.not_of_lt_findIdx (p := p) (xs := l) (i := j) (by omega)
    simpa using this
  exact ⟨_, hl, idxI_at hl h0 h1, h0, h1⟩
theorem pr_eq {l : List (Int × Int)} {j : Nat} (h : j < l.length) : (g1 l j, g2 l j) = l[j] := by
  simp [g1, g2, h, List.getD_eq_getElem?_getD]
theorem any_step {α : Type} {l : List α} {p : α → Bool} {i : Nat} (h : i < l.length) : (l.take (i + 1)).any p = ((l.take i).any p || p l[i]) := by
  rw [List.take_succ_eq_append_getElem h, List.any_append]; simp
theorem mvs_caps {n m : Nat} {sel : List Nat} {caps : List AV} (h : AV.bels n caps = true) : AV.mvs (sig n m sel) caps = caps := mvs_id (fun b hb => sig_lt hb) caps h
theorem bels_prs {n : Nat} : ∀ {l : List (Int × Int)}, AV.bels n (prs l) = true
  | [] => rfl
  | p :: l => by rw [prs_cons]; simp only [AV.bels, AV.bel, Bool.true_and]; exact bels_prs
theorem HBel.put {n : Nat} {H : AHeap} (h : HBel n H) (b : Nat) {x : ABlk} (hx : x.bel n = true) : HBel n (H.set b x) := fun c y hy => by
  rw [List.getElem?_set] at hy
  split at hy
  · split at hy
    · simp at hy; subst hy; exact hx
    cases hy
  exact h c y hy
theorem Abs.byS1 {H0 l1 : AHeap} {F1 F2 : Fr} {n : Nat} (hn : H0.length = n) (hsc : HBel n H0) (h : absF (n + l1.length) (sig n l1.length []) F1 F2) : Abs n (sig n l1.length []) F1 (H0 ++ l1) F2 H0 := by
  subst hn; exact Abs.byN hsc h
theorem Abs.by0e {H0 H2 : AHeap} {F1 F2 : Fr} (e : H2 = H0) (hsc : HBel H0.length H0) (h : absF H0.length (sig H0.length 0 []) F1 F2) : Abs H0.length (sig H0.length 0 []) F1 H0 F2 H2 := by
  subst e; exact Abs.by0 hsc h
theorem end_byS {P : Program} {fn : Func} {H0 : AHeap} {R : AV → AHeap → Prop} {F : Fr} {e : Exit} {n : Nat} (hn : H0.length = n) (he : e = .ret ∨ e = .normal) (hbel : HBel n H0) {x1 : AV} (x2 : AV) (hx : aResult P fn F H0 = some x1) (hR : R x2 H0) (h : W n x1 (x2.mv (sig n 0 []))) : AEnd P fn n R e F H0 := by
  subst hn
  exact end_byE (l2 := []) he hbel x2 hx [] rfl [] (by simp) (by rw [List.append_nil]; exact hR) ⟨h, trivial⟩
/-- What is left without the elements that have a property. -/
def delL {α : Type} (p : α → Bool) (l : List α) : List α := l.filter fun e => !p e
theorem delL_none {α : Type} {p : α → Bool} {l : List α} (h : l.any p = false) : delL p l = l := by
  unfold delL
  rw [List.filter_eq_self]
  intro a ha
  have := List.any_eq_false.1 h a ha
  simpa using this
theorem delL_step {α : Type} {p : α → Bool} {l : List α} {j : Nat} (h : j < l.length) : delL p (l.take (j + 1)) = delL p (l.take j) ++ (if p l[j] = true then [] else [l[j]]) := by
  unfold delL
  rw [List.take_succ_eq_append_getElem h, List.filter_append]
  congr 1
  cases hp : p l[j] <;> simp [hp]
theorem delL_le {α : Type} {p : α → Bool} {l : List α} : (delL p l).length ≤ l.length := List.length_filter_le _ _
/-- A call of a function without results, by its text. -/
theorem AcN {P : Program} (q : Bool) {f : FuncId} {fn : Func} {args : List AV} {R : AV → AHeap → Prop} {H : AHeap} (hf : P.funcs[f]? = some fn) {c : Code} (h : HBel H.length H → ∀ Q : Exit → Fr → AHeap → Prop, (∀ F H', AEnd P fn H.length R .normal F H' → Q .normal F H') → AGo P fn.ntmps H.length q Q [.code c] (argF 0 args) H)
    (hb : fn.body = some c := by rfl) (hm : P.follows .mixedOrders = true := by exact try_mixed) (ha : args.length ≤ fn.ntmps := by exact Nat.le_of_ble_eq_true (by kernel_rfl)) (hc : codeOk fn.ntmps q c = true := by kernel_rfl) : ACalls P f args H R :=
  ACalls_run hm hf q _ rfl ha (by rw [hb]; exact congrArg some hc) fun hbel Q _ hQ c' hc' => by
    rw [hb] at hc'
    injection hc' with hc'
    subst hc'
    exact h hbel Q hQ
theorem put_old {α : Type} {H l : List α} {x : α} {b : Nat} (h : b < H.length) : (H ++ l).set b x = H.set b x ++ l := List.set_append_left _ _ h
theorem put_put {α : Type} {H l : List α} {x y : α} {b : Nat} (h : b < H.length) : (H.set b x ++ l).set b y = H.set b y ++ l := by
  rw [put_old (by rw [List.length_set]; exact h), List.set_set]
theorem Abs0.put {n : Nat} {σ : Nat → Nat} {F1 F2 : Fr} {H1 H2 : AHeap} (h : Abs0 n σ F1 H1 F2 H2) (hs : ∀ c, n ≤ c → n ≤ σ c) (hi : ∀ b, σ b < H1.length → b < H2.length) (ho : ∀ (b : Nat) (x : ABlk), H2[b]? = some x → x.owned = true → ∃ x', H1[σ b]? = some x' ∧ x'.owned = true) {bf : Nat} (hb : bf < n) (hd : H1[bf]? = some .dead) (y : ABlk) : Abs0 n σ F1 (H1.set bf (y.mv σ)) F2 (H2.set bf y) := by
  have lt1 : bf < H1.length := getElem?_lt hd
  have lt2 : bf < H2.length := Nat.lt_of_lt_of_le hb h.len
  have hsb : ∀ c, c ≠ bf → σ c ≠ bf := fun c hc => by
    by_cases hcn : c < n
    · rw [h.small c hcn]; exact hc
    have := hs c (by omega); omega
  have own : ∀ (b : Nat) (x : ABlk), (H2.set bf y)[b]? = some x → x.owned = true → ∃ x', (H1.set bf (y.mv σ))[σ b]? = some x' ∧ x'.owned = true := fun b x hx ox => by
    by_cases e : bf = b
    · subst e
      rw [List.getElem?_set_self lt2] at hx; injection hx with hx; subst hx
      rw [h.small _ hb, List.getElem?_set_self lt1]
      exact ⟨_, rfl, by cases y <;> exact ox⟩
    rw [List.getElem?_set_ne e] at hx
    rw [List.getElem?_set_ne (hsb b (fun k => e k.symm)).symm]
    exact ho b x hx ox
  refine ⟨h.small, by rw [List.length_set]; exact h.len, fun E E' e1 e2 e3 t v hv => h.frame E E' (by rw [e1, List.length_set]) (by rw [e2, List.length_set]) e3 t v hv, fun E E' e1 e2 eB e3 w hw b x hx => ?_, fun b c x z hx hz ox oz hbc => ⟨?_, own b x hx ox, own c z hz oz⟩⟩
  · rw [List.length_set] at e1 e2
    by_cases e : bf = b
    · subst e
      rw [List.getElem?_set_self lt2] at hx; injection hx with hx; subst hx
      have k := hw bf _ (List.getElem?_set_self lt1)
      rw [e3, h.small _ hb]
      exact blk_mv eB e3 (fun b hb => by rw [e2]; exact hi b (by rw [← e1]; exact hb)) k
    rw [List.getElem?_set_ne e] at hx
    refine h.heap E E' e1 e2 eB e3 w (fun c z hz => ?_) b x hx
    by_cases e' : bf = c
    · subst e'; rw [hd] at hz; injection hz with hz; subst hz; trivial
    exact hw c z (by rw [List.getElem?_set_ne e']; exact hz)
  by_cases e : bf = b
  · subst e; rw [h.small _ hb]; exact (hsb c (fun k => hbc k.symm)).symm
  by_cases e' : bf = c
  · subst e'; rw [h.small _ hb]; exact hsb b (fun k => e k.symm)
  rw [List.getElem?_set_ne e] at hx
  rw [List.getElem?_set_ne e'] at hz
  exact (h.inj b c x z hx hz ox oz hbc).1
/-- A state that is seen as another one, where the caller's variable has been written. -/
theorem Abs.byP {H M l1 l2 : AHeap} {F1 F2 : Fr} {bf : Nat} {b1 : ABlk} (b2 : ABlk) (hbel : HBel H.length H) (hbf : bf < H.length) (hM : M = H.set bf b1 ++ l1) (G : AHeap) (hG : G.all phant = true) (sel : List Nat) (hnd : sel.Nodup)
    (h : absF (H.length + (l1 ++ G).length) (sig H.length (l1 ++ G).length sel) F1 F2 ∧ b1 = b2.mv (sig H.length (l1 ++ G).length sel) ∧ absH (H.length + (l1 ++ G).length) (sig H.length (l1 ++ G).length sel) (l1 ++ G) sel l2) : Abs H.length (sig H.length (l1 ++ G).length sel) F1 M F2 (H.set bf b2 ++ l2) := by
  subst hM
  obtain ⟨hF, hb, ha⟩ := h
  have hl := (absH_get ha).1
  have hH := (absH_get ha).2
  have hn : (H.set bf .dead).length = H.length := List.length_set
  have hbel2 : HBel H.length (H.set bf .dead) := fun b x hx => by
    by_cases e : bf = b
    · subst e; rw [List.getElem?_set_self hbf] at hx; injection hx with hx; subst hx; rfl
    rw [List.getElem?_set_ne e] at hx; exact hbel b x hx
  have k := Abs0.of (n := H.length) (H0 := H.set bf .dead) (l1 := l1 ++ G) (l2 := l2) (F1 := F1) (F2 := F2) hn hbel2 sel hnd (absF_mem hF) hl hH
  have small : ∀ b, b < H.length → sig H.length (l1 ++ G).length sel b = b := fun b hb => by simp [sig, hb]
  have k2 := k.put (bf := bf) (fun c hc => by
      unfold sig
      rw [if_neg (by omega)]
      split <;> omega) (fun b hb => by
      simp only [List.length_append, List.length_set] at hb ⊢
      unfold sig at hb
      split at hb
      · omega
      · split at hb
        · rename_i q; have := getElem?_lt q; omega
        omega) (fun b x hx ho => by
      by_cases hbn : b < H.length
      · rw [small b hbn, List.getElem?_append_left (by rw [hn]; exact hbn)]
        rw [List.getElem?_append_left (by rw [hn]; exact hbn)] at hx
        exact ⟨x, hx, ho⟩
      rw [List.getElem?_append_right (by rw [hn]; omega), hn] at hx
      have hlt := getElem?_lt hx
      have h1 : sel[b - H.length]? = some (sel[b - H.length]'(by omega)) := List.getElem?_eq_getElem _
      have h2 : sig H.length (l1 ++ G).length sel b = H.length + sel[b - H.length]'(by omega) := by unfold sig; rw [if_neg hbn, h1]
      rw [h2, List.getElem?_append_right (by rw [hn]; omega), hn, show ∀ i : Nat, H.length + i - H.length = i from fun i => by omega]
      rcases hH _ _ x h1 hx with rfl | h4 | h4
      · cases ho
      · exact ⟨_, h4, by cases x <;> exact ho⟩
      exact h4.own (by cases x <;> exact ho)) hbf (by rw [List.getElem?_append_left (by rw [hn]; exact hbf)]; exact List.getElem?_set_self hbf) b2
  rw [put_put hbf, put_put hbf, ← hb, ← List.append_assoc] at k2
  exact ⟨G, hG, k2⟩
/-- At the end of a function that has written its caller's variable, with new blocks. -/
theorem end_put {P : Program} {fn : Func} {H M l1 l2 : AHeap} {bf : Nat} {b1 : ABlk} (b2 : ABlk) {R : AV → AHeap → Prop} {F : Fr} {e : Exit} (he : e = .ret ∨ e = .normal) (hbel : HBel H.length H) (hbf : bf < H.length) (hM : M = H.set bf b1 ++ l1) {x1 : AV} (x2 : AV) (hx : aResult P fn F M = some x1) (G : AHeap) (hG : G.all phant = true) (sel : List Nat) (hnd : sel.Nodup) (hR : R x2 (H.set bf b2 ++ l2))
    (h : W (H.length + (l1 ++ G).length) x1 (x2.mv (sig H.length (l1 ++ G).length sel)) ∧ b1 = b2.mv (sig H.length (l1 ++ G).length sel) ∧ absH (H.length + (l1 ++ G).length) (sig H.length (l1 ++ G).length sel) (l1 ++ G) sel l2) : AEnd P fn H.length R e F M := by
  have kk := Abs.byP (F1 := [(0, x1)]) (F2 := [(0, x2)]) b2 hbel hbf hM G hG sel hnd ⟨⟨h.1, trivial⟩, h.2⟩
  rcases he with rfl | rfl
  · exact ⟨x1, hx, _, x2, _, hR, kk⟩
  exact ⟨x1, hx, _, x2, _, hR, kk⟩
theorem Abs0.le {n m : Nat} {σ : Nat → Nat} {F1 F2 : Fr} {H1 H2 : AHeap} (h : Abs0 m σ F1 H1 F2 H2) (hn : n ≤ m) : Abs0 n σ F1 H1 F2 H2 :=
  ⟨fun b hb => h.small b (Nat.lt_of_lt_of_le hb hn), Nat.le_trans hn h.len, h.frame, h.heap, h.inj⟩
theorem Abs.le {n m : Nat} {σ : Nat → Nat} {F1 F2 : Fr} {H1 H2 : AHeap} (h : Abs m σ F1 H1 F2 H2) (hn : n ≤ m) : Abs n σ F1 H1 F2 H2 := by
  obtain ⟨G, hG, k⟩ := h
  exact ⟨G, hG, k.le hn⟩
theorem AEnd.le {P : Program} {fn : Func} {n m : Nat} {R : AV → AHeap → Prop} {e : Exit} {F : Fr} {H : AHeap} (h : AEnd P fn m R e F H) (hn : n ≤ m) : AEnd P fn n R e F H := by
  cases e with
  | normal => obtain ⟨x1, hx, σ, x2, H2, hr, ha⟩ := h; exact ⟨x1, hx, σ, x2, H2, hr, ha.le hn⟩
  | ret => obtain ⟨x1, hx, σ, x2, H2, hr, ha⟩ := h; exact ⟨x1, hx, σ, x2, H2, hr, ha.le hn⟩
  | _ => exact h
theorem grow1 {H X G : AHeap} {b : Nat} {x : ABlk} (hG : G = H ++ X) (h : ∀ l : AHeap, (H ++ l)[b]? = some x) : G[b]? = some x := by subst hG; exact h _
mutual
theorem bel_up1 {n m : Nat} (hn : n ≤ m) : ∀ x : AV, x.bel n = true → x.bel m = true
  | .any, _ => rfl
  | .int _ _, _ => rfl
  | .bool _, _ => rfl
  | .str _, _ => rfl
  | .ptr none, _ => rfl
  | .ptr (some (b, o)), h => by simp [AV.bel] at h ⊢; omega
  | .sl none _ _, _ => rfl
  | .sl (some (b, o)) _ _, h => by simp [AV.bel] at h ⊢; omega
  | .mp none, _ => rfl
  | .mp (some b), h => by simp [AV.bel] at h ⊢; omega
  | .nilfn, _ => rfl
  | .fn f caps, h => by simp only [AV.bel] at h ⊢; exact bel_up hn caps h
  | .agg cs, h => by simp only [AV.bel] at h ⊢; exact bel_up hn cs h
  | .tup cs, h => by simp only [AV.bel] at h ⊢; exact bel_up hn cs h
theorem bel_up {n m : Nat} (hn : n ≤ m) : ∀ xs : List AV, AV.bels n xs = true → AV.bels m xs = true
  | [], _ => rfl
  | x :: r, h => by
    simp only [AV.bels, Bool.and_eq_true] at h ⊢
    exact ⟨bel_up1 hn x h.1, bel_up hn r h.2⟩
end
theorem ABlk.bel_up {n m : Nat} (hn : n ≤ m) {x : ABlk} (h : x.bel n = true) : x.bel m = true := by
  cases x with
  | dead => rfl
  | cells o e xs => exact Go.Proofs.Ytgfjhidfpjmmnaa.bel_up hn xs h
  | map es =>
    simp only [ABlk.bel, Bool.and_eq_true] at h ⊢
    exact ⟨Go.Proofs.Ytgfjhidfpjmmnaa.bel_up hn _ h.1, Go.Proofs.Ytgfjhidfpjmmnaa.bel_up hn _ h.2⟩
  | fmap es bs ck =>
    simp only [ABlk.bel, Bool.and_eq_true] at h ⊢
    exact ⟨Go.Proofs.Ytgfjhidfpjmmnaa.bel_up hn _ h.1, Go.Proofs.Ytgfjhidfpjmmnaa.bel_up hn _ h.2⟩
  | iter m bs sn ck =>
    simp only [ABlk.bel, decide_eq_true_eq] at h ⊢
    omega
theorem hbel_grow {H X G : AHeap} (hG : G = H ++ X) (hb : HBel H.length H) (hX : ∀ x ∈ X, x.bel G.length = true) : HBel G.length G := fun b x hx => by
  subst hG
  rcases Nat.lt_or_ge b H.length with q | q
  · rw [List.getElem?_append_left q] at hx
    exact ABlk.bel_up (by simp) (hb b x hx)
  rw [List.getElem?_append_right q] at hx
  exact hX x (List.mem_of_getElem? hx)
theorem bels_ints {n : Nat} {k : IntKind} : ∀ {l : List Int}, AV.bels n (ints k l) = true
  | [] => rfl
  | p :: l => by rw [ints_cons]; simp only [AV.bels, AV.bel, bels_ints (l := l), Bool.true_and]
theorem bels_app {n : Nat} : ∀ {a b : List AV}, AV.bels n (a ++ b) = (AV.bels n a && AV.bels n b)
  | [], b => by simp [AV.bels]
  | x :: a, b => by rw [List.cons_append]; simp only [AV.bels, bels_app (a := a), Bool.and_assoc]
/-- One block more. -/
theorem grow_bel {G X : AHeap} {x : ABlk} (h : ∀ y ∈ X, y.bel G.length = true) (hx : x.bel (G ++ [x]).length = true) : ∀ y ∈ X ++ [x], y.bel (G ++ [x]).length = true := fun y hy => by
  rcases List.mem_append.1 hy with q | q
  · exact ABlk.bel_up (by simp) (h y q)
  rw [List.mem_singleton.1 q]; exact hx
theorem grow_len {G : AHeap} {x : ABlk} : (G ++ [x]).length = G.length + 1 := by simp
theorem Abs.byX {n : Nat} {H0 l1 l2 : AHeap} {x : ABlk} {F1 F2 : Fr} (hn : n ≤ H0.length) (hsc : HBel H0.length H0) (G : AHeap) (hG : G.all phant = true) (sel : List Nat) (hnd : sel.Nodup) (h : absF (H0.length + (l1 ++ G).length) (sig H0.length (l1 ++ G).length sel) F1 F2 ∧ absH (H0.length + (l1 ++ G).length) (sig H0.length (l1 ++ G).length sel) (l1 ++ G) sel (x :: l2)) : Abs n (sig H0.length (l1 ++ G).length sel) F1 (H0 ++ l1) F2 ((H0 ++ [x]) ++ l2) := by
  have k := (Abs.byG hsc G hG sel hnd h).le hn
  have e : H0 ++ x :: l2 = (H0 ++ [x]) ++ l2 := by simp
  rw [← e]; exact k
theorem pre_trans {H G K X : AHeap} (h : ∃ X, G = H ++ X) (k : K = G ++ X) : ∃ X, K = H ++ X := by
  obtain ⟨Y, rfl⟩ := h
  exact ⟨Y ++ X, by rw [k, List.append_assoc]⟩
theorem pre_le {H G : AHeap} (h : ∃ X, G = H ++ X) : H.length ≤ G.length := by obtain ⟨X, rfl⟩ := h; simp
/-- Tiles whose data lie block behind block, from block n on. -/
def tls : Nat → List (Int × Int × List Int) → List Tl
  | _, [] => []
  | n, t :: r => ⟨t.1, t.2.1, .sl (some (n, 0)) t.2.2.length none, t.2.2⟩ :: tls (n + 1) r
def tlb (t : Int × Int × List Int) : ABlk := .cells true 1 (ints .u8 t.2.2)
def tl3 (t : Tl) : Int × Int × List Int := (t.x, t.y, t.d)
theorem tls_nil {n : Nat} : tlR (tls n []) = [] := rfl
theorem tls_tl3 : ∀ {n : Nat} {ts : List (Int × Int × List Int)}, (tls n ts).map tl3 = ts
  | _, [] => rfl
  | n, t :: r => by rw [tls, List.map_cons, tls_tl3]; rfl
theorem tls_length : ∀ {n : Nat} {ts : List (Int × Int × List Int)}, (tls n ts).length = ts.length
  | _, [] => rfl
  | n, t :: r => by simp only [tls, List.length_cons, tls_length]
theorem tls_len {n : Nat} {ts : List (Int × Int × List Int)} : (tlR (tls n ts)).length = ts.length * 3 := by rw [tlR_len, tls_length]
theorem tls_ones : ∀ {n : Nat} {ts : List (Int × Int × List Int)}, (tlR (tls n ts)).all AV.one = true
  | _, [] => rfl
  | n, t :: r => by
    simp only [tls, tlR_cons, List.all_append, tls_ones, Bool.and_true]
    rfl
theorem tls_app : ∀ {n : Nat} {ts us : List (Int × Int × List Int)}, tls n (ts ++ us) = tls n ts ++ tls (n + ts.length) us
  | n, [], us => rfl
  | n, t :: r, us => by
    rw [List.cons_append]
    simp only [tls, tls_app (n := n + 1) (ts := r), List.length_cons, List.cons_append]
    rw [show n + 1 + r.length = n + (r.length + 1) by omega]
theorem tls_snoc {n : Nat} {ts : List (Int × Int × List Int)} {t : Int × Int × List Int} : tlR (tls n (ts ++ [t])) = tlR (tls n ts) ++ [.int .i64 t.1, .int .i64 t.2.1, .sl (some (n + ts.length, 0)) t.2.2.length none] := by
  rw [tls_app, tlR_append]; rfl
theorem mvs_appT {σ : Nat → Nat} : ∀ {a b : List AV}, AV.mvs σ (a ++ b) = AV.mvs σ a ++ AV.mvs σ b
  | [], b => rfl
  | x :: a, b => by simp only [List.cons_append, AV.mvs, mvs_appT]
theorem mvs_tls {m k : Nat} {sel : List Nat} : ∀ {n : Nat} {ts : List (Int × Int × List Int)}, n + ts.length ≤ m → AV.mvs (sig m k sel) (tlR (tls n ts)) = tlR (tls n ts)
  | _, [], _ => rfl
  | n, t :: r, h => by
    simp only [List.length_cons] at h
    have ih := mvs_tls (m := m) (k := k) (sel := sel) (n := n + 1) (ts := r) (by omega)
    have hs := sig_lt (n := m) (m := k) (sel := sel) (b := n) (by omega)
    simp only [tls, tlR_cons, mvs_appT, ih, tlC, AV.mvs, AV.mv, hs]
theorem bels_tls {m : Nat} : ∀ {n : Nat} {ts : List (Int × Int × List Int)}, n + ts.length ≤ m → AV.bels m (tlR (tls n ts)) = true
  | _, [], _ => rfl
  | n, t :: r, h => by
    simp only [List.length_cons] at h
    have ih := bels_tls (m := m) (n := n + 1) (ts := r) (by omega)
    have hs : n < m := by omega
    simp only [tls, tlR_cons, bels_app, ih, tlC, AV.bels, AV.bel, hs, decide_true, Bool.and_true]
theorem tlb_get {H K : AHeap} {ts : List (Int × Int × List Int)} {i : Nat} (h : i < ts.length) : (H ++ (ts.map tlb ++ K))[H.length + i]? = some (tlb ts[i]) := by
  rw [List.getElem?_append_right (by omega), Nat.add_sub_cancel_left, List.getElem?_append_left (by simpa using h), List.getElem?_map, List.getElem?_eq_getElem h]
  rfl
theorem tls_get : ∀ {n : Nat} {ts : List (Int × Int × List Int)} {i : Nat} (h : i < ts.length), (tls n ts)[i]? = some ⟨ts[i].1, ts[i].2.1, .sl (some (n + i, 0)) ts[i].2.2.length none, ts[i].2.2⟩
  | n, t :: r, 0, _ => rfl
  | n, t :: r, i + 1, h => by
    have := tls_get (n := n + 1) (ts := r) (i := i) (by simpa using h)
    rw [show n + 1 + i = n + (i + 1) by omega] at this
    exact this
/-- Tiles that fit: bytes, and not too many of them. -/
def tsOk (ts : List (Int × Int × List Int)) : Prop := ∀ t ∈ ts, t.2.2.length ≤ 1000000000 ∧ ∀ c ∈ t.2.2, 0 ≤ c ∧ c ≤ 255
theorem tls_ok {H K : AHeap} {ts : List (Int × Int × List Int)} (h : tsOk ts) : tlOk (H ++ (ts.map tlb ++ K)) (tls H.length ts) := fun e he => by
  obtain ⟨i, hi, rfl⟩ := List.mem_iff_getElem.1 he
  rw [tls_length] at hi
  have k := tls_get (n := H.length) hi
  rw [List.getElem?_eq_getElem (by rw [tls_length]; exact hi), Option.some.injEq] at k
  rw [k]
  exact ⟨⟨H.length + i, true, none, rfl, tlb_get hi⟩, h _ (List.getElem_mem hi)⟩
/-- A tile's place is put into places in order. -/
def homI (t : Int × Int) : List (Int × Int) → List (Int × Int)
  | [] => [t]
  | a :: r => if befP a t then a :: homI t r else if a = t then a :: r else t :: a :: r
def homs (l : List T4) : List (Int × Int) := l.foldl (fun T e => homI (e.1 / 16, e.2.1 / 16) T) []
/-- The tiles of entries. -/
def packL (l : List T4) : List (Int × Int × List Int) := (homs l).map fun t => (t.1, t.2, datF t.1 t.2 0 l)
theorem homI_mem {t x : Int × Int} : ∀ {T : List (Int × Int)}, x ∈ homI t T ↔ x = t ∨ x ∈ T
  | [] => by simp [homI]
  | a :: r => by
    unfold homI
    split
    · rw [List.mem_cons, homI_mem (T := r), List.mem_cons]
      exact ⟨fun h => by rcases h with h | h | h; exact .inr (.inl h); exact .inl h; exact .inr (.inr h), fun h => by rcases h with h | h | h; exact .inr (.inl h); exact .inl h; exact .inr (.inr h)⟩
    split
    · rename_i h; subst h; simp
    simp
theorem homI_len {t : Int × Int} : ∀ {T : List (Int × Int)}, (homI t T).length ≤ T.length + 1
  | [] => Nat.le_refl _
  | a :: r => by
    have := homI_len (t := t) (T := r)
    unfold homI
    repeat' split
    all_goals simp only [List.length_cons]
    all_goals omega
section
variable {t : Int × Int} {T : List (Int × Int)} {u : Nat} (h : homI t T = T.take u ++ homI t (T.drop u)) (hu : u < T.length)
include h hu
end
theorem homs_mem {t : Int × Int} : ∀ {l : List T4}, t ∈ homs l ↔ ∃ e ∈ l, (e.1 / 16, e.2.1 / 16) = t := by
  have key : ∀ (l : List T4) (T : List (Int × Int)), t ∈ l.foldl (fun T e => homI (e.1 / 16, e.2.1 / 16) T) T ↔ t ∈ T ∨ ∃ e ∈ l, (e.1 / 16, e.2.1 / 16) = t := by
    intro l
    induction l with
    | nil => intro T; simp
    | cons e l ih =>
      intro T
      rw [List.foldl_cons, ih, homI_mem]
      constructor
      · rintro ((k | k) | ⟨x, hx, k⟩)
        · exact .inr ⟨e, List.mem_cons_self .., k.symm⟩
        · exact .inl k
        exact .inr ⟨x, List.mem_cons_of_mem _ hx, k⟩
      rintro (k | ⟨x, hx, k⟩)
      · exact .inl (.inr k)
      rcases List.mem_cons.1 hx with q | q
      · subst q; exact .inl (.inl k.symm)
      exact .inr ⟨x, q, k⟩
  intro l
  have := key l []
  simpa [homs] using this
theorem homs_len : ∀ {l : List T4}, (homs l).length ≤ l.length := by
  have key : ∀ (l : List T4) (T : List (Int × Int)), (l.foldl (fun T e => homI (e.1 / 16, e.2.1 / 16) T) T).length ≤ T.length + l.length := by
    intro l
    induction l with
    | nil => intro T; simp
    | cons e l ih =>
      intro T
      have h1 := ih (homI (e.1 / 16, e.2.1 / 16) T)
      have h2 := homI_len (t := (e.1 / 16, e.2.1 / 16)) (T := T)
      rw [List.foldl_cons, List.length_cons]; omega
  intro l
  have := key l []
  simpa [homs] using this
theorem datF_pos {tx ty : Int} : ∀ {l : List T4} {nx : Nat}, (∃ e ∈ l, (e.1 / 16, e.2.1 / 16) = (tx, ty)) → 0 < (datF tx ty nx l).length
  | [], _, h => by obtain ⟨e, he, -⟩ := h; cases he
  | a :: l, nx, h => by
    unfold datF
    split
    · have := form_pos (numI (a.1, a.2.1) - (nx : Int)).toNat
      simp only [List.length_append]; omega
    rename_i hn
    refine datF_pos ?_
    obtain ⟨e, he, k⟩ := h
    rcases List.mem_cons.1 he with q | q
    · subst q; exact absurd ⟨congrArg (·.1) k, congrArg (·.2) k⟩ hn
    exact ⟨e, q, k⟩
theorem rdU_f {n : Nat} (h : n < 2 ^ 64) (r : List Int) : rdU 0 0 (form n ++ r) = (n, r, 0) := by
  have := rdU_form n 0 0 r (by simpa using h) (fun q => absurd q (Nat.lt_irrefl _)) (by omega)
  simpa using this
theorem rdI_f {n : Int} (h : -9223372036854775808 ≤ n ∧ n ≤ 9223372036854775807) (r : List Int) : rdI (form (zig n) ++ r) = (n, r, 0) := by
  unfold rdI
  rw [rdU_f (zig_bd h)]
  rw [if_pos rfl, zag_zig]
/-- Whether a cell lies in a tile. -/
def inT (tx ty : Int) (e : T4) : Bool := decide (e.1 / 16 = tx ∧ e.2.1 / 16 = ty)
theorem entR_dat {tx ty : Int} {nx : Nat} {e : T4} {rest : List Int} (hg : gdB e.1 e.2.1 e.2.2.1 e.2.2.2 = true) (ht : e.1 / 16 = tx ∧ e.2.1 / 16 = ty) (hn : (nx : Int) ≤ numI (e.1, e.2.1)) :
    entR tx ty nx ((form (numI (e.1, e.2.1) - (nx : Int)).toNat ++ form (zig e.2.2.1) ++ form (zig e.2.2.2)) ++ rest) = (e, (numI (e.1, e.2.1) + 1).toNat, rest, 0) := by
  have hb := numI_bd (e.1, e.2.1)
  have hG := gdB_iff.1 hg
  have e64 : (2 : Nat) ^ 64 = 18446744073709551616 := by decide
  have r1 : rdU 0 0 ((form (numI (e.1, e.2.1) - (nx : Int)).toNat ++ form (zig e.2.2.1) ++ form (zig e.2.2.2)) ++ rest) = ((numI (e.1, e.2.1) - (nx : Int)).toNat, form (zig e.2.2.1) ++ (form (zig e.2.2.2) ++ rest), 0) := by
    rw [List.append_assoc, List.append_assoc]
    exact rdU_f (by omega) _
  have r2 : rdI (form (zig e.2.2.1) ++ (form (zig e.2.2.2) ++ rest)) = (e.2.2.1, form (zig e.2.2.2) ++ rest, 0) := rdI_f (by omega) _
  have r3 : rdI (form (zig e.2.2.2) ++ rest) = (e.2.2.2, rest, 0) := rdI_f (by omega) _
  have hnum : nx + (numI (e.1, e.2.1) - (nx : Int)).toNat = (numI (e.1, e.2.1)).toNat := by omega
  have hx : 16 * tx + (((numI (e.1, e.2.1)).toNat % 16 : Nat) : Int) = e.1 := by unfold numI at *; simp only at *; omega
  have hy : 16 * ty + (((numI (e.1, e.2.1)).toNat / 16 : Nat) : Int) = e.2.1 := by unfold numI at *; simp only at *; omega
  have k := entR_7 (tx := tx) (ty := ty) (nx := nx) (b := (form (numI (e.1, e.2.1) - (nx : Int)).toNat ++ form (zig e.2.2.1) ++ form (zig e.2.2.2)) ++ rest)
  simp only [r1, r2, r3, hnum, hx, hy] at k
  rw [k (by trivial) (by trivial) (by trivial) (by omega) (by rw [Bool.and_eq_true, within_iff, within_iff]; exact ⟨hG.1, hG.2.1⟩) (by rw [Bool.and_eq_true, within_iff, within_iff]; exact ⟨hG.2.2.2.1, hG.2.2.2.2⟩)]
  have : (numI (e.1, e.2.1)).toNat + 1 = (numI (e.1, e.2.1) + 1).toNat := by omega
  rw [this]
theorem tlE_dat {tx ty : Int} : ∀ (l : List T4) (fu nx : Nat) (acc : List T4), (∀ e ∈ l, gdB e.1 e.2.1 e.2.2.1 e.2.2.2 = true) → l.Pairwise befE → numOk tx ty nx l → (datF tx ty nx l).length ≤ fu → tlE adA tx ty fu nx (datF tx ty nx l) acc = (acc ++ l.filter (inT tx ty), 0)
  | [], fu, nx, acc, _, _, _, _ => by rw [tlE_z (by rfl)]; simp
  | e :: l, fu, nx, acc, hg, ho, hn, hf => by
    have hgl : ∀ x ∈ l, gdB x.1 x.2.1 x.2.2.1 x.2.2.2 = true := fun x hx => hg x (List.mem_cons_of_mem _ hx)
    rw [List.filter_cons]
    by_cases ht : e.1 / 16 = tx ∧ e.2.1 / 16 = ty
    · have hin : inT tx ty e = true := decide_eq_true ht
      rw [if_pos hin]
      have hd : datF tx ty nx (e :: l) = (form (numI (e.1, e.2.1) - (nx : Int)).toNat ++ form (zig e.2.2.1) ++ form (zig e.2.2.2)) ++ datF tx ty (numI (e.1, e.2.1) + 1).toNat l := by rw [datF, if_pos ht]
      have hE := entR_dat (rest := datF tx ty (numI (e.1, e.2.1) + 1).toNat l) (hg e (List.mem_cons_self ..)) ht (hn e (List.mem_cons_self ..) ht)
      rw [← hd] at hE
      have hp : 0 < (datF tx ty nx (e :: l)).length := by
        rw [hd]
        have := form_pos (numI (e.1, e.2.1) - (nx : Int)).toNat
        simp only [List.length_append]; omega
      rw [tlE_s hf hp (by rw [hE]), hE]
      have hl : (datF tx ty (numI (e.1, e.2.1) + 1).toNat l).length < (datF tx ty nx (e :: l)).length := by
        rw [hd]
        have := form_pos (numI (e.1, e.2.1) - (nx : Int)).toNat
        simp only [List.length_append]; omega
      have ih := tlE_dat (tx := tx) (ty := ty) l (fu - 1) (numI (e.1, e.2.1) + 1).toNat (adA acc e) hgl (List.pairwise_cons.1 ho).2 (numOk.next ho ht) (by omega)
      show tlE adA tx ty (fu - 1) (numI (e.1, e.2.1) + 1).toNat (datF tx ty (numI (e.1, e.2.1) + 1).toNat l) (adA acc e) = _
      rw [ih]
      unfold adA
      rw [List.append_assoc]; rfl
    have hin : inT tx ty e = false := decide_eq_false ht
    rw [if_neg (by rw [hin]; decide)]
    have hd : datF tx ty nx (e :: l) = datF tx ty nx l := by rw [datF, if_neg ht]
    rw [hd] at hf ⊢
    exact tlE_dat l fu nx acc hgl (List.pairwise_cons.1 ho).2 hn.tail hf
theorem homI_strict {t : Int × Int} : ∀ {T : List (Int × Int)}, T.Pairwise befP → (homI t T).Pairwise befP
  | [], _ => by unfold homI; simp
  | a :: r, h => by
    rw [List.pairwise_cons] at h
    unfold homI
    split
    · rename_i hb
      rw [List.pairwise_cons]
      refine ⟨fun y hy => ?_, homI_strict h.2⟩
      rcases homI_mem.1 hy with q | q
      · rw [q]; exact hb
      exact h.1 y q
    rename_i hb
    split
    · rw [List.pairwise_cons]; exact h
    rename_i hne
    have hta : befP t a := by
      rcases befP_tri a t with k | k | k
      · exact absurd k hb
      · exact absurd k hne
      exact k
    rw [List.pairwise_cons, List.pairwise_cons]
    refine ⟨fun y hy => ?_, h⟩
    rcases List.mem_cons.1 hy with q | q
    · rw [q]; exact hta
    exact befP_trans hta (h.1 y q)
theorem homs_strict (l : List T4) : (homs l).Pairwise befP := by
  have key : ∀ (l : List T4) (T : List (Int × Int)), T.Pairwise befP → (l.foldl (fun T e => homI (e.1 / 16, e.2.1 / 16) T) T).Pairwise befP := by
    intro l
    induction l with
    | nil => intro T h; exact h
    | cons e l ih => intro T h; exact ih _ (homI_strict h)
  exact key l [] .nil
/-- The entries tile by tile. -/
def byT (l : List T4) (T : List (Int × Int)) : List T4 := T.flatMap fun t => l.filter (inT t.1 t.2)
theorem unpF_dat {l : List T4} (hV : VldE l) : ∀ (T : List (Int × Int)) (ts : List Tl) (pv : Option (Int × Int)) (acc : List T4), (∀ t ∈ T, ∃ e ∈ l, (e.1 / 16, e.2.1 / 16) = t) → T.Pairwise befP → (∀ q, pv = some q → ∀ t ∈ T, befP q t) → ts.map tl3 = T.map (fun t => (t.1, t.2, datF t.1 t.2 0 l)) → unpF adA pv ts acc = (acc ++ byT l T, 0)
  | [], ts, pv, acc, _, _, _, h => by
    obtain rfl : ts = [] := by simpa using h
    simp [unpF, byT]
  | t :: T, ts, pv, acc, hm, hs, hq, h => by
    cases ts with
    | nil => simp at h
    | cons u ts =>
      rw [List.map_cons, List.map_cons, List.cons.injEq] at h
      obtain ⟨h1, h2⟩ := h
      have ux : u.x = t.1 := congrArg (·.1) h1
      have uy : u.y = t.2 := congrArg (·.2.1) h1
      have ud : u.d = datF t.1 t.2 0 l := congrArg (·.2.2) h1
      rw [List.pairwise_cons] at hs
      obtain ⟨e, he, hc⟩ := hm t (List.mem_cons_self ..)
      have hg := gdB_iff.1 (hV.good e he)
      have c1 : e.1 / 16 = t.1 := congrArg (·.1) hc
      have c2 : e.2.1 / 16 = t.2 := congrArg (·.2) hc
      have hok : okT pv u = true := by
        unfold okT
        rw [Bool.and_eq_true, Bool.and_eq_true, within_iff, within_iff, ux, uy]
        refine ⟨?_, by omega, by omega⟩
        cases pv with
        | none => rfl
        | some q => exact decide_eq_true (hq q rfl t (List.mem_cons_self ..))
      have hd : u.d ≠ [] := fun q => by
        have := datF_pos (nx := 0) (hm t (List.mem_cons_self ..))
        rw [← ud, q] at this; simp at this
      have hT : tlE adA u.x u.y u.d.length 0 u.d acc = (acc ++ l.filter (inT t.1 t.2), 0) := by
        rw [ux, uy, ud]
        exact tlE_dat l _ 0 acc hV.good hV.ord numOk.zero (Nat.le_refl _)
      rw [unpF_c hok hd, hT, if_neg (by simp)]
      have ih := unpF_dat hV T ts (some (u.x, u.y)) (acc ++ l.filter (inT t.1 t.2)) (fun x hx => hm x (List.mem_cons_of_mem _ hx)) hs.2 (fun q hq' x hx => by
        rw [Option.some.injEq] at hq'
        rw [← hq', ux, uy]; exact hs.1 x hx) h2
      rw [ih]
      unfold byT
      rw [List.flatMap_cons, List.append_assoc]
theorem byT_mem {l : List T4} {T : List (Int × Int)} {e : T4} : e ∈ byT l T ↔ e ∈ l ∧ (e.1 / 16, e.2.1 / 16) ∈ T := by
  unfold byT
  rw [List.mem_flatMap]
  constructor
  · rintro ⟨t, ht, h⟩
    rw [List.mem_filter] at h
    have := of_decide_eq_true (show decide _ = true from h.2)
    exact ⟨h.1, by rw [this.1, this.2]; exact ht⟩
  rintro ⟨h, ht⟩
  exact ⟨_, ht, List.mem_filter.2 ⟨h, decide_eq_true ⟨rfl, rfl⟩⟩⟩
theorem byT_nd {l : List T4} (hn : (l.map cel).Nodup) : ∀ {T : List (Int × Int)}, T.Pairwise befP → ((byT l T).map cel).Nodup
  | [], _ => by simp [byT]
  | t :: T, h => by
    rw [List.pairwise_cons] at h
    unfold byT
    rw [List.flatMap_cons, List.map_append, List.nodup_append]
    refine ⟨hn.sublist (List.filter_sublist.map cel), byT_nd hn h.2, fun a ha b hb q => ?_⟩
    obtain ⟨x, hx, rfl⟩ := List.mem_map.1 ha
    obtain ⟨y, hy, rfl⟩ := List.mem_map.1 hb
    have h1 := of_decide_eq_true (show decide _ = true from (List.mem_filter.1 hx).2)
    have h2 := (byT_mem (T := T)).1 hy
    have e1 : x.1 = y.1 := congrArg (·.1) q
    have e2 : x.2.1 = y.2.1 := congrArg (·.2) q
    have := h.1 _ h2.2
    rw [← e1, ← e2, h1.1, h1.2] at this
    exact befP_irr this
/-- What is packed is unpacked again. -/
theorem unp_pack {l : List T4} (hV : VldE l) {ts : List Tl} (h : ts.map tl3 = packL l) : unpR ts = (l, 0) := by
  have k := unpF_dat hV (homs l) ts none [] (fun t ht => homs_mem.1 ht) (homs_strict l) (fun q hq => by cases hq) h
  unfold unpR
  rw [k]
  refine Prod.ext ?_ rfl
  show srtE ([] ++ byT l (homs l)) = l
  rw [List.nil_append]
  have hn := byT_nd (strict_nodup hV.ord) (homs_strict l)
  refine strict_eq (srtE_strict hn) hV.ord fun e => ?_
  rw [(srtE_perm _).mem_iff, byT_mem]
  exact ⟨fun q => q.1, fun q => ⟨q, homs_mem.2 ⟨e, q, rfl⟩⟩⟩
/-- Lists that are packed in the same way are the same. -/
theorem pack_inj {a b : List T4} (ha : VldE a) (hb : VldE b) (h : packL a = packL b) : a = b := by
  have h1 := unp_pack ha (ts := tls 0 (packL a)) tls_tl3
  have h2 := unp_pack hb (ts := tls 0 (packL a)) (by rw [tls_tl3, h])
  rw [h1] at h2
  exact congrArg (·.1) h2
set_option maxRecDepth 100000 in
theorem idx_ent (H : AHeap) (s : AV) (l : List T4) (hs : Sl H 4 s l.length (r4 l)) (hl : l.length ≤ 1000000000) (g : FuncId) (caps : List AV) (hok : okFn Try.prog g = true) (hc : AV.bels H.length caps = true) (p : T4 → Bool) (hf : ∀ j, j < l.length → ACalls Try.prog g (.agg [.int .i64 (g41 l j), .int .i64 (g42 l j), .int .i64 (g43 l j), .int .i64 (g44 l j)] :: caps) H (fun v H' => v = .bool (p (g41 l j, g42 l j, g43 l j, g44 l j)) ∧ H' = H)) :
    ACalls Try.prog 108 [s, .fn g caps] H (fun v H' => v = .int .i64 (idxI p l) ∧ H' = H) := by
  obtain ⟨b, own, cap, rfl, hb⟩ := hs
  have hbl := getElem?_lt hb
  have hmv := fun m sel => mvs_caps (n := H.length) (m := m) (sel := sel) hc
  (refine ACalls_run try_mixed Try.func108 true _ rfl (Nat.le_of_ble_eq_true (by kernel_rfl)) (by kernel_rfl) ?_; intro hbel Q hQ hQ' c hc; unfold Try.f108 at hc; simp only [Option.some.injEq] at hc; subst hc; clear hQ')
  simp -implicitDefEqProofs (disch := omega) only [simprocAttr, amset, tyset, Function.comp_apply, one1, lenV, calleeOf, lateOk, belowV, aop, AV.ofValue, AV.ofCell, AV.cells, AV.flat, AV.one, arep, aBin, aAppend, aConv]
  refine glp (fun k F Hx => ∃ i : Nat, i + k = l.length ∧ (l.take i).any p = false ∧ F = [(0, .sl (some (b, 0)) l.length none), (1, .fn g caps), (7, .int .i64 l.length), (8, .int .i64 (i : Nat))] ∧ Hx = H) l.length ?_ ?_
  · refine ⟨_, _, _, ⟨0, by omega, rfl, rfl, rfl⟩, Abs.by0 hbel ?_⟩
    exact absWf @hmv
  rintro k F Hx ⟨i, hik, ht, rfl, rfl⟩ J hJ
  by_cases hi : i < l.length
  · have hii : (i : Int) < (l.length : Int) := by omega
    have q1 := r4_load hi
    have hg := g4_eq hi
    simp -implicitDefEqProofs (disch := omega) only [hii, hb, q1, r4_len, r4_one, simprocAttr, amset, tyset, Function.comp_apply, one1, lenV, calleeOf, lateOk, belowV, aop, AV.ofValue, AV.ofCell, AV.cells, AV.flat, AV.one, arep, aBin, aAppend, aConv]
    iterate 2 refine And.intro (by omega) ?_
    refine call_v hok (hf i hi) ?_
    have hst := any_step (p := p) hi
    rw [ht, Bool.false_or, ← hg] at hst
    cases h1 : p (g41 l i, g42 l i, g43 l i, g44 l i)
    · rw [h1] at hst
      simp -implicitDefEqProofs (disch := omega) only [h1, simprocAttr, amset, tyset, Function.comp_apply, one1, lenV, calleeOf, lateOk, belowV, aop, AV.ofValue, AV.ofCell, AV.cells, AV.flat, AV.one, arep, aBin, aAppend, aConv]
      refine hJ _ _ ⟨k - 1, by omega, _, _, _, ⟨i + 1, by omega, hst, rfl, rfl⟩, Abs.by0 hbel ?_⟩
      exact absWf @hmv
    simp -implicitDefEqProofs (disch := omega) only [h1, simprocAttr, amset, tyset, Function.comp_apply, one1, lenV, calleeOf, lateOk, belowV, aop, AV.ofValue, AV.ofCell, AV.cells, AV.flat, AV.one, arep, aBin, aAppend, aConv]
    exact eQ hQ hbel (.int .i64 (i : Nat)) Try.results108 ⟨by rw [idxI_at hi ht (by rw [← hg]; exact h1)], rfl⟩
  have hnn : ¬ ((i : Int) < (l.length : Int)) := by omega
  simp -implicitDefEqProofs (disch := omega) only [hnn, simprocAttr, amset, tyset, Function.comp_apply, one1, lenV, calleeOf, lateOk, belowV, aop, AV.ofValue, AV.ofCell, AV.cells, AV.flat, AV.one, arep, aBin, aAppend, aConv]
  rw [List.take_of_length_le (by omega)] at ht
  exact eQ hQ hbel (.int .i64 (-1)) Try.results108 ⟨by rw [idxI_none ht], rfl⟩
theorem has_ent (H : AHeap) (s : AV) (l : List T4) (hs : Sl H 4 s l.length (r4 l)) (hl : l.length ≤ 1000000000) (g : FuncId) (caps : List AV) (hok : okFn Try.prog g = true) (hc : AV.bels H.length caps = true) (p : T4 → Bool) (hf : ∀ j, j < l.length → ACalls Try.prog g (.agg [.int .i64 (g41 l j), .int .i64 (g42 l j), .int .i64 (g43 l j), .int .i64 (g44 l j)] :: caps) H (fun v H' => v = .bool (p (g41 l j, g42 l j, g43 l j, g44 l j)) ∧ H' = H)) :
    ACalls Try.prog 88 [s, .fn g caps] H (fun v H' => v = .bool (l.any p) ∧ H' = H) := by
  have key := idx_ent H s l hs hl g caps hok hc p hf
  obtain ⟨b, own, cap, rfl, hb⟩ := hs
  have hbl := getElem?_lt hb
  (refine ACalls_run try_mixed Try.func88 true _ rfl (Nat.le_of_ble_eq_true (by kernel_rfl)) (by kernel_rfl) ?_; intro hbel Q hQ hQ' c hc; unfold Try.f88 at hc; simp only [Option.some.injEq] at hc; subst hc; clear hQ')
  simp -implicitDefEqProofs (disch := omega) only [simprocAttr, amset, tyset, Function.comp_apply, one1, lenV, calleeOf, lateOk, belowV, aop, AV.ofValue, AV.ofCell, AV.cells, AV.flat, AV.one, arep, aBin, aAppend, aConv]
  refine call_v (by kernel_rfl) key ?_
  simp -implicitDefEqProofs (disch := omega) only [simprocAttr, amset, tyset, Function.comp_apply, one1, lenV, calleeOf, lateOk, belowV, aop, AV.ofValue, AV.ofCell, AV.cells, AV.flat, AV.one, arep, aBin, aAppend, aConv]
  exact eQ hQ hbel (.bool (decide (0 ≤ idxI p l))) Try.results88 ⟨by rw [idxI_any], rfl⟩
theorem bels_r4 {n : Nat} : ∀ {l : List T4}, AV.bels n (r4 l) = true
  | [] => rfl
  | p :: l => by rw [r4_cons]; simp only [AV.bels, AV.bel, Bool.true_and]; exact bels_r4
theorem r4_set : ∀ {l : List T4} {j : Nat} {a b c d : Int}, j < l.length → ((((r4 l).set (j * 4) (.int .i64 a)).set (j * 4 + 1) (.int .i64 b)).set (j * 4 + 2) (.int .i64 c)).set (j * 4 + 3) (.int .i64 d) = r4 (l.set j (a, b, c, d))
  | [], j, _, _, _, _, h => by simp at h
  | p :: l, 0, _, _, _, _, _ => by simp [r4_cons]
  | p :: l, j + 1, a, b, c, d, h => by
    have ih := r4_set (l := l) (j := j) (a := a) (b := b) (c := c) (d := d) (by simpa using h)
    have k : (j + 1) * 4 = j * 4 + 1 + 1 + 1 + 1 := by omega
    rw [r4_cons, k]
    simp only [List.set_cons_succ]
    rw [r4_cons, ← ih]
theorem r4_rep {m : Nat} : r4 (List.replicate m (0, 0, 0, 0)) = (List.range (m * 4)).map fun j => ([.int .i64 0, .int .i64 0, .int .i64 0, .int .i64 0] : List AV).getD (j % 4) .any := by
  induction m with
  | zero => rfl
  | succ m ih =>
    have e : List.replicate (m + 1) ((0 : Int), (0 : Int), (0 : Int), (0 : Int)) = List.replicate m (0, 0, 0, 0) ++ [(0, 0, 0, 0)] := by rw [List.replicate_succ']
    rw [e, r4_append, ih, Nat.succ_mul, show m * 4 + 4 = m * 4 + 1 + 1 + 1 + 1 by omega, List.range_succ, List.range_succ, List.range_succ, List.range_succ]
    simp only [List.map_append]
    have e1 : m * 4 % 4 = 0 := by omega
    have e2 : (m * 4 + 1) % 4 = 1 := by omega
    have e3 : (m * 4 + 1 + 1) % 4 = 2 := by omega
    have e4 : (m * 4 + 1 + 1 + 1) % 4 = 3 := by omega
    simp [r4_cons, r4_nil, e1, e2, e3, e4]
theorem splice_r4 {l ys : List T4} {i : Nat} (h : i + ys.length = l.length) : splice (r4 l) (i * 4) (r4 ys) = r4 (l.take i ++ ys) := by
  rw [splice_tail _ _ _ (by rw [r4_len, r4_len]; omega), r4_take, r4_append]
def padE (n : Nat) (l : List T4) : List T4 := l ++ List.replicate (n - l.length) (0, 0, 0, 0)
set_option maxRecDepth 100000 in
theorem del_ent (H : AHeap) (b : Nat) (cap : Option Nat) (l : List T4) (hb : H[b]? = some (.cells (ownG l.length) 4 (r4 l))) (hl : l.length ≤ 1000000000) (g : FuncId) (caps : List AV) (hok : okFn Try.prog g = true) (hc : AV.bels H.length caps = true) (p : T4 → Bool)
    (hf : ∀ (X : List T4) (e : T4) (L : AHeap), e ∈ l → ACalls Try.prog g (.agg [.int .i64 e.1, .int .i64 e.2.1, .int .i64 e.2.2.1, .int .i64 e.2.2.2] :: caps) (H.set b (.cells (ownG l.length) 4 (r4 X)) ++ L) (fun v H' => v = .bool (p e) ∧ H' = H.set b (.cells (ownG l.length) 4 (r4 X)) ++ L)) :
    ACalls Try.prog 105 [.sl (some (b, 0)) l.length cap, .fn g caps] H (fun v H' => v = .sl (some (b, 0)) (delL p l).length none ∧ H' = H.set b (.cells (ownG l.length) 4 (r4 (padE l.length (delL p l))))) := by
  have hbl := getElem?_lt hb
  have hset : ∀ X L, (H.set b X ++ L)[b]? = some X := fun X L => by rw [List.getElem?_append_left (by simpa using hbl), List.getElem?_set_self hbl]
  have hset0 : ∀ X, (H.set b X)[b]? = some X := fun X => List.getElem?_set_self hbl
  have hself : H.set b (.cells (ownG l.length) 4 (r4 l)) = H := by
    refine List.ext_getElem? fun i => ?_
    rw [List.getElem?_set]
    split
    · rename_i e; subst e; first | exact hb.symm | (rw [if_pos hbl]; exact hb.symm)
    rfl
  have hmv := fun m sel => mvs_caps (n := H.length) (m := m) (sel := sel) hc
  have key := idx_ent H (.sl (some (b, 0)) l.length cap) l ⟨b, _, cap, rfl, hb⟩ hl g caps hok hc p (fun j hj => by
    have := hf l (g41 l j, g42 l j, g43 l j, g44 l j) [] (by rw [g4_eq hj]; exact List.getElem_mem hj)
    rw [List.append_nil, hself] at this
    exact this)
  (refine ACalls_run try_mixed Try.func105 true _ rfl (Nat.le_of_ble_eq_true (by kernel_rfl)) (by kernel_rfl) ?_; intro hbel Q hQ hQ' c hc; unfold Try.f105 at hc; simp only [Option.some.injEq] at hc; subst hc; clear hQ')
  simp -implicitDefEqProofs (disch := omega) only [simprocAttr, amset, tyset, Function.comp_apply, one1, lenV, calleeOf, lateOk, belowV, aop, AV.ofValue, AV.ofCell, AV.cells, AV.flat, AV.one, arep, aBin, aAppend, aConv]
  refine call_v (by kernel_rfl) key ?_
  rcases idxI_cases p l with ⟨h1, h2⟩ | ⟨i, hi, h1, h2, h3⟩
  · rw [h1]
    simp -implicitDefEqProofs (disch := omega) only [simprocAttr, amset, tyset, Function.comp_apply, one1, lenV, calleeOf, lateOk, belowV, aop, AV.ofValue, AV.ofCell, AV.cells, AV.flat, AV.one, arep, aBin, aAppend, aConv]
    have e : H.set b (.cells (ownG l.length) 4 (r4 (padE l.length (delL p l)))) = H := by rw [delL_none h2]; simp [padE, hself]
    exact hQ _ _ (end_byE (.inl rfl) hbel (x1 := .sl (some (b, 0)) l.length cap) (l2 := []) (.sl (some (b, 0)) (delL p l).length none) (resT Try.results105) [] rfl [] (by decide) ⟨rfl, by rw [List.append_nil, e]⟩ (by rw [delL_none h2]; exact absW))
  rw [h1]
  have hne : ((i : Int) == -1) = false := beq_eq_false_iff_ne.2 (by omega)
  have hown : ownG l.length = true := ownG_p (by omega)
  rw [hown] at hb hf hself
  simp -implicitDefEqProofs (disch := omega) only [hne, simprocAttr, amset, tyset, Function.comp_apply, one1, lenV, calleeOf, lateOk, belowV, aop, AV.ofValue, AV.ofCell, AV.cells, AV.flat, AV.one, arep, aBin, aAppend, aConv]
  have hd0 : delL p (l.take (i + 1)) = l.take i := by rw [delL_step hi, if_pos h3, List.append_nil, delL_none h2]
  have hdi : (delL p (l.take (i + 1))).length = i := by rw [hd0, List.length_take]; omega
  refine glp (fun k F Hx => ∃ (j : Nat) (X : List T4), j + k = l.length ∧ (delL p (l.take j)).length < j ∧ X.length = l.length ∧ X.take (delL p (l.take j)).length = delL p (l.take j) ∧ X.drop j = l.drop j ∧ F = [(0, .sl (some (b, 0)) l.length cap), (1, .fn g caps), (5, .int .i64 (((delL p (l.take j)).length : Nat) : Int)), (6, .int .i64 ((j : Nat) : Int))] ∧ Hx = H.set b (.cells true 4 (r4 X))) (l.length - (i + 1)) ?_ ?_
  · refine ⟨_, _, _, ⟨i + 1, l, by omega, by rw [hdi]; omega, rfl, by rw [hd0, List.length_take, Nat.min_eq_left (by omega)], rfl, rfl, rfl⟩, Abs.by0e hself hbel ?_⟩
    exact absWf (jn @hdi @hmv)
  rintro k F Hx ⟨j, X, hjk, hij, hXl, hXt, hXd, rfl, rfl⟩ J hJ
  obtain ⟨G, hG⟩ : ∃ G, G = H.set b (.cells true 4 (r4 X)) := ⟨_, rfl⟩
  have hGl : G.length = H.length := by rw [hG, List.length_set]
  have hG1 : ∀ L, (G ++ L)[b]? = some (.cells true 4 (r4 X)) := fun L => by rw [hG]; exact hset _ _
  have hG0 : G[b]? = some (.cells true 4 (r4 X)) := by rw [hG]; exact hset0 _
  have hbG : b < G.length := by omega
  have hGs : ∀ Y L, (G ++ L).set b Y = H.set b Y ++ L := fun Y L => by rw [List.set_append_left _ _ hbG, hG, List.set_set]
  have hcall := fun e L => hf X e L
  rw [← hG] at hcall ⊢
  have hbelG : HBel H.length G := by rw [hG]; exact HBel.put hbel b bels_r4
  obtain ⟨n, hn⟩ : ∃ n, n = (delL p (l.take j)).length := ⟨_, rfl⟩
  have hnj : n < j := by rw [hn]; exact hij
  rw [← hn] at hXt ⊢
  by_cases hj : j < l.length
  · have hjj : (j : Int) < (l.length : Int) := by omega
    have hXj : X[j]'(by omega) = l[j] := by
      have := congrArg (fun m => m[0]?) hXd
      simpa [hj, hXl] using this
    have q1 := r4_load (l := X) (j := j) (by omega)
    have hg := g4_eq (l := X) (j := j) (by omega)
    simp -implicitDefEqProofs (disch := omega) only [hjj, hG1, hG0, q1, r4_len, r4_one, simprocAttr, amset, tyset, Function.comp_apply, one1, lenV, calleeOf, lateOk, belowV, aop, AV.ofValue, AV.ofCell, AV.cells, AV.flat, AV.one, arep, aBin, aAppend, aConv]
    iterate 2 refine And.intro (by omega) ?_
    refine call_v hok (hcall (g41 X j, g42 X j, g43 X j, g44 X j) _ (by rw [hg, hXj]; exact List.getElem_mem hj)) ?_
    have hst := delL_step (p := p) hj
    rw [← hXj, ← hg] at hst
    cases h5 : p (g41 X j, g42 X j, g43 X j, g44 X j)
    · rw [h5, if_neg Bool.false_ne_true] at hst
      have hl5 : (delL p (l.take (j + 1))).length = n + 1 := by rw [hst, List.length_append, hn]; rfl
      have hnX : n < X.length := by omega
      have hp2 := r4_set (a := g41 X j) (b := g42 X j) (c := g43 X j) (d := g44 X j) hnX
      simp -implicitDefEqProofs (disch := omega) only [h5, hG1, hG0, hGs, hp2, r4_len, r4_one, simprocAttr, amset, tyset, Function.comp_apply, one1, lenV, calleeOf, lateOk, belowV, aop, AV.ofValue, AV.ofCell, AV.cells, AV.flat, AV.one, arep, aBin, aAppend, aConv]
      iterate 2 refine And.intro (by omega) ?_
      refine hJ _ _ ⟨k - 1, by omega, _, _, _, ⟨j + 1, X.set n (g41 X j, g42 X j, g43 X j, g44 X j), by omega, by rw [hl5]; omega, by rw [List.length_set]; exact hXl, ?_, ?_, rfl, rfl⟩, Abs.byS1 (by rw [List.length_set]) (HBel.put hbel b bels_r4) ?_⟩
      · rw [hl5, hst, List.take_succ_eq_append_getElem (by rw [List.length_set]; exact hnX), List.getElem_set_self, List.take_set_of_le (Nat.le_refl _), hXt]
      · rw [List.drop_set_of_lt (by omega), ← List.drop_drop, hXd, List.drop_drop]
      exact absWf (jn @hl5 (jn @hmv (jn @Int.natCast_add @Int.natCast_one)))
    rw [h5, if_pos rfl, List.append_nil] at hst
    have hl5 : (delL p (l.take (j + 1))).length = n := by rw [hst, hn]
    simp -implicitDefEqProofs (disch := omega) only [h5, simprocAttr, amset, tyset, Function.comp_apply, one1, lenV, calleeOf, lateOk, belowV, aop, AV.ofValue, AV.ofCell, AV.cells, AV.flat, AV.one, arep, aBin, aAppend, aConv]
    refine hJ _ _ ⟨k - 1, by omega, _, _, _, ⟨j + 1, X, by omega, by rw [hl5]; omega, hXl, by rw [hst, ← hn]; exact hXt, by rw [← List.drop_drop, hXd, List.drop_drop], rfl, hG⟩, Abs.byS1 hGl hbelG ?_⟩
    exact absWf (jn @hl5 @hmv)
  have hjj : ¬ ((j : Int) < (l.length : Int)) := by omega
  have hrep := (r4_rep (m := l.length - n)).symm
  have hne0 : (l.length - n == 0) = false := beq_eq_false_iff_ne.2 (by omega)
  have hspl := splice_r4 (l := X) (ys := List.replicate (l.length - n) (0, 0, 0, 0)) (i := n) (by rw [List.length_replicate]; omega)
  have hGs0 : ∀ Y, G.set b Y = H.set b Y := fun Y => by rw [hG, List.set_set]
  rw [hXt] at hspl
  simp -implicitDefEqProofs (disch := omega) only [hjj, hG1, hG0, hrep, hne0, hspl, hGs0, r4_len, r4_one, List.length_replicate, hset0, simprocAttr, amset, tyset, Function.comp_apply, one1, lenV, calleeOf, lateOk, belowV, aop, AV.ofValue, AV.ofCell, AV.cells, AV.flat, AV.one, arep, aBin, aAppend, aConv]
  refine ⟨by omega, ⟨by omega, .inl (Nat.le_refl _)⟩, by omega, by omega, ⟨by omega, .inl (by omega)⟩, ?_⟩
  obtain rfl : j = l.length := by omega
  rw [List.take_length] at hn ⊢
  refine hQ _ _ (end_byS (by rw [List.length_set]) (.inl rfl) (HBel.put hbel b bels_r4) (x1 := .sl (some (b, 0)) (n - 0) (Option.map (fun x => x - 0) cap)) (.sl (some (b, 0)) (delL p l).length none) (resT Try.results105) ⟨rfl, by rw [hown, hn]; rfl⟩ ?_)
  exact absWf (jn @hn @Nat.sub_zero)
/-- A part of a list: its tile, where it lies, what it holds. -/
structure Pt where
  x : Int
  y : Int
  b : Nat
  l : List T4
def pkv (p : Pt) : AV := .sl (some (p.b, 0)) p.l.length none
def pkE (p : Pt) : AV × AV := (.agg [.int .i64 p.x, .int .i64 p.y], pkv p)
def pE (ps : List Pt) : List (AV × AV) := ps.map pkE
def fdQ : List Pt → Int → Int → Option (Nat × Pt)
  | [], _, _ => none
  | p :: r, x, y => bif ((x == p.x) && ((y == p.y) && true)) then some (0, p) else (fdQ r x y).map fun q => (q.1 + 1, q.2)
theorem fdQ_some : ∀ {ps : List Pt} {x y : Int} {q : Nat × Pt}, fdQ ps x y = some q → ps[q.1]? = some q.2 ∧ q.2.x = x ∧ q.2.y = y
  | [], _, _, _, h => by cases h
  | p :: r, x, y, q, h => by
    unfold fdQ at h
    cases hb : ((x == p.x) && ((y == p.y) && true)) with
    | true =>
      rw [hb] at h
      simp only [cond_true, Option.some.injEq] at h
      subst h
      simp only [Bool.and_true, Bool.and_eq_true, beq_iff_eq] at hb
      exact ⟨rfl, hb.1.symm, hb.2.symm⟩
    | false =>
      rw [hb] at h
      simp only [cond_false, Option.map_eq_some_iff] at h
      obtain ⟨q', hq, rfl⟩ := h
      exact fdQ_some (ps := r) hq
theorem fdQ_none : ∀ {ps : List Pt} {x y : Int}, fdQ ps x y = none → ∀ p ∈ ps, ¬ (p.x = x ∧ p.y = y)
  | [], _, _, _, p, hp => by cases hp
  | a :: r, x, y, h, p, hp => by
    unfold fdQ at h
    cases hb : ((x == a.x) && ((y == a.y) && true)) with
    | true => rw [hb] at h; cases h
    | false =>
      rw [hb] at h
      simp only [cond_false, Option.map_eq_none_iff] at h
      rcases List.mem_cons.1 hp with q | q
      · rintro ⟨h1, h2⟩
        subst q
        rw [h1, h2] at hb
        simp at hb
      exact fdQ_none h p q
section
variable {P : Program} {kt : TypeId}
theorem find_pE (hE : ∀ a b c d : Int, aEq P 20 kt [.int .i64 a, .int .i64 b] [.int .i64 c, .int .i64 d] = some ((a == c) && ((b == d) && true))) (x y : Int) : ∀ ps : List Pt, aFind P kt [.int .i64 x, .int .i64 y] (pE ps) = some ((fdQ ps x y).map fun q => (q.1, pkv q.2))
  | [] => rfl
  | p :: r => by
    show (aEq P 20 kt [.int .i64 x, .int .i64 y] [.int .i64 p.x, .int .i64 p.y]).bind _ = _
    rw [hE]
    have ih := find_pE hE x y r
    unfold pE at ih
    rw [Option.bind_some, show fdQ (p :: r) x y = bif ((x == p.x) && ((y == p.y) && true)) then some (0, p) else (fdQ r x y).map fun q => (q.1 + 1, q.2) from rfl]
    cases ((x == p.x) && ((y == p.y) && true)) with
    | true => rfl
    | false =>
      simp only [cond_false, ih, Option.map_some, Option.map_map]
      rfl
end
section
variable {P : Program} {t kt et : TypeId} (hT : tMap P t = some (kt, et)) (hE : ∀ a b c d : Int, aEq P 20 kt [.int .i64 a, .int .i64 b] [.int .i64 c, .int .i64 d] = some ((a == c) && ((b == d) && true)))
include hT hE
theorem lk_pE (hz : tZeroOk P et = true) (h0 : zeroAV P et = some (.sl none 0 (some 0))) (ps : List Pt) (x y : Int) : lkM P t (some (.map (pE ps))) (.agg [.int .i64 x, .int .i64 y]) = some (match fdQ ps x y with | some q => pkv q.2 | none => .sl none 0 (some 0)) := by
  unfold lkM
  simp only [hT, Option.bind_some, key_mblk hE, find_pE hE, hz, need, if_true, h0, Option.map_some]
  cases fdQ ps x y <;> rfl
end
theorem HBel.app {n : Nat} {H L : AHeap} (h : HBel n H) (hL : ∀ x ∈ L, ABlk.bel n x = true) : HBel n (H ++ L) := fun b x hx => by
  rcases Nat.lt_or_ge b H.length with q | q
  · rw [List.getElem?_append_left q] at hx; exact h b x hx
  rw [List.getElem?_append_right q] at hx; exact hL x (List.mem_of_getElem? hx)
theorem HBel.up {n m : Nat} {H : AHeap} (h : HBel n H) (hn : n ≤ m) : HBel m H := fun b x hx => ABlk.bel_up hn (h b x hx)
/-- A map of parts in memory, and the places in order. -/
structure PkI (H G : AHeap) (bm bo : Nat) (ps : List Pt) (ord : List (Int × Int)) : Prop where
  len : H.length ≤ G.length
  pre : ∀ b, b < H.length → G[b]? = H[b]?
  bel : HBel G.length G
  lm : H.length ≤ bm
  lo : H.length ≤ bo
  hm : G[bm]? = some (.map (pE ps))
  ho : G[bo]? = some (.cells (ownG ord.length) 2 (prs ord))
  hp : ∀ (i : Nat) (p : Pt), ps[i]? = some p → H.length ≤ p.b ∧ 0 < p.l.length ∧ G[p.b]? = some (.cells true 4 (r4 p.l))
  inj : ∀ (i j : Nat) (p q : Pt), ps[i]? = some p → ps[j]? = some q → p.b = q.b → i = j
theorem bels_of {n : Nat} : ∀ {l : List AV}, (∀ x ∈ l, AV.bel n x = true) → AV.bels n l = true
  | [], _ => rfl
  | x :: l, h => by
    simp only [AV.bels, Bool.and_eq_true]
    exact ⟨h x (List.mem_cons_self ..), bels_of fun y hy => h y (List.mem_cons_of_mem _ hy)⟩
theorem bel_es {n : Nat} {es : List (AV × AV)} {bs : List Nat} {ck : Nat} (h : ∀ p ∈ es, AV.bel n p.1 = true ∧ AV.bel n p.2 = true) : ABlk.bel n (.map es) = true ∧ ABlk.bel n (.fmap es bs ck) = true := by
  have h1 : AV.bels n (es.map (·.1)) = true := bels_of fun x hx => by
    obtain ⟨p, hp, rfl⟩ := List.mem_map.1 hx
    exact (h p hp).1
  have h2 : AV.bels n (es.map (·.2)) = true := bels_of fun x hx => by
    obtain ⟨p, hp, rfl⟩ := List.mem_map.1 hx
    exact (h p hp).2
  constructor
  · show (AV.bels n (es.map (·.1)) && AV.bels n (es.map (·.2))) = true
    rw [h1, h2]; rfl
  show (AV.bels n (es.map (·.1)) && AV.bels n (es.map (·.2))) = true
  rw [h1, h2]; rfl
theorem pE_bel {n : Nat} {ps : List Pt} (h : ∀ p ∈ ps, p.b < n) : ∀ e ∈ pE ps, AV.bel n e.1 = true ∧ AV.bel n e.2 = true := fun e he => by
  unfold pE at he
  obtain ⟨p, hp, rfl⟩ := List.mem_map.1 he
  refine ⟨rfl, ?_⟩
  show decide (p.b < n) = true
  exact decide_eq_true (h p hp)
/-- The next round's memory. -/
theorem PkI.step {H G M : AHeap} {bm bo bo' : Nat} {ps ps' : List Pt} {ord ord' : List (Int × Int)} (I : PkI H G bm bo ps ord) (ex : Nat → Prop) (hex : ∀ c, ex c → H.length ≤ c) (hlen : G.length ≤ M.length) (hkeep : ∀ c x, c ≠ bo → c ≠ bm → ¬ ex c → G[c]? = some x → M[c]? = some x) (hbel : HBel M.length M)
    (hlo : H.length ≤ bo') (hm : M[bm]? = some (.map (pE ps'))) (ho : M[bo']? = some (.cells (ownG ord'.length) 2 (prs ord')))
    (hp : ∀ (i : Nat) (p : Pt), ps'[i]? = some p → H.length ≤ p.b ∧ 0 < p.l.length ∧ M[p.b]? = some (.cells true 4 (r4 p.l))) (inj : ∀ (i j : Nat) (p q : Pt), ps'[i]? = some p → ps'[j]? = some q → p.b = q.b → i = j) : PkI H M bm bo' ps' ord' := by
  refine ⟨Nat.le_trans I.len hlen, fun b hb => ?_, hbel, I.lm, hlo, hm, ho, hp, inj⟩
  have hlo0 := I.lo
  have hlm0 := I.lm
  have hbG : b < G.length := Nat.lt_of_lt_of_le hb I.len
  rw [← I.pre b hb, List.getElem?_eq_getElem hbG]
  exact hkeep b _ (by omega) (by omega) (fun q => by have := hex b q; omega) (List.getElem?_eq_getElem hbG)
theorem PkI.pne {H G : AHeap} {bm bo : Nat} {ps : List Pt} {ord : List (Int × Int)} (I : PkI H G bm bo ps ord) {i : Nat} {p : Pt} (h : ps[i]? = some p) : p.b ≠ bo ∧ p.b ≠ bm ∧ p.b < G.length := by
  obtain ⟨h1, h2, h3⟩ := I.hp i p h
  refine ⟨fun e => ?_, fun e => ?_, getElem?_lt h3⟩
  · rw [e, I.ho] at h3
    have := Option.some.inj h3
    cases ord <;> simp at this
  rw [e, I.hm] at h3; cases h3
theorem PkI.blt {H G : AHeap} {bm bo : Nat} {ps : List Pt} {ord : List (Int × Int)} (I : PkI H G bm bo ps ord) : ∀ p ∈ ps, p.b < G.length := fun p hp => by
  obtain ⟨i, hi⟩ := List.mem_iff_getElem?.1 hp
  exact (I.pne hi).2.2
/-- What the parts hold: the entries of the tiles, in order. -/
structure PkC (ps : List Pt) (ord : List (Int × Int)) (m : List T4) : Prop where
  hk : ps.map (fun p => (p.x, p.y)) = ord
  hn : ord.Nodup
  hf : ∀ p ∈ ps, p.l = m.filter (inT p.x p.y)
  ha : ∀ e ∈ m, (e.1 / 16, e.2.1 / 16) ∈ ord
theorem PkC.nil : PkC [] [] [] := ⟨rfl, by simp, fun p h => (by cases h), fun e h => (by cases h)⟩
theorem PkC.len {ps : List Pt} {ord : List (Int × Int)} {m : List T4} (h : PkC ps ord m) {p : Pt} (hp : p ∈ ps) : p.l.length ≤ m.length := by
  rw [h.hf p hp]; exact List.length_filter_le _ _
theorem PkC.new {ps : List Pt} {ord : List (Int × Int)} {m : List T4} (h : PkC ps ord m) {e : T4} {px py : Int} (b : Nat) (hx : px = e.1 / 16) (hy : py = e.2.1 / 16) (hf : fdQ ps px py = none) : PkC (ps ++ [⟨px, py, b, [e]⟩]) (ord ++ [(px, py)]) (m ++ [e]) := by
  have hno := fdQ_none hf
  have hnot : (px, py) ∉ ord := fun q => by
    rw [← h.hk] at q
    obtain ⟨p, hp, k⟩ := List.mem_map.1 q
    exact hno p hp ⟨congrArg (·.1) k, congrArg (·.2) k⟩
  have hin : ∀ x y, inT x y e = decide (px = x ∧ py = y) := fun x y => by unfold inT; rw [hx, hy]
  refine ⟨by rw [List.map_append, h.hk]; rfl, ?_, fun p hp => ?_, fun a ha => ?_⟩
  · rw [List.nodup_append]
    exact ⟨h.hn, by simp, fun a ha b hb q => hnot (by rw [← List.mem_singleton.1 hb, ← q]; exact ha)⟩
  · rw [List.filter_append]
    rcases List.mem_append.1 hp with q | q
    · have : inT p.x p.y e = false := by rw [hin]; exact decide_eq_false fun k => hno p q ⟨k.1.symm, k.2.symm⟩
      rw [List.filter_cons, this, if_neg (by decide), List.filter_nil, List.append_nil]
      exact h.hf p q
    rw [List.mem_singleton.1 q]
    have h1 : inT px py e = true := by rw [hin]; exact decide_eq_true ⟨rfl, rfl⟩
    have h2 : m.filter (inT px py) = [] := List.filter_eq_nil_iff.2 fun a ha k => by
      have k2 := of_decide_eq_true (show decide _ = true from k)
      have := h.ha a ha
      rw [k2.1, k2.2] at this
      exact hnot this
    show [e] = m.filter (inT px py) ++ [e].filter (inT px py)
    rw [h2, List.filter_cons, h1, if_pos rfl]; rfl
  rw [List.mem_append]
  rcases List.mem_append.1 ha with q | q
  · exact .inl (h.ha a q)
  right; rw [List.mem_singleton.1 q, hx, hy]; exact List.mem_singleton.2 rfl
theorem PkC.more {ps : List Pt} {ord : List (Int × Int)} {m : List T4} (h : PkC ps ord m) {e : T4} {px py : Int} (b : Nat) (hx : px = e.1 / 16) (hy : py = e.2.1 / 16) {j : Nat} {p : Pt} (hj : ps[j]? = some p) (h1 : p.x = px) (h2 : p.y = py) : PkC (ps.set j ⟨px, py, b, p.l ++ [e]⟩) ord (m ++ [e]) := by
  have hjl := getElem?_lt hj
  have hin : ∀ x y, inT x y e = decide (px = x ∧ py = y) := fun x y => by unfold inT; rw [hx, hy]
  have hpm := List.mem_of_getElem? hj
  refine ⟨?_, h.hn, fun q hq => ?_, fun a ha => ?_⟩
  · rw [← h.hk]
    refine List.ext_getElem? fun i => ?_
    rw [List.getElem?_map, List.getElem?_map, List.getElem?_set]
    split
    · rename_i k; subst k
      try rw [if_pos hjl]
      rw [hj, ← h1, ← h2]; rfl
    rfl
  · rw [List.filter_append]
    obtain ⟨i, hi⟩ := List.mem_iff_getElem?.1 hq
    rw [List.getElem?_set] at hi
    split at hi
    · rename_i k
      try rw [if_pos hjl] at hi
      rw [Option.some.injEq] at hi
      subst hi
      have t1 : inT px py e = true := by rw [hin]; exact decide_eq_true ⟨rfl, rfl⟩
      show p.l ++ [e] = m.filter (inT px py) ++ [e].filter (inT px py)
      rw [List.filter_cons, t1, if_pos rfl, h.hf p hpm, h1, h2]; rfl
    rename_i k
    have hqm := List.mem_of_getElem? hi
    have hne : ¬ (px = q.x ∧ py = q.y) := fun r => by
      have e1 : (ps.map fun p => (p.x, p.y))[i]? = some (px, py) := by rw [List.getElem?_map, hi]; simp [r.1, r.2]
      have e2 : (ps.map fun p => (p.x, p.y))[j]? = some (px, py) := by rw [List.getElem?_map, hj]; simp [h1, h2]
      rw [h.hk] at e1 e2
      have := (List.getElem?_inj (getElem?_lt e1) h.hn).1 (e1.trans e2.symm)
      exact k this.symm
    rw [List.filter_cons, show inT q.x q.y e = false by rw [hin]; exact decide_eq_false hne, if_neg (by decide), List.filter_nil, List.append_nil]
    exact h.hf q hqm
  rcases List.mem_append.1 ha with q | q
  · exact h.ha a q
  rw [List.mem_singleton.1 q, ← hx, ← hy, ← h.hk]
  exact List.mem_map.2 ⟨p, hpm, by rw [h1, h2]⟩
/-- Less is known of the slots. -/
theorem AW.less {P : Program} {N n : Nat} {c : Code} {Q : Exit → Fr → AHeap → Prop} {F F2 : Fr} {H : AHeap} (h : AW P N n c Q F2 H) (hf : ∀ t, look F2 t = .any ∨ look F2 t = look F t) : AW P N n c Q F H := fun E w a h1 h2 h3 h4 h5 => h E w a h1 h2 h3 (fun t => by
  rcases hf t with q | q
  · rw [q]; exact .any _
  rw [q]; exact h4 t) h5
theorem pair_strict : ∀ {l : List (Int × Int)}, l.Pairwise (fun x y => ¬ befP y x) → l.Nodup → l.Pairwise befP
  | [], _, _ => .nil
  | x :: l, h, hn => by
    rw [List.pairwise_cons] at h ⊢
    rw [List.nodup_cons] at hn
    refine ⟨fun y hy => ?_, pair_strict h.2 hn.2⟩
    rcases befP_tri x y with k | k | k
    · exact k
    · exact absurd (k ▸ hy) hn.1
    exact absurd k (h.1 y hy)
theorem PkC.homs {ps : List Pt} {ord ys : List (Int × Int)} {l : List T4} (h : PkC ps ord l) (hl : ∀ p ∈ ps, 0 < p.l.length) (hp : ys.Perm ord) (hs : ys.Pairwise (fun x y => ¬ befP y x)) : ys = homs l :=
  eq_strict (r := befP) (fun _ => befP_irr) befP_asymm (pair_strict hs (hp.nodup_iff.2 h.hn)) (homs_strict l) fun c => by
    rw [hp.mem_iff, homs_mem]
    constructor
    · intro hc
      rw [← h.hk] at hc
      obtain ⟨p, hpm, rfl⟩ := List.mem_map.1 hc
      have h0 := hl p hpm
      obtain ⟨e, he⟩ := List.exists_mem_of_length_pos h0
      rw [h.hf p hpm, List.mem_filter] at he
      have k := of_decide_eq_true (show decide _ = true from he.2)
      exact ⟨e, he.1, by rw [k.1, k.2]⟩
    rintro ⟨e, he, rfl⟩
    exact h.ha e he
theorem PkC.at {ps : List Pt} {ord : List (Int × Int)} {l : List T4} (h : PkC ps ord l) {c : Int × Int} (hc : c ∈ ord) : ∃ j p, fdQ ps c.1 c.2 = some (j, p) ∧ ps[j]? = some p ∧ p.l = l.filter (inT c.1 c.2) := by
  cases hf : fdQ ps c.1 c.2 with
  | none =>
    rw [← h.hk] at hc
    obtain ⟨p, hp, rfl⟩ := List.mem_map.1 hc
    exact absurd ⟨rfl, rfl⟩ (fdQ_none hf p hp)
  | some q =>
    obtain ⟨j, p⟩ := q
    obtain ⟨h1, h2, h3⟩ := fdQ_some hf
    simp only at h1 h2 h3
    refine ⟨j, p, rfl, h1, ?_⟩
    rw [h.hf p (List.mem_of_getElem? h1), h2, h3]
theorem PkI.sorted {H G : AHeap} {bm bo : Nat} {ps : List Pt} {ord ys : List (Int × Int)} (I : PkI H G bm bo ps ord) (h0 : 0 < ord.length) (hl : ys.length = ord.length) : PkI H (G.set bo (.cells true 2 (prs ys))) bm bo ps ys := by
  have hbo := getElem?_lt I.ho
  refine I.step (fun _ => False) (fun _ h => h.elim) (by rw [List.length_set]; exact Nat.le_refl _) (fun c x h1 _ _ hx => by rw [List.getElem?_set_ne (fun q => h1 q.symm)]; exact hx) ?_ I.lo ?_ ?_ (fun i p hp => ?_) I.inj
  · rw [List.length_set]; exact I.bel.put bo bels_prs
  · rw [List.getElem?_set_ne (fun e => by have := I.hm; rw [← e, I.ho] at this; cases this)]; exact I.hm
  · rw [List.getElem?_set_self hbo, ownG_p (by omega)]
  obtain ⟨a, b, c⟩ := I.hp i p hp
  exact ⟨a, b, by rw [List.getElem?_set_ne (fun e => (I.pne hp).1 e.symm)]; exact c⟩
theorem shr_4 (n : Int) : n.fdiv (2 ^ (min 4 IntKind.i64.bits)) = n / 16 := by
  show Int.fdiv n 16 = _
  rw [Int.fdiv_eq_ediv_of_nonneg _ (by omega)]
theorem isnan_c (H : AHeap) (x : Int) : ACalls Try.prog 74 [iV x] H (fun v H' => v = .bool false ∧ H' = H) := by
  refine AcT true Try.func74 ?_; intro hbel Q hQ
  refine runT ?_
  exact eQ hQ hbel (.bool false) Try.results74 ⟨by simp, rfl⟩
theorem compare_c (H : AHeap) (x y : Int) : ACalls Try.prog 58 [iV x, iV y] H (fun v H' => v = iV (cmpI x y) ∧ H' = H) := by
  refine AcT true Try.func58 ?_; intro hbel Q hQ
  refine runT ?_
  refine cv (isnan_c _ x) ?_
  refine runT ?_
  refine cv (isnan_c _ y) ?_
  refine runT ?_
  refine cond_split (fun h1 => ?_) (fun h1 => ?_)
  · have h1d := bsT h1
    have g'1 := (jn h1 @h1d)
    exact eS g'1 hQ hbel (iV (-1)) Try.results58 ⟨by first | (unfold cmpI; rw [if_pos (by omega)]; done) | (unfold cmpI; rw [if_neg (by omega), if_pos (by omega)]; done) | (unfold cmpI; rw [if_neg (by omega), if_neg (by omega)]), rfl⟩
  have h1d := bsT h1
  have g'2 := (jn h1 @h1d)
  refine rcs g'2 (fun h2 h2d g'3 => ?_) (fun h2 h2d g'4 => ?_)
  · exact eS g'3 hQ hbel (iV 1) Try.results58 ⟨by first | (unfold cmpI; rw [if_pos (by omega)]; done) | (unfold cmpI; rw [if_neg (by omega), if_pos (by omega)]; done) | (unfold cmpI; rw [if_neg (by omega), if_neg (by omega)]), rfl⟩
  exact eS g'4 hQ hbel (iV 0) Try.results58 ⟨by first | (unfold cmpI; rw [if_pos (by omega)]; done) | (unfold cmpI; rw [if_neg (by omega), if_pos (by omega)]; done) | (unfold cmpI; rw [if_neg (by omega), if_neg (by omega)]), rfl⟩
theorem or_c (H : AHeap) (s : AV) (l : List Int) (hs : Sl H 1 s l.length (ints .i64 l)) (hl : l.length ≤ 1000000000) : ACalls Try.prog 57 [s] H (fun v H' => v = iV (orL l) ∧ H' = H) := by
  obtain ⟨bs, os, cs, rfl, hbs⟩ := hs
  have hbls := getElem?_lt hbs
  have hb0s := fun l => get_app (l := l) hbs
  refine AcT true Try.func57 ?_; intro hbel Q hQ
  have g'5 := (jn @hbs @hb0s)
  refine runTf g'5 ?_
  refine glp (fun k F Hx => ∃ j : Nat, j + k = l.length ∧ orL l = orL (l.drop j) ∧ F = [(3, iV 0), (6, .sl (some (bs, 0)) l.length cs), (7, iV ((l.length : Nat) : Int)), (8, iV ((j : Nat) : Int))] ∧ H = Hx) (l.length) ?_ ?_
  · refine ⟨_, _, _, ⟨0, by omega, rfl, rfl, rfl⟩, Abs.by0 hbel ?_⟩
    exact absW
  rintro k0 F Hx ⟨j, hm0, ho, rfl, rfl⟩ J0 hJ0
  refine rcs g'5 (fun h1 h1d _ => ?_) (fun h1 h1d g'9 => ?_)
  · have hlt : j < l.length := by omega
    have q2 := ints_get (k := .i64) (xs := l) (j := j) (by omega)
    have g'6 := (jn h1 (jn h1d (jn q2 g'5)))
    refine rcs g'6 (fun h3 h3d _ => ?_) (fun h3 h3d _ => ?_)
    · have h3n := bnT h3
      have hfin : orL l = gi l j := by rw [ho, orL_drop hlt, if_neg h3d]
      have g'7 := (jn h3 (jn h3n (jn @int_bne (jn @int_beq g'6))))
      exact eS g'7 hQ hbel (iV (gi l j)) Try.results57 ⟨by rw [hfin], rfl⟩
    have h3n := bnT h3
    have ho2 : orL l = orL (l.drop (j + 1)) := by rw [ho, orL_drop hlt, if_pos h3d]
    have g'8 := (jn h3 (jn h3n (jn @int_bne (jn @int_beq g'6))))
    refine runTf g'8 ?_
    refine hJ0 _ _ ⟨k0 - 1, by omega, _, _, _, ⟨j + 1, by omega, ho2, rfl, rfl⟩, Abs.by0 hbel ?_⟩
    exact absW
  have hfin : orL l = 0 := by rw [ho, List.drop_of_length_le (by omega)]; rfl
  exact eS g'9 hQ hbel (iV 0) Try.results57 ⟨by rw [hfin], rfl⟩
theorem byrow_c (H : AHeap) (a b : Int) (c d : Int) : ACalls Try.prog 34 [.agg [iV a, iV b], .agg [iV c, iV d]] H (fun v H' => v = iV (cfC (a, b) (c, d)) ∧ H' = H) := by
  refine AcT true Try.func34 ?_; intro hbel Q hQ
  refine runT ?_
  refine cd (compare_c _ b d) ?_
  refine runT ?_
  refine cd (compare_c _ a c) ?_
  refine runT ?_
  refine cd (or_c _ _ [cmpI b d, cmpI a c] slA (by simp)) ?_
  refine runT ?_
  exact eP hQ hbel (iV (orL [cmpI b d, cmpI a c])) Try.results34 ⟨by first | (rw [orL_two]; rfl), rfl⟩
theorem evcmp_c (H : AHeap) (a b : Int) (c d : Int) : ACalls Try.prog 49 [.agg [iV a, iV b], .agg [iV c, iV d]] H (fun v H' => v = iV (cfC (a, b) (c, d)) ∧ H' = H) := by
  refine AcT true Try.func49 ?_; intro hbel Q hQ
  refine runT ?_
  refine cd (compare_c _ b d) ?_
  refine runT ?_
  refine cd (compare_c _ a c) ?_
  refine runT ?_
  refine cd (or_c _ _ [cmpI b d, cmpI a c] slA (by simp)) ?_
  refine runT ?_
  exact eP hQ hbel (iV (orL [cmpI b d, cmpI a c])) Try.results49 ⟨by first | (rw [orL_two]; rfl), rfl⟩
theorem tsize_c (H : AHeap) (x m : Int) (h : 0 ≤ m ∧ m ≤ 4611686018427387904) : ACalls Try.prog 35 [iV x, iV m] H (fun v H' => v = .bool (within x m) ∧ H' = H) := by
  refine AcT true Try.func35 ?_; intro hbel Q hQ
  refine runT ?_
  refine gd_split (fun h1 => ?_) (fun h1 => ?_)
  · have h1d := bsT h1
    have g'10 := (jn h1 @h1d)
    exact eS g'10 hQ hbel (.bool (decide (x ≤ m))) Try.results35 ⟨by first | (simp [within, h1d]; done) | (simp [within, h1d]; omega), rfl⟩
  have h1d := bsT h1
  have g'11 := (jn h1 @h1d)
  exact eS g'11 hQ hbel (.bool false) Try.results35 ⟨by first | (simp [within, h1d]; done) | (simp [within, h1d]; omega), rfl⟩
theorem ewithin_c (H : AHeap) (x m : Int) (h : 0 ≤ m ∧ m ≤ 4611686018427387904) : ACalls Try.prog 71 [iV x, iV m] H (fun v H' => v = .bool (within x m) ∧ H' = H) := by
  refine AcT true Try.func71 ?_; intro hbel Q hQ
  refine runT ?_
  refine gd_split (fun h1 => ?_) (fun h1 => ?_)
  · have h1d := bsT h1
    have g'12 := (jn h1 @h1d)
    exact eS g'12 hQ hbel (.bool (decide (x ≤ m))) Try.results71 ⟨by first | (simp [within, h1d]; done) | (simp [within, h1d]; omega), rfl⟩
  have h1d := bsT h1
  have g'13 := (jn h1 @h1d)
  exact eS g'13 hQ hbel (.bool false) Try.results71 ⟨by first | (simp [within, h1d]; done) | (simp [within, h1d]; omega), rfl⟩
theorem bsize_c (H : AHeap) (x m : Int) (h : 0 ≤ m ∧ m ≤ 4611686018427387904) : ACalls Try.prog 39 [iV x, iV m] H (fun v H' => v = .bool (within x m) ∧ H' = H) := by
  refine AcT true Try.func39 ?_; intro hbel Q hQ
  refine runT ?_
  refine gd_split (fun h1 => ?_) (fun h1 => ?_)
  · have h1d := bsT h1
    have g'14 := (jn h1 @h1d)
    exact eS g'14 hQ hbel (.bool (decide (x ≤ m))) Try.results39 ⟨by first | (simp [within, h1d]; done) | (simp [within, h1d]; omega), rfl⟩
  have h1d := bsT h1
  have g'15 := (jn h1 @h1d)
  exact eS g'15 hQ hbel (.bool false) Try.results39 ⟨by first | (simp [within, h1d]; done) | (simp [within, h1d]; omega), rfl⟩
theorem bbef_c (H : AHeap) (a1 a2 : Int) (b1 b2 : Int) : ACalls Try.prog 31 [.agg [iV a1, iV a2], .agg [iV b1, iV b2]] H (fun v H' => v = .bool (befB a1 a2 b1 b2) ∧ H' = H) := by
  refine AcT true Try.func31 ?_; intro hbel Q hQ
  refine runT ?_
  refine gd_split (fun h1 => ?_) (fun h1 => ?_)
  · have h1d := bsT h1
    have g'16 := (jn h1 @h1d)
    refine rgs g'16 (fun h2 h2d _ => ?_) (fun h2 h2d _ => ?_)
    · have g'17 := (jn h2 (jn h2d (jn @int_bne (jn @int_beq g'16))))
      exact eR g'17 hQ hbel (.bool (decide (a1 < b1))) Try.results31 ⟨by first | (simp [befB, h1d, h2d]; done) | (simp [befB, h1d, h2d]; omega), rfl⟩
    have g'18 := (jn h2 (jn h2d (jn @int_bne (jn @int_beq g'16))))
    exact eR g'18 hQ hbel (.bool false) Try.results31 ⟨by first | (simp [befB, h1d, h2d]; done) | (simp [befB, h1d, h2d]; omega), rfl⟩
  have h1d := bsT h1
  have g'19 := (jn h1 @h1d)
  exact eR g'19 hQ hbel (.bool true) Try.results31 ⟨by first | (simp [befB, h1d]; done) | (simp [befB, h1d]; omega), rfl⟩
theorem home_c (H : AHeap) (x y : Int) (hx : -1000000000000 ≤ x ∧ x ≤ 1000000000000) (hy : -1000000000000 ≤ y ∧ y ≤ 1000000000000) : ACalls Try.prog 50 [.agg [iV x, iV y]] H (fun v H' => v = .tup [.agg [iV (x / 16), iV (y / 16)], iV (numI (x, y))] ∧ H' = H) := by
  (refine ACalls_pieces Try.func50 _ rfl (Nat.le_of_ble_eq_true (by kernel_rfl)) rfl ?_; intro hbel Q hQ hQ' c hc; unfold Try.f50 at hc; simp only [Option.some.injEq] at hc; subst hc; clear hQ')
  refine sqR hQ fun Q1 hn1 hQ1 he1 => ?_
  refine fnF ?_
  have g'24 := @shr_4
  refine runTf g'24 ?_
  refine hn1 _ _ ?_
  refine sqR hQ fun Q2 hn2 hQ2 he2 => ?_
  refine fnF ?_
  refine runTf g'24 ?_
  refine hn2 _ _ ?_
  refine AW_special false try_mixed [[0, 1, 2, 3, 4, 5, 6, 7, 8, 9, 10, 11, 12, 13, 14, 15, 16], [0, 1, 2, 3, 4, 5, 6, 7, 8, 9, 10, 11, 15, 12, 13, 14, 16], [0, 1, 2, 3, 4, 5, 6, 7, 8, 11, 12, 13, 15, 9, 10, 14, 16], [0, 1, 2, 3, 4, 5, 6, 7, 8, 11, 15, 9, 10, 12, 13, 14, 16], [0, 1, 2, 3, 8, 9, 11, 12, 13, 15, 4, 5, 6, 7, 10, 14, 16], [0, 1, 2, 3, 8, 9, 11, 15, 4, 5, 6, 7, 10, 12, 13, 14, 16], [0, 1, 2, 3, 8, 11, 12, 13, 15, 4, 5, 6, 7, 9, 10, 14, 16], [0, 1, 2, 3, 8, 11, 15, 4, 5, 6, 7, 9, 10, 12, 13, 14, 16], [0, 1, 3, 4, 5, 8, 9, 11, 12, 13, 15, 2, 6, 7, 10, 14, 16], [0, 1, 3, 4, 5, 8, 9, 11, 15, 2, 6, 7, 10, 12, 13, 14, 16], [0, 1, 3, 4, 5, 8, 11, 12, 13, 15, 2, 6, 7, 9, 10, 14, 16], [0, 1, 3, 4, 5, 8, 11, 15, 2, 6, 7, 9, 10, 12, 13, 14, 16], [0, 1, 3, 8, 9, 11, 12, 13, 15, 2, 4, 5, 6, 7, 10, 14, 16], [0, 1, 3, 8, 9, 11, 15, 2, 4, 5, 6, 7, 10, 12, 13, 14, 16], [0, 1, 3, 8, 11, 12, 13, 15, 2, 4, 5, 6, 7, 9, 10, 14, 16], [0, 1, 3, 8, 11, 15, 2, 4, 5, 6, 7, 9, 10, 12, 13, 14, 16]] (by kernel_rfl) (fun F2 H2 => F2 = [(2, .ptr (some (H.length, 0))), (3, iV ((((y - (16 * (y / 16))) * 16) + x) - (16 * (x / 16))))] ∧ H2 = H ++ [.cells true 0 [iV (x / 16), iV (y / 16)]]) ?_ ?_
  · refine reps_cons ?_ (reps_cons ?_ (reps_cons ?_ (reps_cons ?_ (reps_cons ?_ (reps_cons ?_ (reps_cons ?_ (reps_cons ?_ (reps_cons ?_ (reps_cons ?_ (reps_cons ?_ (reps_cons ?_ (reps_cons ?_ (reps_cons ?_ (reps_cons ?_ (reps_cons ?_ (reps_nil)))))))))))))))) <;> intro J hJ
    · refine runDf g'24 ?_
      refine inv_of (hJ _ _ ⟨_, _, _, ⟨rfl, rfl⟩, bS hbel [1] absW⟩)
    · refine runDf g'24 ?_
      refine inv_of (hJ _ _ ⟨_, _, _, ⟨rfl, rfl⟩, bS hbel [1] absW⟩)
    · refine runDf g'24 ?_
      refine inv_of (hJ _ _ ⟨_, _, _, ⟨rfl, rfl⟩, bS hbel [1] absW⟩)
    · refine runDf g'24 ?_
      refine inv_of (hJ _ _ ⟨_, _, _, ⟨rfl, rfl⟩, bS hbel [1] absW⟩)
    · refine runDf g'24 ?_
      refine inv_of (hJ _ _ ⟨_, _, _, ⟨rfl, rfl⟩, bS hbel [1] absW⟩)
    · refine runDf g'24 ?_
      refine inv_of (hJ _ _ ⟨_, _, _, ⟨rfl, rfl⟩, bS hbel [1] absW⟩)
    · refine runDf g'24 ?_
      refine inv_of (hJ _ _ ⟨_, _, _, ⟨rfl, rfl⟩, bS hbel [1] absW⟩)
    · refine runDf g'24 ?_
      refine inv_of (hJ _ _ ⟨_, _, _, ⟨rfl, rfl⟩, bS hbel [1] absW⟩)
    · refine runDf g'24 ?_
      refine inv_of (hJ _ _ ⟨_, _, _, ⟨rfl, rfl⟩, bS hbel [1] absW⟩)
    · refine runDf g'24 ?_
      refine inv_of (hJ _ _ ⟨_, _, _, ⟨rfl, rfl⟩, bS hbel [1] absW⟩)
    · refine runDf g'24 ?_
      refine inv_of (hJ _ _ ⟨_, _, _, ⟨rfl, rfl⟩, bS hbel [1] absW⟩)
    · refine runDf g'24 ?_
      refine inv_of (hJ _ _ ⟨_, _, _, ⟨rfl, rfl⟩, bS hbel [1] absW⟩)
    · refine runDf g'24 ?_
      refine inv_of (hJ _ _ ⟨_, _, _, ⟨rfl, rfl⟩, bS hbel [1] absW⟩)
    · refine runDf g'24 ?_
      refine inv_of (hJ _ _ ⟨_, _, _, ⟨rfl, rfl⟩, bS hbel [1] absW⟩)
    · refine runDf g'24 ?_
      refine inv_of (hJ _ _ ⟨_, _, _, ⟨rfl, rfl⟩, bS hbel [1] absW⟩)
    refine runDf g'24 ?_
    refine inv_of (hJ _ _ ⟨_, _, _, ⟨rfl, rfl⟩, bS hbel [1] absW⟩)
  rintro F2 H2 ⟨rfl, rfl⟩
  refine fnF ?_
  exact eR g'24 hQ hbel (.tup [.agg [iV (x / 16), iV (y / 16)], iV ((((y - (16 * (y / 16))) * 16) + x) - (16 * (x / 16)))]) Try.results50 ⟨by rw [← numI_eq], rfl⟩
end Go.Proofs.Ytgfjhidfpjmmnaa
namespace Go.Proofs
open Go.Shelf
def Try.lays128_ren : Go.Shelf.Ren := ⟨fun | 128 => 84 | n => n, fun | 51 => 104 | 3 => 3 | 4 => 4 | 46 => 68 | 5 => 5 | 9 => 9 | n => n, fun | n => n⟩
theorem Try.lays128 : Go.Proofs.Lays.n128 Try.prog Try.lays128_ren := {
  mixed := by kernel_rfl
  f128 := Try.func84.trans (congrArg some (by kernel_rfl))
  t3 := Try.underlying3
  a3 := Try.isAgg3
  z3 := Try.sizeOf3
  v3 := Try.zeroValue3
  t4 := Try.underlying4
  a4 := Try.isAgg4
  z4 := Try.sizeOf4
  v4 := Try.zeroValue4
  t5 := Try.underlying5
  a5 := Try.isAgg5
  z5 := Try.sizeOf5
  v5 := Try.zeroValue5
  t9 := Try.underlying9
  a9 := Try.isAgg9
  z9 := Try.sizeOf9
  v9 := Try.zeroValue9
  t46 := Try.underlying68
  a46 := Try.isAgg68
  z46 := Try.sizeOf68
  v46 := Try.zeroValue68
  t51 := Try.underlying104
  a51 := Try.isAgg104
  z51 := Try.sizeOf104
  v51 := Try.zeroValue104 }
theorem Try.bits_Len32 (x : Int) (w : World) (h0 : 0 ≤ x) (h1 : x ≤ 4294967295) :
    Calls Try.prog 84 #[.int .u32 x] w fun e w' => e = .returned (.int .i64 (Lib.bitLen x.toNat)) ∧ w' = w := Any.bits_Len32 Try.lays128 x w h0 h1
def Try.lays125_ren : Go.Shelf.Ren := ⟨fun | 125 => 62 | 128 => 84 | 129 => 85 | n => n, fun | 46 => 68 | 3 => 3 | 51 => 104 | 53 => 77 | 4 => 4 | 5 => 5 | 9 => 9 | n => n, fun | n => n⟩
theorem Try.lays125 : Go.Proofs.Lays.n125 Try.prog Try.lays125_ren := {
  mixed := by kernel_rfl
  f125 := Try.func62.trans (congrArg some (by kernel_rfl))
  f128 := Try.func84.trans (congrArg some (by kernel_rfl))
  f129 := Try.func85.trans (congrArg some (by kernel_rfl))
  t3 := Try.underlying3
  a3 := Try.isAgg3
  z3 := Try.sizeOf3
  v3 := Try.zeroValue3
  t4 := Try.underlying4
  a4 := Try.isAgg4
  z4 := Try.sizeOf4
  v4 := Try.zeroValue4
  t5 := Try.underlying5
  a5 := Try.isAgg5
  z5 := Try.sizeOf5
  v5 := Try.zeroValue5
  t9 := Try.underlying9
  a9 := Try.isAgg9
  z9 := Try.sizeOf9
  v9 := Try.zeroValue9
  t46 := Try.underlying68
  a46 := Try.isAgg68
  z46 := Try.sizeOf68
  v46 := Try.zeroValue68
  t51 := Try.underlying104
  a51 := Try.isAgg104
  z51 := Try.sizeOf104
  v51 := Try.zeroValue104
  t53 := Try.underlying77
  a53 := Try.isAgg77
  z53 := Try.sizeOf77
  v53 := Try.zeroValue77 }
theorem Try.bits_Len (x : Int) (w : World) (h0 : 0 ≤ x) (h1 : x ≤ 18446744073709551615) :
    Calls Try.prog 62 #[.int .u64 x] w fun e w' => e = .returned (.int .i64 (Lib.bitLen x.toNat)) ∧ w' = w := Any.bits_Len Try.lays125 x w h0 h1
def Try.lays129_ren : Go.Shelf.Ren := ⟨fun | 129 => 85 | n => n, fun | 53 => 77 | 3 => 3 | 4 => 4 | 46 => 68 | 5 => 5 | 9 => 9 | n => n, fun | n => n⟩
theorem Try.lays129 : Go.Proofs.Lays.n129 Try.prog Try.lays129_ren := {
  mixed := by kernel_rfl
  f129 := Try.func85.trans (congrArg some (by kernel_rfl))
  t3 := Try.underlying3
  a3 := Try.isAgg3
  z3 := Try.sizeOf3
  v3 := Try.zeroValue3
  t4 := Try.underlying4
  a4 := Try.isAgg4
  z4 := Try.sizeOf4
  v4 := Try.zeroValue4
  t5 := Try.underlying5
  a5 := Try.isAgg5
  z5 := Try.sizeOf5
  v5 := Try.zeroValue5
  t9 := Try.underlying9
  a9 := Try.isAgg9
  z9 := Try.sizeOf9
  v9 := Try.zeroValue9
  t46 := Try.underlying68
  a46 := Try.isAgg68
  z46 := Try.sizeOf68
  v46 := Try.zeroValue68
  t53 := Try.underlying77
  a53 := Try.isAgg77
  z53 := Try.sizeOf77
  v53 := Try.zeroValue77 }
theorem Try.bits_Len64 (x : Int) (w : World) (h0 : 0 ≤ x) (h1 : x ≤ 18446744073709551615) :
    Calls Try.prog 85 #[.int .u64 x] w fun e w' => e = .returned (.int .i64 (Lib.bitLen x.toNat)) ∧ w' = w := Any.bits_Len64 Try.lays129 x w h0 h1
def Try.sort37_ren : Go.Shelf.Ren := ⟨fun | 6 => 37 | 15 => 62 | 14 => 61 | 28 => 84 | 29 => 85 | 20 => 76 | 21 => 77 | 22 => 78 | 23 => 79 | 24 => 80 | 25 => 81 | 26 => 82 | 27 => 83 | 46 => 98 | 47 => 99 | 48 => 100 | 49 => 101 | 50 => 102 | 57 => 112 | n => n, fun | 22 => 22 | 24 => 44 | 25 => 63 | 3 => 3 | 39 => 68 | 0 => 0 | 53 => 104 | 55 => 77 | 4 => 4 | 46 => 98 | 45 => 97 | 50 => 89 | 5 => 5 | 9 => 9 | 66 => 115 | 70 => 119 | 76 => 129 | 77 => 37 | n => n, fun | n => n⟩
theorem Try.sort37 : Go.Proofs.SlLaysF0.n6 Try.prog Try.sort37_ren := {
  mixed := by kernel_rfl
  f6 := ⟨Try.f37.name, by decide, Try.func37.trans (congrArg some (by kernel_rfl))⟩
  f14 := ⟨Try.f61.name, by decide, Try.func61.trans (congrArg some (by kernel_rfl))⟩
  f15 := Try.func62.trans (congrArg some (by kernel_rfl))
  f20 := ⟨Try.f76.name, by decide, Try.func76.trans (congrArg some (by kernel_rfl))⟩
  f21 := ⟨Try.f77.name, by decide, Try.func77.trans (congrArg some (by kernel_rfl))⟩
  f22 := ⟨Try.f78.name, by decide, Try.func78.trans (congrArg some (by kernel_rfl))⟩
  f23 := ⟨Try.f79.name, by decide, Try.func79.trans (congrArg some (by kernel_rfl))⟩
  f24 := ⟨Try.f80.name, by decide, Try.func80.trans (congrArg some (by kernel_rfl))⟩
  f25 := ⟨Try.f81.name, by decide, Try.func81.trans (congrArg some (by kernel_rfl))⟩
  f26 := ⟨Try.f82.name, by decide, Try.func82.trans (congrArg some (by kernel_rfl))⟩
  f27 := ⟨Try.f83.name, by decide, Try.func83.trans (congrArg some (by kernel_rfl))⟩
  f28 := Try.func84.trans (congrArg some (by kernel_rfl))
  f29 := Try.func85.trans (congrArg some (by kernel_rfl))
  f46 := ⟨Try.f98.name, by decide, Try.func98.trans (congrArg some (by kernel_rfl))⟩
  f47 := Try.func99.trans (congrArg some (by kernel_rfl))
  f48 := Try.func100.trans (congrArg some (by kernel_rfl))
  f49 := ⟨Try.f101.name, by decide, Try.func101.trans (congrArg some (by kernel_rfl))⟩
  f50 := ⟨Try.f102.name, by decide, Try.func102.trans (congrArg some (by kernel_rfl))⟩
  f57 := ⟨Try.f112.name, by decide, Try.func112.trans (congrArg some (by kernel_rfl))⟩
  t0 := Try.underlying0
  a0 := Try.isAgg0
  z0 := Try.sizeOf0
  v0 := Try.zeroValue0
  t3 := Try.underlying3
  a3 := Try.isAgg3
  z3 := Try.sizeOf3
  v3 := Try.zeroValue3
  t4 := Try.underlying4
  a4 := Try.isAgg4
  z4 := Try.sizeOf4
  v4 := Try.zeroValue4
  t5 := Try.underlying5
  a5 := Try.isAgg5
  z5 := Try.sizeOf5
  v5 := Try.zeroValue5
  t9 := Try.underlying9
  a9 := Try.isAgg9
  z9 := Try.sizeOf9
  v9 := Try.zeroValue9
  t22 := Try.underlying22
  a22 := Try.isAgg22
  z22 := Try.sizeOf22
  v22 := Try.zeroValue22
  t25 := Try.underlying63
  a25 := Try.isAgg63
  z25 := Try.sizeOf63
  v25 := Try.zeroValue63
  t39 := Try.underlying68
  a39 := Try.isAgg68
  z39 := Try.sizeOf68
  v39 := Try.zeroValue68
  t45 := Try.underlying97
  a45 := Try.isAgg97
  z45 := Try.sizeOf97
  v45 := Try.zeroValue97
  t46 := Try.underlying98
  a46 := Try.isAgg98
  z46 := Try.sizeOf98
  v46 := Try.zeroValue98
  t50 := Try.underlying89
  a50 := Try.isAgg89
  z50 := Try.sizeOf89
  v50 := Try.zeroValue89
  t53 := Try.underlying104
  a53 := Try.isAgg104
  z53 := Try.sizeOf104
  v53 := Try.zeroValue104
  t55 := Try.underlying77
  a55 := Try.isAgg77
  z55 := Try.sizeOf77
  v55 := Try.zeroValue77
  t66 := Try.underlying115
  a66 := Try.isAgg115
  z66 := Try.sizeOf115
  v66 := Try.zeroValue115
  t70 := Try.underlying119
  a70 := Try.isAgg119
  z70 := Try.sizeOf119
  v70 := Try.zeroValue119
  t76 := Try.underlying129
  a76 := Try.isAgg129
  z76 := Try.sizeOf129
  v76 := Try.zeroValue129
  t77 := Try.underlying37
  a77 := Try.isAgg37
  z77 := Try.sizeOf37
  v77 := Try.zeroValue37 }
def Try.sort51_ren : Go.Shelf.Ren := ⟨fun | 6 => 51 | 15 => 62 | 14 => 72 | 28 => 84 | 29 => 85 | 20 => 90 | 21 => 91 | 22 => 92 | 23 => 93 | 24 => 94 | 25 => 95 | 26 => 96 | 27 => 97 | 46 => 109 | 47 => 99 | 48 => 100 | 49 => 110 | 50 => 111 | 57 => 115 | n => n, fun | 22 => 53 | 24 => 42 | 25 => 58 | 3 => 3 | 39 => 68 | 0 => 0 | 53 => 104 | 55 => 77 | 4 => 4 | 46 => 98 | 45 => 97 | 50 => 89 | 5 => 5 | 9 => 9 | 66 => 115 | 70 => 119 | 76 => 129 | 77 => 37 | n => n, fun | n => n⟩
theorem Try.sort51 : Go.Proofs.SlLaysF0.n6 Try.prog Try.sort51_ren := {
  mixed := by kernel_rfl
  f6 := ⟨Try.f51.name, by decide, Try.func51.trans (congrArg some (by kernel_rfl))⟩
  f14 := ⟨Try.f72.name, by decide, Try.func72.trans (congrArg some (by kernel_rfl))⟩
  f15 := Try.func62.trans (congrArg some (by kernel_rfl))
  f20 := ⟨Try.f90.name, by decide, Try.func90.trans (congrArg some (by kernel_rfl))⟩
  f21 := ⟨Try.f91.name, by decide, Try.func91.trans (congrArg some (by kernel_rfl))⟩
  f22 := ⟨Try.f92.name, by decide, Try.func92.trans (congrArg some (by kernel_rfl))⟩
  f23 := ⟨Try.f93.name, by decide, Try.func93.trans (congrArg some (by kernel_rfl))⟩
  f24 := ⟨Try.f94.name, by decide, Try.func94.trans (congrArg some (by kernel_rfl))⟩
  f25 := ⟨Try.f95.name, by decide, Try.func95.trans (congrArg some (by kernel_rfl))⟩
  f26 := ⟨Try.f96.name, by decide, Try.func96.trans (congrArg some (by kernel_rfl))⟩
  f27 := ⟨Try.f97.name, by decide, Try.func97.trans (congrArg some (by kernel_rfl))⟩
  f28 := Try.func84.trans (congrArg some (by kernel_rfl))
  f29 := Try.func85.trans (congrArg some (by kernel_rfl))
  f46 := ⟨Try.f109.name, by decide, Try.func109.trans (congrArg some (by kernel_rfl))⟩
  f47 := Try.func99.trans (congrArg some (by kernel_rfl))
  f48 := Try.func100.trans (congrArg some (by kernel_rfl))
  f49 := ⟨Try.f110.name, by decide, Try.func110.trans (congrArg some (by kernel_rfl))⟩
  f50 := ⟨Try.f111.name, by decide, Try.func111.trans (congrArg some (by kernel_rfl))⟩
  f57 := ⟨Try.f115.name, by decide, Try.func115.trans (congrArg some (by kernel_rfl))⟩
  t0 := Try.underlying0
  a0 := Try.isAgg0
  z0 := Try.sizeOf0
  v0 := Try.zeroValue0
  t3 := Try.underlying3
  a3 := Try.isAgg3
  z3 := Try.sizeOf3
  v3 := Try.zeroValue3
  t4 := Try.underlying4
  a4 := Try.isAgg4
  z4 := Try.sizeOf4
  v4 := Try.zeroValue4
  t5 := Try.underlying5
  a5 := Try.isAgg5
  z5 := Try.sizeOf5
  v5 := Try.zeroValue5
  t9 := Try.underlying9
  a9 := Try.isAgg9
  z9 := Try.sizeOf9
  v9 := Try.zeroValue9
  t22 := Try.underlying53
  a22 := Try.isAgg53
  z22 := Try.sizeOf53
  v22 := Try.zeroValue53
  t25 := Try.underlying58
  a25 := Try.isAgg58
  z25 := Try.sizeOf58
  v25 := Try.zeroValue58
  t39 := Try.underlying68
  a39 := Try.isAgg68
  z39 := Try.sizeOf68
  v39 := Try.zeroValue68
  t45 := Try.underlying97
  a45 := Try.isAgg97
  z45 := Try.sizeOf97
  v45 := Try.zeroValue97
  t46 := Try.underlying98
  a46 := Try.isAgg98
  z46 := Try.sizeOf98
  v46 := Try.zeroValue98
  t50 := Try.underlying89
  a50 := Try.isAgg89
  z50 := Try.sizeOf89
  v50 := Try.zeroValue89
  t53 := Try.underlying104
  a53 := Try.isAgg104
  z53 := Try.sizeOf104
  v53 := Try.zeroValue104
  t55 := Try.underlying77
  a55 := Try.isAgg77
  z55 := Try.sizeOf77
  v55 := Try.zeroValue77
  t66 := Try.underlying115
  a66 := Try.isAgg115
  z66 := Try.sizeOf115
  v66 := Try.zeroValue115
  t70 := Try.underlying119
  a70 := Try.isAgg119
  z70 := Try.sizeOf119
  v70 := Try.zeroValue119
  t76 := Try.underlying129
  a76 := Try.isAgg129
  z76 := Try.sizeOf129
  v76 := Try.zeroValue129
  t77 := Try.underlying37
  a77 := Try.isAgg37
  z77 := Try.sizeOf37
  v77 := Try.zeroValue37 }
end Go.Proofs
namespace Go.Proofs.Ytgfjhidfpjmmnaa
set_option linter.unusedSimpArgs false
set_option linter.unusedVariables false
open Go.RowKit Go.Sort
theorem below_grow (w : World) (os : Array Obj) : Below w.heap.size w (Go.Sort.grow w os) := ⟨rfl, rfl, rfl, by simp [grow], fun k hk => heap_grow_old w os hk⟩
theorem splice_all {xs ys : List AV} (h : ys.length = xs.length) : splice xs 0 ys = ys := by
  have hl : 0 + ys.length ≤ xs.length := by omega
  refine List.ext_getElem? fun j => ?_
  rw [splice_get hl]
  by_cases hj : j < ys.length
  · rw [if_pos ⟨by omega, by omega⟩, Nat.sub_zero]
  rw [if_neg (by omega), List.getElem?_eq_none (by omega), List.getElem?_eq_none (by omega)]
theorem rels_prs {E : Env} : ∀ (l : List (Int × Int)), RelL E (prs l) (enc2 l)
  | [] => .nil E
  | p :: l => .cons (.int _ _) (.cons (.int _ _) (rels_prs l))
theorem prs_onef : ∀ (l : List (Int × Int)), (prs l).all AV.one = true
  | [] => rfl
  | p :: l => by rw [prs_cons]; simp [AV.one, prs_onef l]
section
variable {E : Env} {H : AHeap} {w : World}
theorem Emb.putP (h : Emb E H w) {b q : Nat} {zs ys : List (Int × Int)} (hg : H[b]? = some (.cells true 2 (prs zs))) (hl : ys.length = zs.length) (os : Array Obj) :
    Emb E (H.set b (.cells true 2 (prs ys))) (Go.Sort.grow ((w.drewN q).setCells (E.loc b).blk ((E.loc b).off) (enc2 ys)) os) := by
  have h0 : Emb E H (w.drewN q) := h.up (below_drewN (Below.refl _ _) q)
  have hw : awrite H b 0 (prs ys) = some (H.set b (.cells true 2 (prs ys))) := by
    unfold awrite
    rw [hg]
    simp only
    rw [if_pos ⟨by simp [prs_len, hl], prs_onef ys⟩, splice_all (by simp [prs_len, hl])]
  exact ((h0.write (rels_prs ys) hw).2.2.2).up (below_grow _ os)
end
/-- Elements as their two cells. -/
def encP {α : Type} (val : α → Int × Int) (x : α) : List Value := [.int .i64 (val x).1, .int .i64 (val x).2]
theorem flat_list {α : Type} [Inhabited α] (val : α → Int × Int) (zs : List α) : flatK (encP val) 2 zs.toArray = (enc2 (zs.map val)).toArray := by
  refine ext_get! (by simp [enc2_len]) fun t ht => ?_
  have ht' : t < zs.length * 2 := by simpa using ht
  rw [get_flatK _ _ _ _ (by simpa using ht')]
  have hj : t / 2 < zs.length := by omega
  obtain ⟨e1, e2⟩ := enc2_at (zs.map val) (t / 2) (by simpa using hj)
  have hx : zs.toArray[t / 2]! = zs[t / 2] := by simp [hj]
  rw [hx]
  have hr : (enc2 (zs.map val)).toArray[t]! = ((enc2 (zs.map val))[t]?).getD default := by simp [List.getElem!_eq_getElem?_getD]
  rw [hr]
  rcases Nat.mod_two_eq_zero_or_one t with h | h
  · have : t = t / 2 * 2 := by omega
    rw [← this] at e1
    rw [h, e1]
    simp [encP]
  have : t = t / 2 * 2 + 1 := by omega
  rw [← this] at e2
  rw [h, e2]
  simp [encP]
def enc4 (l : List T4) : List Value := l.flatMap fun p => [.int .i64 p.1, .int .i64 p.2.1, .int .i64 p.2.2.1, .int .i64 p.2.2.2]
def encG (x : T4) : List Value := [.int .i64 x.1, .int .i64 x.2.1, .int .i64 x.2.2.1, .int .i64 x.2.2.2]
theorem enc4_len : ∀ l : List T4, (enc4 l).length = l.length * 4
  | [] => rfl
  | p :: l => by
    have := enc4_len l
    simp only [enc4, List.flatMap_cons, List.length_append, List.length_cons, List.length_nil] at this ⊢; omega
theorem enc4_at : ∀ (l : List T4) (j : Nat) (h : j < l.length), (enc4 l)[j * 4]? = some (.int .i64 l[j].1) ∧ (enc4 l)[j * 4 + 1]? = some (.int .i64 l[j].2.1) ∧ (enc4 l)[j * 4 + 2]? = some (.int .i64 l[j].2.2.1) ∧ (enc4 l)[j * 4 + 3]? = some (.int .i64 l[j].2.2.2)
  | p :: l, 0, _ => ⟨rfl, rfl, rfl, rfl⟩
  | p :: l, j + 1, h => by
    have ih := enc4_at l j (by simpa using h)
    have e : ∀ k, (enc4 (p :: l))[(j + 1) * 4 + k]? = (enc4 l)[j * 4 + k]? := fun k => by
      show (.int .i64 p.1 :: .int .i64 p.2.1 :: .int .i64 p.2.2.1 :: .int .i64 p.2.2.2 :: enc4 l)[(j + 1) * 4 + k]? = _
      rw [show (j + 1) * 4 + k = j * 4 + k + 1 + 1 + 1 + 1 by omega]
      rfl
    have e0 := e 0
    rw [Nat.add_zero, Nat.add_zero] at e0
    rw [e0, e 1, e 2, e 3]
    exact ih
theorem rels_r4 {E : Env} : ∀ (l : List T4), RelL E (r4 l) (enc4 l)
  | [] => .nil E
  | p :: l => .cons (.int _ _) (.cons (.int _ _) (.cons (.int _ _) (.cons (.int _ _) (rels_r4 l))))
theorem r4_onef : ∀ (l : List T4), (r4 l).all AV.one = true
  | [] => rfl
  | p :: l => by rw [r4_cons]; simp [AV.one, r4_onef l]
section
variable {E : Env} {H : AHeap} {w : World}
theorem Emb.putG (h : Emb E H w) {b q : Nat} {zs ys : List T4} (hg : H[b]? = some (.cells true 4 (r4 zs))) (hl : ys.length = zs.length) (os : Array Obj) :
    Emb E (H.set b (.cells true 4 (r4 ys))) (Go.Sort.grow ((w.drewN q).setCells (E.loc b).blk ((E.loc b).off) (enc4 ys)) os) := by
  have h0 : Emb E H (w.drewN q) := h.up (below_drewN (Below.refl _ _) q)
  have hw : awrite H b 0 (r4 ys) = some (H.set b (.cells true 4 (r4 ys))) := by
    unfold awrite
    rw [hg]
    simp only
    rw [if_pos ⟨by simp [r4_len, hl], r4_onef ys⟩, splice_all (by simp [r4_len, hl])]
  exact ((h0.write (rels_r4 ys) hw).2.2.2).up (below_grow _ os)
end
theorem flat_listG (zs : List T4) : flatK encG 4 zs.toArray = (enc4 zs).toArray := by
  refine ext_get! (by simp [enc4_len]) fun t ht => ?_
  have ht' : t < zs.length * 4 := by simpa using ht
  rw [get_flatK _ _ _ _ (by simpa using ht')]
  have hj : t / 4 < zs.length := by omega
  obtain ⟨e1, e2, e3, e4⟩ := enc4_at zs (t / 4) hj
  have hx : zs.toArray[t / 4]! = zs[t / 4] := by simp [hj]
  rw [hx]
  have hr : (enc4 zs).toArray[t]! = ((enc4 zs)[t]?).getD default := by simp [List.getElem!_eq_getElem?_getD]
  rw [hr]
  have hm : t % 4 < 4 := Nat.mod_lt _ (by omega)
  rcases (by omega : t % 4 = 0 ∨ t % 4 = 1 ∨ t % 4 = 2 ∨ t % 4 = 3) with h | h | h | h
  · have : t = t / 4 * 4 := by omega
    rw [← this] at e1
    rw [h, e1]
    simp [encG]
  · have : t = t / 4 * 4 + 1 := by omega
    rw [← this] at e2
    rw [h, e2]
    simp [encG]
  · have : t = t / 4 * 4 + 2 := by omega
    rw [← this] at e3
    rw [h, e3]
    simp [encG]
  have : t = t / 4 * 4 + 3 := by omega
  rw [← this] at e4
  rw [h, e4]
  simp [encG]
set_option maxRecDepth 100000 in
theorem sortg_f (cf : T4 → T4 → Int) (hO : SWO (ltOf cf)) (g : FuncId) (eg : ∀ args w, (callFunc g args).run Try.prog w = .ok (.enter g args) w)
    (hcmp : ∀ (x y : T4) (W : World), Calls Try.prog g #[.agg #[.int .i64 x.1, .int .i64 x.2.1, .int .i64 x.2.2.1, .int .i64 x.2.2.2], .agg #[.int .i64 y.1, .int .i64 y.2.1, .int .i64 y.2.2.1, .int .i64 y.2.2.2]] W fun e w' => e = .returned (.int .i64 (cf x y)) ∧ ∃ q os', w' = grow (W.drewN q) os')
    {H : AHeap} {b n : Nat} {cap : Option Nat} {zs : List T4} (hg : H[b]? = some (.cells true 4 (r4 zs))) (hn : n = zs.length) (h0 : 0 < n) (h1 : n ≤ 1000000) :
    ACalls Try.prog 37 [.sl (some (b, 0)) n cap, .fn g []] H
      (fun v H' => v = .tup [] ∧ ∃ ys : List T4, ys.Perm zs ∧ ys.Pairwise (fun x y => ltOf cf y x = false) ∧ H' = H.set b (.cells true 4 (r4 ys))) := fun E w vs hE hv => by
  obtain ⟨v1, l1, rfl, k1, h1'⟩ := rels_cons hv
  obtain ⟨v2, l2, rfl, k2, h2'⟩ := rels_cons h1'
  obtain rfl := rels_nil h2'
  have hf : v2 = .func (.func g) #[] #[] := by
    cases k2 with
    | fn _ _ cs hl _ =>
      have : cs = #[] := by
        have : cs.size = 0 := hl.symm
        exact Array.eq_empty_of_size_eq_zero this
      rw [this]
  subst hf
  cases k1 with
  | nils _ _ _ _ => exact absurd h0 (Nat.lt_irrefl 0)
  | sl _ _ _ _ c a hb h2 h3 h4 h5 h6 =>
  have hc : c ≠ 0 := by omega
  obtain rfl := h5.resolve_left hc
  obtain ⟨m1, m2, -, -⟩ := hE.blk b _ hg
  obtain ⟨o1, o2, o3, o4, o5⟩ := m2 rfl
  have hpl : (r4 zs).length = zs.length * 4 := by rw [r4_len]
  have hH : HoldsK encG 4 w (E.loc b).blk (E.loc b).off zs.toArray := by
    show Holds id w _ _ (flatK encG 4 zs.toArray)
    rw [flat_listG]
    intro j hj
    have hj' : j < zs.length * 4 := by simpa [enc4_len] using hj
    refine ⟨?_, (o5 j (by omega)).2⟩
    have hx : (r4 zs)[j]? = some (r4 zs)[j] := List.getElem?_eq_getElem (by omega)
    obtain ⟨-, v, hv, hr⟩ := m1 j _ hx
    rw [hv]
    obtain ⟨u, hu, hru⟩ := (rels_r4 (E := E) zs).get hx
    have : ∀ (k : Nat) (l : List T4) (y : AV) (v u : Value), (r4 l)[k]? = some y → Rel E y v → (enc4 l)[k]? = some u → v = u := by
      intro k l
      induction l generalizing k with
      | nil => intro y v u h; simp [r4] at h
      | cons p l ih =>
        intro y v u h1 h2 h3
        match k with
        | 0 => simp [r4_cons, enc4] at h1 h3; subst h1 h3; exact rel_int h2
        | 1 => simp [r4_cons, enc4] at h1 h3; subst h1 h3; exact rel_int h2
        | 2 => simp [r4_cons, enc4] at h1 h3; subst h1 h3; exact rel_int h2
        | 3 => simp [r4_cons, enc4] at h1 h3; subst h1 h3; exact rel_int h2
        | k + 4 =>
          refine ih k y v u (by simpa [r4_cons] using h1) h2 ?_
          simpa [enc4] using h3
    have e := this j _ _ v u hx hr hu
    subst e
    simp [List.getElem!_eq_getElem?_getD, hu]
  have hcon := AnyQ.slices_SortFunc Try.sort37 4 Try.isAgg44 Try.sizeOf44 encG (fun _ => rfl) (fun x v hv => by simp [encG] at hv; rcases hv with rfl | rfl | rfl | rfl <;> rfl) cf hO g #[] (E.loc b).blk (E.loc b).off c zs.toArray w eg
    (fun _ _ _ _ x y => by simpa [encG] using hcmp x y _) hH o2 (by simp; omega)
  change Calls Try.prog 37 _ _ _ at hcon
  have hsz : zs.toArray.size = n := by simp [hn]
  rw [hsz] at hcon
  refine hcon.mono fun e w' ⟨he, d', q, os, hp, hs, hw⟩ => ?_
  subst hw
  obtain ⟨p1, -, p3⟩ := hp
  have hperm : d'.toList.Perm zs := by
    have a1 : d'.extract 0 n = d' := by rw [← hsz, ← p1]; simp
    have a2 : zs.toArray.extract 0 n = zs.toArray := by rw [← hsz]; simp
    rw [a1, a2] at p3
    simpa using p3
  have hl : d'.toList.length = zs.length := by simp [hperm.length_eq]
  refine ⟨E, _, _, .tup [], he, ⟨rfl, d'.toList, hperm, ?_, rfl⟩, .refl E, .tup [] #[] rfl (fun i x v h => by simp at h), ?_⟩
  · rw [List.pairwise_iff_getElem]
    intro i j hi hj hij
    have := hs i j (Nat.zero_le _) hij (by have := hperm.length_eq; simp at hj this; omega)
    simp at hi hj
    simpa [hi, hj] using this
  have hd : d' = d'.toList.toArray := by simp
  have e1 : sortWorldK encG 4 w (E.loc b).blk (E.loc b).off q d' os = grow ((w.drewN q).setCells (E.loc b).blk (E.loc b).off (enc4 d'.toList)) os := by
    unfold sortWorldK
    congr 1
    show putRow id (Sort.ahead w q) _ _ (flatK encG 4 d') = _
    rw [hd, flat_listG]
    have := Lib.putRow_eq_setCells id w (E.loc b).blk (E.loc b).off (flatK encG 4 zs.toArray) (enc4 d'.toList) q hH (by rw [enc4_len, hl]; simp)
    simpa using this
  rw [e1]
  exact hE.putG hg hl os
set_option maxRecDepth 100000 in
theorem sortc_f {α : Type} [Inhabited α] (val : α → Int × Int) (cf : α → α → Int) (hO : SWO (ltOf cf)) (g : FuncId) (eg : ∀ args w, (callFunc g args).run Try.prog w = .ok (.enter g args) w)
    (hcmp : ∀ (x y : α) (W : World), Calls Try.prog g #[.agg #[.int .i64 (val x).1, .int .i64 (val x).2], .agg #[.int .i64 (val y).1, .int .i64 (val y).2]] W fun e w' => e = .returned (.int .i64 (cf x y)) ∧ ∃ q os', w' = grow (W.drewN q) os')
    {H : AHeap} {b n : Nat} {cap : Option Nat} {zs : List α} (hg : H[b]? = some (.cells true 2 (prs (zs.map val)))) (hn : n = zs.length) (h0 : 0 < n) (h1 : n ≤ 1000000) :
    ACalls Try.prog 51 [.sl (some (b, 0)) n cap, .fn g []] H
      (fun v H' => v = .tup [] ∧ ∃ ys : List α, ys.Perm zs ∧ ys.Pairwise (fun x y => ltOf cf y x = false) ∧ H' = H.set b (.cells true 2 (prs (ys.map val)))) := fun E w vs hE hv => by
  obtain ⟨v1, l1, rfl, k1, h1'⟩ := rels_cons hv
  obtain ⟨v2, l2, rfl, k2, h2'⟩ := rels_cons h1'
  obtain rfl := rels_nil h2'
  have hf : v2 = .func (.func g) #[] #[] := by
    cases k2 with
    | fn _ _ cs hl _ =>
      have : cs = #[] := by
        have : cs.size = 0 := hl.symm
        exact Array.eq_empty_of_size_eq_zero this
      rw [this]
  subst hf
  cases k1 with
  | nils _ _ _ _ => exact absurd h0 (Nat.lt_irrefl 0)
  | sl _ _ _ _ c a hb h2 h3 h4 h5 h6 =>
  have hc : c ≠ 0 := by omega
  obtain rfl := h5.resolve_left hc
  obtain ⟨m1, m2, -, -⟩ := hE.blk b _ hg
  obtain ⟨o1, o2, o3, o4, o5⟩ := m2 rfl
  have hpl : (prs (zs.map val)).length = zs.length * 2 := by rw [prs_len]; simp
  have hH : HoldsK (encP val) 2 w (E.loc b).blk (E.loc b).off zs.toArray := by
    show Holds id w _ _ (flatK (encP val) 2 zs.toArray)
    rw [flat_list]
    intro j hj
    have hj' : j < zs.length * 2 := by simpa [enc2_len] using hj
    refine ⟨?_, (o5 j (by omega)).2⟩
    have hx : (prs (zs.map val))[j]? = some (prs (zs.map val))[j] := List.getElem?_eq_getElem (by omega)
    obtain ⟨-, v, hv, hr⟩ := m1 j _ hx
    rw [hv]
    obtain ⟨u, hu, hru⟩ := (rels_prs (E := E) (zs.map val)).get hx
    have : ∀ (k : Nat) (l : List (Int × Int)) (y : AV) (v u : Value), (prs l)[k]? = some y → Rel E y v → (enc2 l)[k]? = some u → v = u := by
      intro k l
      induction l generalizing k with
      | nil => intro y v u h; simp [prs] at h
      | cons p l ih =>
        intro y v u h1 h2 h3
        match k with
        | 0 => simp [prs_cons, enc2] at h1 h3; subst h1 h3; exact rel_int h2
        | 1 => simp [prs_cons, enc2] at h1 h3; subst h1 h3; exact rel_int h2
        | k + 2 =>
          refine ih k y v u (by simpa [prs_cons] using h1) h2 ?_
          simpa [enc2] using h3
    have e := this j _ _ v u hx hr hu
    subst e
    simp [List.getElem!_eq_getElem?_getD, hu]
  have hcon := AnyQ.slices_SortFunc Try.sort51 2 Try.isAgg42 Try.sizeOf42 (encP val) (fun _ => rfl) (fun x v hv => by simp [encP] at hv; rcases hv with rfl | rfl <;> rfl) cf hO g #[] (E.loc b).blk (E.loc b).off c zs.toArray w eg
    (fun _ _ _ _ x y => by simpa [encP] using hcmp x y _) hH o2 (by simp; omega)
  change Calls Try.prog 51 _ _ _ at hcon
  have hsz : zs.toArray.size = n := by simp [hn]
  rw [hsz] at hcon
  refine hcon.mono fun e w' ⟨he, d', q, os, hp, hs, hw⟩ => ?_
  subst hw
  obtain ⟨p1, -, p3⟩ := hp
  have hperm : d'.toList.Perm zs := by
    have a1 : d'.extract 0 n = d' := by rw [← hsz, ← p1]; simp
    have a2 : zs.toArray.extract 0 n = zs.toArray := by rw [← hsz]; simp
    rw [a1, a2] at p3
    simpa using p3
  have hl : (d'.toList.map val).length = (zs.map val).length := by simp [hperm.length_eq]
  refine ⟨E, _, _, .tup [], he, ⟨rfl, d'.toList, hperm, ?_, rfl⟩, .refl E, .tup [] #[] rfl (fun i x v h => by simp at h), ?_⟩
  · rw [List.pairwise_iff_getElem]
    intro i j hi hj hij
    have := hs i j (Nat.zero_le _) hij (by have := hperm.length_eq; simp at hj this; omega)
    simp at hi hj
    simpa [hi, hj] using this
  have hd : d' = d'.toList.toArray := by simp
  have e1 : sortWorldK (encP val) 2 w (E.loc b).blk (E.loc b).off q d' os = grow ((w.drewN q).setCells (E.loc b).blk (E.loc b).off (enc2 (d'.toList.map val))) os := by
    unfold sortWorldK
    congr 1
    show putRow id (Sort.ahead w q) _ _ (flatK (encP val) 2 d') = _
    rw [hd, flat_list]
    have := Lib.putRow_eq_setCells id w (E.loc b).blk (E.loc b).off (flatK (encP val) 2 zs.toArray) (enc2 (d'.toList.map val)) q hH (by rw [enc2_len, hl]; simp)
    simpa using this
  rw [e1]
  exact hE.putP hg hl os
end Go.Proofs.Ytgfjhidfpjmmnaa
