/- Parts of the proof: walks and plain facts. Conditions: as each theorem states. -/
import Derived.Test.YtbmfgcccgonaeaaG2
import Derived.Shelf.Small.Bits
import Derived.Shelf.Strconv.Itoa0
import Derived.Ground.Names2Prog
import Derived.Shelf.Slices.SearchI
import Derived.Shelf.SlSortCmp.WholeK
import Derived.Shelf.SlGeneric
import Derived.Ground.SlsfProg
import Derived.Shelf.Spec.SlicesGrow
import Derived.Test.YtbmfgcccgonaeaaProg
import Derived.Lib.SortBridge
import Derived.Lib.RowBridge
import Derived.Test.YtbmfgcccgonaeaaG1
namespace Go.Proofs.Ytbmfgcccgonaeaa
set_option linter.unusedSimpArgs false
set_option linter.unusedVariables false
open Go.RowKit
/-- append, where nothing more is said of it. -/
def aAppendX (P : Program) (t : TypeId) (s x : AV) (H : AHeap) : Option (AV × AHeap) := aAppend P t s x H
/-- More is appended to a row that grows. -/
theorem aApp_grw {P : Program} {t : TypeId} {b n : Nat} {x : AV} {H : AHeap} : aAppend P t (.sl (some (b, 0)) n (capG n)) x H = (tElem P t).bind fun e => (tSz P e).bind fun sz => (tBytes P e).bind fun by_ => (tZero P e).bind fun z => (aElems sz x H).bind fun mx =>
    (need (z.length = sz ∧ 0 < sz ∧ 0 < by_)).bind fun _ => match H[b]? with
      | some (.cells own es xs) => bif (own == ownG n) && (decide (es = sz) && (decide (xs.length = n * sz) && (decide (0 < mx.1) && xs.all AV.one))) then
          (need ((n + mx.1) * by_ ≤ 140737488355328)).map fun _ => (.sl (some (H.length, 0)) (n + mx.1) none, H.set b (killG n (.cells own es xs)) ++ [.cells true sz (xs ++ mx.2)])
        else aAppendX P t (.sl (some (b, 0)) n (capG n)) x H
      | _ => aAppendX P t (.sl (some (b, 0)) n (capG n)) x H := aApp_grown
theorem W_nil0 {m b : Nat} (h : b < m) : W m (.sl none 0 (some 0)) (.sl (some (b, 0)) 0 none) = True := eq_true (W_nils h (.inl rfl))
theorem W_nil1 {m b : Nat} (h : b < m) : W m (.sl none 0 (some 0)) (.sl (some (b, 0)) 0 (some 0)) = True := eq_true (W_nils h (.inr rfl))
theorem W_cap' {m n : Nat} {p : Nat × Nat} {c : Option Nat} : W m (.sl (some p) n c) (.sl (some p) n none) = True := eq_true W_cap
theorem Wc_nil0 {m b : Nat} (h : b < m) : Wc m (.sl none 0 (some 0)) (.sl (some (b, 0)) 0 none) = True := eq_true (Wc_nils h (.inl rfl))
theorem Wc_nil1 {m b : Nat} (h : b < m) : Wc m (.sl none 0 (some 0)) (.sl (some (b, 0)) 0 (some 0)) = True := eq_true (Wc_nils h (.inr rfl))
theorem Wc_cap' {m n : Nat} {p : Nat × Nat} {c : Option Nat} : Wc m (.sl (some p) n c) (.sl (some p) n none) = True := eq_true Wc_cap
theorem int_beq (a b : Int) : (a == b) = decide (a = b) := rfl
theorem int_bne (a b : Int) : (a != b) = !decide (a = b) := rfl
theorem rem_nat1 (a b : Nat) : Int.tmod ((a : Int) + 1) (b : Int) = (((a + 1) % b : Nat) : Int) := rfl
theorem rem_nat (a b : Nat) : Int.tmod (a : Int) (b : Int) = ((a % b : Nat) : Int) := rfl
section
variable {P : Program} {H : AHeap} {n : Nat}
theorem LTy.pairsU {t e u v : TypeId} {x : AV} (ht : P.underlying t = some (.slice e)) (hu : P.underlying u = some (.int .i64)) (hv : P.underlying v = some (.int .i64)) (hl : leafs P (n + 1) e = some [u, v]) (h : LTy P H (n + 2) t x) :
    ∃ l : List (Int × Int), SlP H x l ∧ l.length ≤ maxLen ∧ ∀ p ∈ l, (Lit.int .i64 p.1).wf = true ∧ (Lit.int .i64 p.2).wf = true := by
  obtain ⟨b, rows, rfl, h1, h2, h3⟩ := h.slice ht hl
  obtain ⟨l, k1, k2, k3⟩ := rows_prs hu hv rows h3
  exact ⟨l, ⟨b, false, none, by rw [k1], by rw [← k2]; exact h2⟩, by omega, k3⟩
end
/-- The machine steps on by its rules; what must hold is small arithmetic. -/
theorem runT {p q : Prop} (hq : q) (h : q → p := by
  intro hq
  simp -implicitDefEqProofs (disch := omega) only [aApp_nil, aApp_none, aApp_some, aApp_grw, simprocAttr, amset, tyset, Function.comp_apply, one1, lenV, calleeOf, lateOk, belowV, aop, AV.ofValue, AV.ofCell, AV.cells, AV.flat, AV.one, arep, aBin, aConv]
  repeat refine And.intro (by clear hq; omega) ?_
  exact hq) : p := h hq
theorem runTf {p q r : Prop} (f : r) (hq : q) (h : r → q → p := by
  intro hs hq
  simp -implicitDefEqProofs (disch := omega) only [hs, aApp_nil, aApp_none, aApp_some, aApp_grw, simprocAttr, amset, tyset, Function.comp_apply, one1, lenV, calleeOf, lateOk, belowV, aop, AV.ofValue, AV.ofCell, AV.cells, AV.flat, AV.one, arep, aBin, aConv]
  repeat refine And.intro (by clear hq; omega) ?_
  exact hq) : p := h f hq
theorem runDf {p q r : Prop} (f : r) (hq : q) (h : r → q → p := by
  intro hs hq
  simp -implicitDefEqProofs (disch := omega) only [hs, pickL, aApp_nil, aApp_none, aApp_some, aApp_grw, simprocAttr, amset, tyset, Function.comp_apply, one1, lenV, calleeOf, lateOk, belowV, aop, AV.ofValue, AV.ofCell, AV.cells, AV.flat, AV.one, arep, aBin, aConv]
  repeat refine And.intro (by clear hq; omega) ?_
  exact hq) : p := h f hq
theorem cv {P : Program} {N n : Nat} {q : Bool} {Q : Exit → Fr → AHeap → Prop} {dst : Option Tmp} {os : List LOp} {r : List It} {F : Fr} {H H1 : AHeap} {f : FuncId} {args : List AV} {x : AV} (h : ACalls P f args H fun v H' => v = x ∧ H' = H1) (k : AGo P N n q Q (.ops os :: r) (putF dst x F) H1) (hok : okFn P f = true := by kernel_rfl) : ACallK P N n q Q none f args dst os r F H := call_v hok h k
theorem cd {P : Program} {N n m : Nat} {q : Bool} {Q : Exit → Fr → AHeap → Prop} {dst : Option Tmp} {os : List LOp} {r : List It} {F : Fr} {H : AHeap} {f : FuncId} {args : List AV} {x : AV} (h : ACalls P f args H fun y H1 => y = x ∧ H1 = H) (k : AGo P N n q Q (.opsD m os :: r) (putF dst x F) H) (hok : okFn P f = true := by kernel_rfl) : ACallK P N n q Q (some m) f args dst os r F H := call_d hok h k
theorem cx {P : Program} {N n m : Nat} {Q : Exit → Fr → AHeap → Prop} {dst : Option Tmp} {os : List LOp} {r : List It} {F : Fr} {H l : AHeap} {f : FuncId} {args : List AV} {x : AV} (h : ACalls P f args H fun y H1 => y = x ∧ H1 = H ++ l) (k : AGo P N n false Q (.opsD m os :: r) (putF dst x F) (H ++ l)) (hok : okFn P f = true := by kernel_rfl) : ACallK P N n false Q (some m) f args dst os r F H := call_x hok trivial h k
theorem fnF {P : Program} {N n : Nat} {Q : Exit → Fr → AHeap → Prop} {a : Code} {F : Fr} {H : AHeap} (h : AGo P N n false Q [.code a] F H) (hc : codeOk N false a = true := by kernel_rfl) (hm : P.follows .mixedOrders = true := by exact try_mixed) : AW P N n a Q F H := AW_fin false hm hc h
theorem glp {P : Program} {N n : Nat} {q : Bool} {Q : Exit → Fr → AHeap → Prop} {r : List It} {F : Fr} {H : AHeap} {c : Code} (I : Nat → Fr → AHeap → Prop) (k0 : Nat) (h0 : ∃ σ F2 H2, I k0 F2 H2 ∧ Abs n σ F H F2 H2)
    (round : ∀ k F H, I k F H → ∀ J : Fr → AHeap → Prop, (∀ F' H', (∃ k', k' < k ∧ ∃ σ F2 H2, I k' F2 H2 ∧ Abs n σ F' H' F2 H2) → J F' H') → AGo P N n q Q (.code c :: .inv J :: r) F H) (hc : codeOk N q c = true := by kernel_rfl) (hm : P.follows .mixedOrders = true := by exact try_mixed) : AGo P N n q Q (.code (.loop c) :: r) F H := go_loop hm hc I k0 h0 round
theorem eP {P : Program} {fn : Func} {H l1 : AHeap} {R : AV → AHeap → Prop} {F : Fr} {Q : Exit → Fr → AHeap → Prop} (hQ : ∀ F H', AEnd P fn H.length R .ret F H' → ARet Q F H') (hbel : HBel H.length H) (x : AV) {l : List ResultVar} (h1 : fn.results = l.toArray) (hR : R x H) (h2 : (aRes P l F (H ++ l1)).map one1 = some x := by simp -implicitDefEqProofs (disch := omega) only [simprocAttr, amset, tyset, Function.comp_apply, one1, lenV, calleeOf, lateOk, belowV, aop, AV.ofValue, AV.ofCell, AV.cells, AV.flat, AV.one, arep, aBin, aAppend, aConv]) (hp : x.bel 0 = true := by rfl) : ARet Q F (H ++ l1) := hQ _ _ (end_plain (.inl rfl) hbel (ret_of h1 h2) hp hR)
theorem slA {H : AHeap} {sz n b : Nat} {s : AV} {xs : List AV} {o : Bool} {c : Option Nat} (h1 : s = .sl (some (b, 0)) n c := by first | rfl | (rw [List.length_append]; done) | (rw [List.length_append]; rfl)) (h2 : H[b]? = some (.cells o sz xs) := by first | rfl | (rw [get_newk]; rfl) | (rw [get_new0]; rfl) | (rw [get_newk, prs_append]; rfl) | (rw [get_new0, prs_append]; rfl)) : Sl H sz s n xs := ⟨b, o, c, h1, h2⟩
theorem j2 {a b c : Prop} (x : a) (y : b) (z : c) : a ∧ b ∧ c := ⟨x, y, z⟩
/-- The machine steps on to a truth, and both ways are walked. -/
theorem rcs {P : Program} {N n : Nat} {q : Bool} {Q : Exit → Fr → AHeap → Prop} {r : List It} {F : Fr} {H : AHeap} {t : Bool} {a b : Code} {s p1 p2 G : Prop} (g : G) (k1 : t = true → p1 → (t = true ∧ p1 ∧ G) → AGo P N n q Q (.code a :: r) F H) (k2 : t = false → p2 → (t = false ∧ p2 ∧ G) → AGo P N n q Q (.code b :: r) F H) (h : G → ACond P N n q Q (.bool t) a b r F H → s := by
  intro hs hq
  simp -implicitDefEqProofs (disch := omega) only [hs, aApp_nil, aApp_none, aApp_some, aApp_grw, simprocAttr, amset, tyset, Function.comp_apply, one1, lenV, calleeOf, lateOk, belowV, aop, AV.ofValue, AV.ofCell, AV.cells, AV.flat, AV.one, arep, aBin, aConv]
  repeat refine And.intro (by clear hq; omega) ?_
  exact hq) (e1 : t = true → p1 := by
  intro h
  try simp only [boolset, beq_iff_eq, ne_eq] at h
  exact h) (e2 : t = false → p2 := by
  intro h
  try simp only [boolset, beq_iff_eq, ne_eq] at h
  exact h) : s := h g (cond_split (fun k => k1 k (e1 k) ⟨k, e1 k, g⟩) fun k => k2 k (e2 k) ⟨k, e2 k, g⟩)
theorem rgs {P : Program} {N n : Nat} {q : Bool} {Q : Exit → Fr → AHeap → Prop} {d : Option Nat} {o : Op} {dst : Option Tmp} {os : List LOp} {r : List It} {F : Fr} {H : AHeap} {t : Bool} {s p1 p2 G : Prop} (g : G) (k1 : t = true → p1 → (t = true ∧ p1 ∧ G) → ADo P N n q Q d o dst os r F H) (k2 : t = false → p2 → (t = false ∧ p2 ∧ G) → AGo P N n q Q (itOf d os :: r) (putF dst (.tup []) F) H) (h : G → AGd P N n q Q d (some t) o dst os r F H → s := by
  intro hs hq
  simp -implicitDefEqProofs (disch := omega) only [hs, aApp_nil, aApp_none, aApp_some, aApp_grw, simprocAttr, amset, tyset, Function.comp_apply, one1, lenV, calleeOf, lateOk, belowV, aop, AV.ofValue, AV.ofCell, AV.cells, AV.flat, AV.one, arep, aBin, aConv]
  repeat refine And.intro (by clear hq; omega) ?_
  exact hq) (e1 : t = true → p1 := by
  intro h
  try simp only [boolset, beq_iff_eq, ne_eq] at h
  exact h) (e2 : t = false → p2 := by
  intro h
  try simp only [boolset, beq_iff_eq, ne_eq] at h
  exact h) : s := h g (gd_split (fun k => k1 k (e1 k) ⟨k, e1 k, g⟩) fun k => k2 k (e2 k) ⟨k, e2 k, g⟩)
/-- A call, and the machine steps on. -/
theorem cvr {P : Program} {N n : Nat} {q : Bool} {Q : Exit → Fr → AHeap → Prop} {dst : Option Tmp} {os : List LOp} {r : List It} {F : Fr} {H H1 : AHeap} {f : FuncId} {args : List AV} {x : AV} {s G : Prop} (g : G) (c : ACalls P f args H fun v H' => v = x ∧ H' = H1) (k : s) (h : G → s → AGo P N n q Q (.ops os :: r) (putF dst x F) H1 := by
  intro hs hq
  simp -implicitDefEqProofs (disch := omega) only [hs, aApp_nil, aApp_none, aApp_some, aApp_grw, simprocAttr, amset, tyset, Function.comp_apply, one1, lenV, calleeOf, lateOk, belowV, aop, AV.ofValue, AV.ofCell, AV.cells, AV.flat, AV.one, arep, aBin, aConv]
  repeat refine And.intro (by clear hq; omega) ?_
  exact hq) (hok : okFn P f = true := by kernel_rfl) : ACallK P N n q Q none f args dst os r F H := call_v hok c (h g k)
theorem cdr {P : Program} {N n m : Nat} {q : Bool} {Q : Exit → Fr → AHeap → Prop} {dst : Option Tmp} {os : List LOp} {r : List It} {F : Fr} {H : AHeap} {f : FuncId} {args : List AV} {x : AV} {s G : Prop} (g : G) (c : ACalls P f args H fun y H1 => y = x ∧ H1 = H) (k : s) (h : G → s → AGo P N n q Q (.opsD m os :: r) (putF dst x F) H := by
  intro hs hq
  simp -implicitDefEqProofs (disch := omega) only [hs, aApp_nil, aApp_none, aApp_some, aApp_grw, simprocAttr, amset, tyset, Function.comp_apply, one1, lenV, calleeOf, lateOk, belowV, aop, AV.ofValue, AV.ofCell, AV.cells, AV.flat, AV.one, arep, aBin, aConv]
  repeat refine And.intro (by clear hq; omega) ?_
  exact hq) (hok : okFn P f = true := by kernel_rfl) : ACallK P N n q Q (some m) f args dst os r F H := call_d hok c (h g k)
/-- A state seen as another one, by the blocks that are kept. -/
theorem bS {H0 l1 l2 : AHeap} {F1 F2 : Fr} (hsc : HBel H0.length H0) (sel : List Nat) (h : absF (H0.length + (l1 ++ []).length) (sig H0.length (l1 ++ []).length sel) F1 F2 ∧ absH (H0.length + (l1 ++ []).length) (sig H0.length (l1 ++ []).length sel) (l1 ++ []) sel l2) (hnd : sel.Nodup := by decide) : Abs H0.length (sig H0.length (l1 ++ []).length sel) F1 (H0 ++ l1) F2 (H0 ++ l2) := Abs.byG hsc [] rfl sel hnd h
/-- The machine steps on to the end. -/
theorem eR {P : Program} {fn : Func} {H l1 : AHeap} {R : AV → AHeap → Prop} {F : Fr} {Q : Exit → Fr → AHeap → Prop} {G s : Prop} (g : G) (hQ : ∀ F H', AEnd P fn H.length R .ret F H' → ARet Q F H') (hbel : HBel H.length H) (x : AV) {l : List ResultVar} (h1 : fn.results = l.toArray) (hR : R x H) (h : G → ARet Q F (H ++ l1) → s := by
  intro hs hq
  simp -implicitDefEqProofs (disch := omega) only [hs, aApp_nil, aApp_none, aApp_some, aApp_grw, simprocAttr, amset, tyset, Function.comp_apply, one1, lenV, calleeOf, lateOk, belowV, aop, AV.ofValue, AV.ofCell, AV.cells, AV.flat, AV.one, arep, aBin, aConv]
  repeat refine And.intro (by clear hq; omega) ?_
  exact hq) (h2 : (aRes P l F (H ++ l1)).map one1 = some x := by simp -implicitDefEqProofs (disch := omega) only [simprocAttr, amset, tyset, Function.comp_apply, one1, lenV, calleeOf, lateOk, belowV, aop, AV.ofValue, AV.ofCell, AV.cells, AV.flat, AV.one, arep, aBin, aAppend, aConv]) (hp : x.bel 0 = true := by rfl) : s := h g (eP hQ hbel x h1 hR h2 hp)
end Go.Proofs.Ytbmfgcccgonaeaa
namespace Go.Proofs
open Go.Shelf
def Try.lays128_ren : Go.Shelf.Ren := ⟨fun | 128 => 66 | n => n, fun | 51 => 83 | 3 => 3 | 4 => 4 | 46 => 72 | 5 => 5 | 9 => 9 | n => n, fun | n => n⟩
theorem Try.lays128 : Go.Proofs.Lays.n128 Try.prog Try.lays128_ren := {
  mixed := by kernel_rfl
  f128 := Try.func66.trans (congrArg some (by kernel_rfl))
  t3 := Try.underlying3
  a3 := Try.isAgg3
  z3 := Try.sizeOf3
  v3 := Try.zeroValue3
  t4 := Try.underlying4
  a4 := Try.isAgg4
  z4 := Try.sizeOf4
  v4 := Try.zeroValue4
  t5 := Try.underlying5
  a5 := Try.isAgg5
  z5 := Try.sizeOf5
  v5 := Try.zeroValue5
  t9 := Try.underlying9
  a9 := Try.isAgg9
  z9 := Try.sizeOf9
  v9 := Try.zeroValue9
  t46 := Try.underlying72
  a46 := Try.isAgg72
  z46 := Try.sizeOf72
  v46 := Try.zeroValue72
  t51 := Try.underlying83
  a51 := Try.isAgg83
  z51 := Try.sizeOf83
  v51 := Try.zeroValue83 }
theorem Try.bits_Len32 (x : Int) (w : World) (h0 : 0 ≤ x) (h1 : x ≤ 4294967295) :
    Calls Try.prog 66 #[.int .u32 x] w fun e w' => e = .returned (.int .i64 (Lib.bitLen x.toNat)) ∧ w' = w := Any.bits_Len32 Try.lays128 x w h0 h1
def Try.lays125_ren : Go.Shelf.Ren := ⟨fun | 125 => 54 | 128 => 66 | 129 => 67 | n => n, fun | 46 => 72 | 3 => 3 | 51 => 83 | 53 => 85 | 4 => 4 | 5 => 5 | 9 => 9 | n => n, fun | n => n⟩
theorem Try.lays125 : Go.Proofs.Lays.n125 Try.prog Try.lays125_ren := {
  mixed := by kernel_rfl
  f125 := Try.func54.trans (congrArg some (by kernel_rfl))
  f128 := Try.func66.trans (congrArg some (by kernel_rfl))
  f129 := Try.func67.trans (congrArg some (by kernel_rfl))
  t3 := Try.underlying3
  a3 := Try.isAgg3
  z3 := Try.sizeOf3
  v3 := Try.zeroValue3
  t4 := Try.underlying4
  a4 := Try.isAgg4
  z4 := Try.sizeOf4
  v4 := Try.zeroValue4
  t5 := Try.underlying5
  a5 := Try.isAgg5
  z5 := Try.sizeOf5
  v5 := Try.zeroValue5
  t9 := Try.underlying9
  a9 := Try.isAgg9
  z9 := Try.sizeOf9
  v9 := Try.zeroValue9
  t46 := Try.underlying72
  a46 := Try.isAgg72
  z46 := Try.sizeOf72
  v46 := Try.zeroValue72
  t51 := Try.underlying83
  a51 := Try.isAgg83
  z51 := Try.sizeOf83
  v51 := Try.zeroValue83
  t53 := Try.underlying85
  a53 := Try.isAgg85
  z53 := Try.sizeOf85
  v53 := Try.zeroValue85 }
theorem Try.bits_Len (x : Int) (w : World) (h0 : 0 ≤ x) (h1 : x ≤ 18446744073709551615) :
    Calls Try.prog 54 #[.int .u64 x] w fun e w' => e = .returned (.int .i64 (Lib.bitLen x.toNat)) ∧ w' = w := Any.bits_Len Try.lays125 x w h0 h1
def Try.lays129_ren : Go.Shelf.Ren := ⟨fun | 129 => 67 | n => n, fun | 53 => 85 | 3 => 3 | 4 => 4 | 46 => 72 | 5 => 5 | 9 => 9 | n => n, fun | n => n⟩
theorem Try.lays129 : Go.Proofs.Lays.n129 Try.prog Try.lays129_ren := {
  mixed := by kernel_rfl
  f129 := Try.func67.trans (congrArg some (by kernel_rfl))
  t3 := Try.underlying3
  a3 := Try.isAgg3
  z3 := Try.sizeOf3
  v3 := Try.zeroValue3
  t4 := Try.underlying4
  a4 := Try.isAgg4
  z4 := Try.sizeOf4
  v4 := Try.zeroValue4
  t5 := Try.underlying5
  a5 := Try.isAgg5
  z5 := Try.sizeOf5
  v5 := Try.zeroValue5
  t9 := Try.underlying9
  a9 := Try.isAgg9
  z9 := Try.sizeOf9
  v9 := Try.zeroValue9
  t46 := Try.underlying72
  a46 := Try.isAgg72
  z46 := Try.sizeOf72
  v46 := Try.zeroValue72
  t53 := Try.underlying85
  a53 := Try.isAgg85
  z53 := Try.sizeOf85
  v53 := Try.zeroValue85 }
theorem Try.bits_Len64 (x : Int) (w : World) (h0 : 0 ≤ x) (h1 : x ≤ 18446744073709551615) :
    Calls Try.prog 67 #[.int .u64 x] w fun e w' => e = .returned (.int .i64 (Lib.bitLen x.toNat)) ∧ w' = w := Any.bits_Len64 Try.lays129 x w h0 h1
def Try.laysNm237_ren : Go.Shelf.Ren := ⟨fun | 37 => 46 | n => n, fun | 3 => 3 | 4 => 4 | n => n, fun | n => n⟩
theorem Try.laysNm237 : Go.Proofs.Lays2.n37 Try.prog Try.laysNm237_ren := {
  mixed := by kernel_rfl
  f37 := Try.func46.trans (congrArg some (by kernel_rfl))
  t3 := Try.underlying3
  a3 := Try.isAgg3
  z3 := Try.sizeOf3
  v3 := Try.zeroValue3
  t4 := Try.underlying4
  a4 := Try.isAgg4
  z4 := Try.sizeOf4
  v4 := Try.zeroValue4 }
open Go.RowKit Go.Lib in
theorem Try.cmp_isNaN_int2 (x : Int) (w : World) :
    Calls Try.prog 46 #[.int .i64 x] w fun e w' => e = .returned (.bool false) ∧ w' = w := Any.cmp_isNaN_int2 Try.laysNm237 x w
def Try.sort43_ren : Go.Shelf.Ren := ⟨fun | 6 => 43 | 15 => 54 | 14 => 53 | 28 => 66 | 29 => 67 | 20 => 55 | 21 => 59 | 22 => 60 | 23 => 61 | 24 => 62 | 25 => 63 | 26 => 64 | 27 => 65 | 46 => 69 | 47 => 70 | 48 => 71 | 49 => 72 | 50 => 73 | 57 => 75 | n => n, fun | 22 => 22 | 24 => 34 | 25 => 52 | 3 => 3 | 39 => 72 | 0 => 0 | 53 => 83 | 55 => 85 | 4 => 4 | 46 => 76 | 45 => 75 | 50 => 80 | 5 => 5 | 9 => 9 | 66 => 86 | 70 => 90 | 76 => 92 | 77 => 93 | n => n, fun | n => n⟩
theorem Try.sort43 : Go.Proofs.SlLaysF0.n6 Try.prog Try.sort43_ren := {
  mixed := by kernel_rfl
  f6 := ⟨Try.f43.name, by decide, Try.func43.trans (congrArg some (by kernel_rfl))⟩
  f14 := ⟨Try.f53.name, by decide, Try.func53.trans (congrArg some (by kernel_rfl))⟩
  f15 := Try.func54.trans (congrArg some (by kernel_rfl))
  f20 := ⟨Try.f55.name, by decide, Try.func55.trans (congrArg some (by kernel_rfl))⟩
  f21 := ⟨Try.f59.name, by decide, Try.func59.trans (congrArg some (by kernel_rfl))⟩
  f22 := ⟨Try.f60.name, by decide, Try.func60.trans (congrArg some (by kernel_rfl))⟩
  f23 := ⟨Try.f61.name, by decide, Try.func61.trans (congrArg some (by kernel_rfl))⟩
  f24 := ⟨Try.f62.name, by decide, Try.func62.trans (congrArg some (by kernel_rfl))⟩
  f25 := ⟨Try.f63.name, by decide, Try.func63.trans (congrArg some (by kernel_rfl))⟩
  f26 := ⟨Try.f64.name, by decide, Try.func64.trans (congrArg some (by kernel_rfl))⟩
  f27 := ⟨Try.f65.name, by decide, Try.func65.trans (congrArg some (by kernel_rfl))⟩
  f28 := Try.func66.trans (congrArg some (by kernel_rfl))
  f29 := Try.func67.trans (congrArg some (by kernel_rfl))
  f46 := ⟨Try.f69.name, by decide, Try.func69.trans (congrArg some (by kernel_rfl))⟩
  f47 := Try.func70.trans (congrArg some (by kernel_rfl))
  f48 := Try.func71.trans (congrArg some (by kernel_rfl))
  f49 := ⟨Try.f72.name, by decide, Try.func72.trans (congrArg some (by kernel_rfl))⟩
  f50 := ⟨Try.f73.name, by decide, Try.func73.trans (congrArg some (by kernel_rfl))⟩
  f57 := ⟨Try.f75.name, by decide, Try.func75.trans (congrArg some (by kernel_rfl))⟩
  t0 := Try.underlying0
  a0 := Try.isAgg0
  z0 := Try.sizeOf0
  v0 := Try.zeroValue0
  t3 := Try.underlying3
  a3 := Try.isAgg3
  z3 := Try.sizeOf3
  v3 := Try.zeroValue3
  t4 := Try.underlying4
  a4 := Try.isAgg4
  z4 := Try.sizeOf4
  v4 := Try.zeroValue4
  t5 := Try.underlying5
  a5 := Try.isAgg5
  z5 := Try.sizeOf5
  v5 := Try.zeroValue5
  t9 := Try.underlying9
  a9 := Try.isAgg9
  z9 := Try.sizeOf9
  v9 := Try.zeroValue9
  t22 := Try.underlying22
  a22 := Try.isAgg22
  z22 := Try.sizeOf22
  v22 := Try.zeroValue22
  t25 := Try.underlying52
  a25 := Try.isAgg52
  z25 := Try.sizeOf52
  v25 := Try.zeroValue52
  t39 := Try.underlying72
  a39 := Try.isAgg72
  z39 := Try.sizeOf72
  v39 := Try.zeroValue72
  t45 := Try.underlying75
  a45 := Try.isAgg75
  z45 := Try.sizeOf75
  v45 := Try.zeroValue75
  t46 := Try.underlying76
  a46 := Try.isAgg76
  z46 := Try.sizeOf76
  v46 := Try.zeroValue76
  t50 := Try.underlying80
  a50 := Try.isAgg80
  z50 := Try.sizeOf80
  v50 := Try.zeroValue80
  t53 := Try.underlying83
  a53 := Try.isAgg83
  z53 := Try.sizeOf83
  v53 := Try.zeroValue83
  t55 := Try.underlying85
  a55 := Try.isAgg85
  z55 := Try.sizeOf85
  v55 := Try.zeroValue85
  t66 := Try.underlying86
  a66 := Try.isAgg86
  z66 := Try.sizeOf86
  v66 := Try.zeroValue86
  t70 := Try.underlying90
  a70 := Try.isAgg90
  z70 := Try.sizeOf90
  v70 := Try.zeroValue90
  t76 := Try.underlying92
  a76 := Try.isAgg92
  z76 := Try.sizeOf92
  v76 := Try.zeroValue92
  t77 := Try.underlying93
  a77 := Try.isAgg93
  z77 := Try.sizeOf93
  v77 := Try.zeroValue93 }
def Try.grow51_ren : Go.Shelf.Ren := ⟨fun | 4 => 51 | n => n, fun | 22 => 22 | 25 => 34 | 3 => 3 | 4 => 4 | 9 => 9 | 20 => 20 | 0 => 0 | 2 => 3 | n => n, fun | n => n⟩
theorem Try.grow51 : Go.Proofs.Lays8.n4 Try.prog Try.grow51_ren := {
  mixed := by kernel_rfl
  f4 := ⟨Try.f51.name, by decide, Try.func51.trans (congrArg some (by kernel_rfl))⟩
  t0 := Try.underlying0
  a0 := Try.isAgg0
  z0 := Try.sizeOf0
  v0 := Try.zeroValue0
  t3 := Try.underlying3
  a3 := Try.isAgg3
  z3 := Try.sizeOf3
  v3 := Try.zeroValue3
  t4 := Try.underlying4
  a4 := Try.isAgg4
  z4 := Try.sizeOf4
  v4 := Try.zeroValue4
  t9 := Try.underlying9
  a9 := Try.isAgg9
  z9 := Try.sizeOf9
  v9 := Try.zeroValue9
  t20 := Try.underlying20
  a20 := Try.isAgg20
  z20 := Try.sizeOf20
  v20 := Try.zeroValue20
  t22 := Try.underlying22
  a22 := Try.isAgg22
  z22 := Try.sizeOf22
  v22 := Try.zeroValue22 }
end Go.Proofs
namespace Go.Proofs.Ytbmfgcccgonaeaa
set_option linter.unusedSimpArgs false
set_option linter.unusedVariables false
open Go.RowKit Go.Sort
theorem below_grow (w : World) (os : Array Obj) : Below w.heap.size w (Go.Sort.grow w os) := ⟨rfl, rfl, rfl, by simp [grow], fun k hk => heap_grow_old w os hk⟩
theorem splice_all {xs ys : List AV} (h : ys.length = xs.length) : splice xs 0 ys = ys := by
  have hl : 0 + ys.length ≤ xs.length := by omega
  refine List.ext_getElem? fun j => ?_
  rw [splice_get hl]
  by_cases hj : j < ys.length
  · rw [if_pos ⟨by omega, by omega⟩, Nat.sub_zero]
  rw [if_neg (by omega), List.getElem?_eq_none (by omega), List.getElem?_eq_none (by omega)]
theorem rels_prs {E : Env} : ∀ (l : List (Int × Int)), RelL E (prs l) (enc2 l)
  | [] => .nil E
  | p :: l => .cons (.int _ _) (.cons (.int _ _) (rels_prs l))
theorem prs_onef : ∀ (l : List (Int × Int)), (prs l).all AV.one = true
  | [] => rfl
  | p :: l => by rw [prs_cons]; simp [AV.one, prs_onef l]
section
variable {E : Env} {H : AHeap} {w : World}
theorem Emb.putP (h : Emb E H w) {b q : Nat} {zs ys : List (Int × Int)} (hg : H[b]? = some (.cells true 2 (prs zs))) (hl : ys.length = zs.length) (os : Array Obj) :
    Emb E (H.set b (.cells true 2 (prs ys))) (Go.Sort.grow ((w.drewN q).setCells (E.loc b).blk ((E.loc b).off) (enc2 ys)) os) := by
  have h0 : Emb E H (w.drewN q) := h.up (below_drewN (Below.refl _ _) q)
  have hw : awrite H b 0 (prs ys) = some (H.set b (.cells true 2 (prs ys))) := by
    unfold awrite
    rw [hg]
    simp only
    rw [if_pos ⟨by simp [prs_len, hl], prs_onef ys⟩, splice_all (by simp [prs_len, hl])]
  exact ((h0.write (rels_prs ys) hw).2.2.2).up (below_grow _ os)
end
/-- Elements as their two cells. -/
def encP {α : Type} (val : α → Int × Int) (x : α) : List Value := [.int .i64 (val x).1, .int .i64 (val x).2]
theorem flat_list {α : Type} [Inhabited α] (val : α → Int × Int) (zs : List α) : flatK (encP val) 2 zs.toArray = (enc2 (zs.map val)).toArray := by
  refine ext_get! (by simp [enc2_len]) fun t ht => ?_
  have ht' : t < zs.length * 2 := by simpa using ht
  rw [get_flatK _ _ _ _ (by simpa using ht')]
  have hj : t / 2 < zs.length := by omega
  obtain ⟨e1, e2⟩ := enc2_at (zs.map val) (t / 2) (by simpa using hj)
  have hx : zs.toArray[t / 2]! = zs[t / 2] := by simp [hj]
  rw [hx]
  have hr : (enc2 (zs.map val)).toArray[t]! = ((enc2 (zs.map val))[t]?).getD default := by simp [List.getElem!_eq_getElem?_getD]
  rw [hr]
  rcases Nat.mod_two_eq_zero_or_one t with h | h
  · have : t = t / 2 * 2 := by omega
    rw [← this] at e1
    rw [h, e1]
    simp [encP]
  have : t = t / 2 * 2 + 1 := by omega
  rw [← this] at e2
  rw [h, e2]
  simp [encP]
set_option maxRecDepth 100000 in
theorem sortf_a {α : Type} [Inhabited α] (val : α → Int × Int) (cf : α → α → Int) (hO : SWO (ltOf cf)) (g : FuncId) (eg : ∀ args w, (callFunc g args).run Try.prog w = .ok (.enter g args) w)
    (hcmp : ∀ (x y : α) (W : World), Calls Try.prog g #[.agg #[.int .i64 (val x).1, .int .i64 (val x).2], .agg #[.int .i64 (val y).1, .int .i64 (val y).2]] W fun e w' => e = .returned (.int .i64 (cf x y)) ∧ ∃ q os', w' = grow (W.drewN q) os')
    {H : AHeap} {b n : Nat} {cap : Option Nat} {zs : List α} (hg : H[b]? = some (.cells true 2 (prs (zs.map val)))) (hn : n = zs.length) (h0 : 0 < n) (h1 : n ≤ 1000000) :
    ACalls Try.prog 43 [.sl (some (b, 0)) n cap, .fn g []] H
      (fun v H' => v = .tup [] ∧ ∃ ys : List α, ys.Perm zs ∧ ys.Pairwise (fun x y => ltOf cf y x = false) ∧ H' = H.set b (.cells true 2 (prs (ys.map val)))) := fun E w vs hE hv => by
  obtain ⟨v1, l1, rfl, k1, h1'⟩ := rels_cons hv
  obtain ⟨v2, l2, rfl, k2, h2'⟩ := rels_cons h1'
  obtain rfl := rels_nil h2'
  have hf : v2 = .func (.func g) #[] #[] := by
    cases k2 with
    | fn _ _ cs hl _ =>
      have : cs = #[] := by
        have : cs.size = 0 := hl.symm
        exact Array.eq_empty_of_size_eq_zero this
      rw [this]
  subst hf
  cases k1 with
  | nils _ _ _ _ => exact absurd h0 (Nat.lt_irrefl 0)
  | sl _ _ _ _ c a hb h2 h3 h4 h5 h6 =>
  have hc : c ≠ 0 := by omega
  obtain rfl := h5.resolve_left hc
  obtain ⟨m1, m2, -, -⟩ := hE.blk b _ hg
  obtain ⟨o1, o2, o3, o4, o5⟩ := m2 rfl
  have hpl : (prs (zs.map val)).length = zs.length * 2 := by rw [prs_len]; simp
  have hH : HoldsK (encP val) 2 w (E.loc b).blk (E.loc b).off zs.toArray := by
    show Holds id w _ _ (flatK (encP val) 2 zs.toArray)
    rw [flat_list]
    intro j hj
    have hj' : j < zs.length * 2 := by simpa [enc2_len] using hj
    refine ⟨?_, (o5 j (by omega)).2⟩
    have hx : (prs (zs.map val))[j]? = some (prs (zs.map val))[j] := List.getElem?_eq_getElem (by omega)
    obtain ⟨-, v, hv, hr⟩ := m1 j _ hx
    rw [hv]
    obtain ⟨u, hu, hru⟩ := (rels_prs (E := E) (zs.map val)).get hx
    have : ∀ (k : Nat) (l : List (Int × Int)) (y : AV) (v u : Value), (prs l)[k]? = some y → Rel E y v → (enc2 l)[k]? = some u → v = u := by
      intro k l
      induction l generalizing k with
      | nil => intro y v u h; simp [prs] at h
      | cons p l ih =>
        intro y v u h1 h2 h3
        match k with
        | 0 => simp [prs_cons, enc2] at h1 h3; subst h1 h3; exact rel_int h2
        | 1 => simp [prs_cons, enc2] at h1 h3; subst h1 h3; exact rel_int h2
        | k + 2 =>
          refine ih k y v u (by simpa [prs_cons] using h1) h2 ?_
          simpa [enc2] using h3
    have e := this j _ _ v u hx hr hu
    subst e
    simp [List.getElem!_eq_getElem?_getD, hu]
  have hcon := AnyQ.slices_SortFunc Try.sort43 2 Try.isAgg34 Try.sizeOf34 (encP val) (fun _ => rfl) (fun x v hv => by simp [encP] at hv; rcases hv with rfl | rfl <;> rfl) cf hO g #[] (E.loc b).blk (E.loc b).off c zs.toArray w eg
    (fun _ _ _ _ x y => by simpa [encP] using hcmp x y _) hH o2 (by simp; omega)
  change Calls Try.prog 43 _ _ _ at hcon
  have hsz : zs.toArray.size = n := by simp [hn]
  rw [hsz] at hcon
  refine hcon.mono fun e w' ⟨he, d', q, os, hp, hs, hw⟩ => ?_
  subst hw
  obtain ⟨p1, -, p3⟩ := hp
  have hperm : d'.toList.Perm zs := by
    have a1 : d'.extract 0 n = d' := by rw [← hsz, ← p1]; simp
    have a2 : zs.toArray.extract 0 n = zs.toArray := by rw [← hsz]; simp
    rw [a1, a2] at p3
    simpa using p3
  have hl : (d'.toList.map val).length = (zs.map val).length := by simp [hperm.length_eq]
  refine ⟨E, _, _, .tup [], he, ⟨rfl, d'.toList, hperm, ?_, rfl⟩, .refl E, .tup [] #[] rfl (fun i x v h => by simp at h), ?_⟩
  · rw [List.pairwise_iff_getElem]
    intro i j hi hj hij
    have := hs i j (Nat.zero_le _) hij (by have := hperm.length_eq; simp at hj this; omega)
    simp at hi hj
    simpa [hi, hj] using this
  have hd : d' = d'.toList.toArray := by simp
  have e1 : sortWorldK (encP val) 2 w (E.loc b).blk (E.loc b).off q d' os = grow ((w.drewN q).setCells (E.loc b).blk (E.loc b).off (enc2 (d'.toList.map val))) os := by
    unfold sortWorldK
    congr 1
    show putRow id (Sort.ahead w q) _ _ (flatK (encP val) 2 d') = _
    rw [hd, flat_list]
    have := Lib.putRow_eq_setCells id w (E.loc b).blk (E.loc b).off (flatK (encP val) 2 zs.toArray) (enc2 (d'.toList.map val)) q hH (by rw [enc2_len, hl]; simp)
    simpa using this
  rw [e1]
  exact hE.putP hg hl os
set_option linter.unusedSimpArgs false
set_option linter.unusedVariables false
open Go.RowKit
abbrev Pt := Int × Int
def crs (a b : Pt) : Int := a.1 * b.2 - a.2 * b.1
/-- In the upper half plane (or on its right border), and not zero. -/
def up (p : Pt) : Prop := 0 < p.2 ∨ (p.2 = 0 ∧ 0 < p.1)
instance (p : Pt) : Decidable (up p) := inferInstanceAs (Decidable (_ ∨ _))
theorem crs_self (a : Pt) : crs a a = 0 := by unfold crs; rw [Int.mul_comm]; omega
theorem crs_anti (a b : Pt) : crs b a = -crs a b := by unfold crs; rw [Int.mul_comm b.1, Int.mul_comm b.2]; omega
theorem crs_id (x y z : Pt) : y.2 * crs x z = z.2 * crs x y + x.2 * crs y z := by unfold crs; grind
theorem up_y {p : Pt} (h : up p) : 0 ≤ p.2 := by unfold up at h; omega
theorem up_ne {p : Pt} (h : up p) : p ≠ (0, 0) := by rintro rfl; unfold up at h; simp at h
theorem crs_pos_y {x y : Pt} (hx : up x) (hy : up y) (h : 0 < crs x y) : 0 < y.2 := by
  have h1 := up_y hx
  have h2 := up_y hy
  rcases Int.lt_or_eq_of_le h2 with h3 | h3
  · exact h3
  exfalso
  have h4 : 0 < y.1 := by unfold up at hy; omega
  unfold crs at h
  rw [← h3, Int.mul_zero] at h
  have := Int.mul_nonneg h1 (Int.le_of_lt h4)
  omega
theorem pos_of {a b : Int} (h : 0 < a * b) (ha : 0 < a) : 0 < b := Int.lt_of_mul_lt_mul_left (a := a) (b := 0) (c := b) (by simpa using h) (Int.le_of_lt ha)
theorem nonneg_of {a b : Int} (h : 0 ≤ a * b) (ha : 0 < a) : 0 ≤ b := Int.le_of_mul_le_mul_left (a := a) (b := 0) (c := b) (by simpa using h) ha
theorem crs_trans {x y z : Pt} (hx : up x) (hy : up y) (hz : up z) (h1 : 0 < crs x y) (h2 : 0 < crs y z) : 0 < crs x z := by
  have y0 := crs_pos_y hx hy h1
  have z0 := crs_pos_y hy hz h2
  have e := crs_id x y z
  have a := Int.mul_pos z0 h1
  have b := Int.mul_nonneg (up_y hx) (Int.le_of_lt h2)
  exact pos_of (by omega) y0
theorem crs_ntrans {x y z : Pt} (hx : up x) (hy : up y) (hz : up z) (h1 : 0 ≤ crs x y) (h2 : 0 ≤ crs y z) : 0 ≤ crs x z := by
  have e := crs_id x y z
  have a := Int.mul_nonneg (up_y hz) h1
  have b := Int.mul_nonneg (up_y hx) h2
  rcases Int.lt_or_eq_of_le (up_y hy) with h | h
  · exact nonneg_of (by omega) h
  have y1 : 0 < y.1 := by unfold up at hy; omega
  have hx2 : x.2 = 0 := by
    unfold crs at h1
    rw [← h, Int.mul_zero] at h1
    rcases Int.lt_or_eq_of_le (up_y hx) with k | k
    · have := Int.mul_pos k y1; omega
    exact k.symm
  have hx1 : 0 < x.1 := by unfold up at hx; omega
  unfold crs
  rw [hx2, Int.zero_mul, Int.sub_zero]
  exact Int.mul_nonneg (Int.le_of_lt hx1) (up_y hz)
theorem par_trans {x y z : Pt} (hx : up x) (hy : up y) (hz : up z) (h1 : crs x y = 0) (h2 : crs y z = 0) : crs x z = 0 := by
  have a := crs_ntrans hx hy hz (by omega) (by omega)
  have b := crs_ntrans hz hy hx (by rw [crs_anti]; omega) (by rw [crs_anti]; omega)
  rw [crs_anti] at b
  omega
/-- Behind a parallel one the order is the same. -/
theorem crs_par_l {x y z : Pt} (hx : up x) (hy : up y) (hz : up z) (h1 : crs x y = 0) (h2 : 0 < crs y z) : 0 < crs x z := by
  have a := crs_ntrans hx hy hz (by omega) (by omega)
  rcases Int.lt_or_eq_of_le a with h | h
  · exact h
  have := par_trans hy hx hz (by rw [crs_anti]; omega) h.symm
  omega
theorem crs_par_r {x y z : Pt} (hx : up x) (hy : up y) (hz : up z) (h1 : 0 < crs x y) (h2 : crs y z = 0) : 0 < crs x z := by
  have a := crs_ntrans hx hy hz (by omega) (by omega)
  rcases Int.lt_or_eq_of_le a with h | h
  · exact h
  have := par_trans hx hz hy h.symm (by rw [crs_anti]; omega)
  omega
def padd (a b : Pt) : Pt := (a.1 + b.1, a.2 + b.2)
theorem padd_comm (a b : Pt) : padd a b = padd b a := by unfold padd; rw [Int.add_comm, Int.add_comm a.2]
theorem padd_assoc (a b c : Pt) : padd (padd a b) c = padd a (padd b c) := by simp [padd, Int.add_assoc]
theorem padd_zero (a : Pt) : padd a (0, 0) = a := by simp [padd]
theorem zero_padd (a : Pt) : padd (0, 0) a = a := by simp [padd]
theorem crs_add_l (a b c : Pt) : crs (padd a b) c = crs a c + crs b c := by unfold crs padd; grind
theorem crs_add_r (a b c : Pt) : crs a (padd b c) = crs a b + crs a c := by unfold crs padd; grind
theorem up_add {a b : Pt} (h1 : up a) (h2 : up b) : up (padd a b) := by unfold up padd at *; simp only; omega
def nrm (g : Pt) : Pt := if g.2 < 0 ∨ (g.2 = 0 ∧ g.1 < 0) then (-g.1, -g.2) else g
theorem nrm_up {g : Pt} (h : nrm g ≠ (0, 0)) : up (nrm g) := by
  unfold nrm at *
  split
  · unfold up; simp only; omega
  rename_i hc
  rw [if_neg hc] at h
  have : g.1 ≠ 0 ∨ g.2 ≠ 0 := by
    rcases Decidable.em (g.1 = 0) with e | e
    · right; intro e2; exact h (Prod.ext e e2)
    exact .inl e
  unfold up; omega
/-- The sum of those that are parallel to g. -/
def dsum : List Pt → Pt → Pt
  | [], _ => (0, 0)
  | h :: l, g => if crs h g = 0 then padd h (dsum l g) else dsum l g
theorem dsum_append (g : Pt) : ∀ l m : List Pt, dsum (l ++ m) g = padd (dsum l g) (dsum m g)
  | [], m => by rw [List.nil_append]; exact (zero_padd _).symm
  | h :: l, m => by
    simp only [List.cons_append, dsum, dsum_append g l m]
    split
    · rw [padd_assoc]
    rfl
theorem dsum_perm {l m : List Pt} (g : Pt) (h : l.Perm m) : dsum l g = dsum m g := by
  induction h with
  | nil => rfl
  | cons x _ ih => simp only [dsum, ih]
  | swap x y l =>
    simp only [dsum]
    split <;> split <;> try rfl
    rw [← padd_assoc, ← padd_assoc, padd_comm y x]
  | trans _ _ ih1 ih2 => rw [ih1, ih2]
theorem dsum_none {l : List Pt} {g : Pt} (h : ∀ e ∈ l, crs e g ≠ 0) : dsum l g = (0, 0) := by
  induction l with
  | nil => rfl
  | cons x l ih =>
    simp only [dsum]
    rw [if_neg (h x (by simp)), ih fun e he => h e (by simp [he])]
/-- C is the canonical form of the directions in S. -/
structure Can (C S : List Pt) : Prop where
  sorted : C.Pairwise fun a b => 0 < crs a b
  ups : ∀ e ∈ C, up e
  sums : ∀ g, up g → dsum C g = dsum S g
theorem Can.perm {C S S' : List Pt} (h : Can C S) (hp : S.Perm S') : Can C S' := ⟨h.sorted, h.ups, fun g hg => by rw [h.sums g hg, dsum_perm g hp]⟩
theorem Can.own {C S : List Pt} (h : Can C S) {e : Pt} (he : e ∈ C) : dsum C e = e := by
  obtain ⟨A, B, rfl⟩ := List.append_of_mem he
  have hs := h.sorted
  rw [List.pairwise_append] at hs
  obtain ⟨h1, h2, h3⟩ := hs
  rw [List.pairwise_cons] at h2
  rw [dsum_append]
  simp only [dsum, crs_self, if_true]
  rw [dsum_none (l := A) fun a ha => by have := h3 a ha e (by simp); omega, dsum_none (l := B) fun b hb => by have := h2.1 b hb; rw [crs_anti]; omega, padd_zero, zero_padd]
theorem Can.par {C S : List Pt} (h : Can C S) {g : Pt} (hg : up g) (hne : dsum C g ≠ (0, 0)) : dsum C g ∈ C := by
  have hex : ∃ e ∈ C, crs e g = 0 := by
    apply Classical.byContradiction
    intro hno
    exact hne (dsum_none fun e he h0 => hno ⟨e, he, h0⟩)
  obtain ⟨e, he, h0⟩ := hex
  have hu := h.ups e he
  have heq : dsum C g = dsum C e := by
    have : ∀ l : List Pt, (∀ x ∈ l, up x) → dsum l g = dsum l e := by
      intro l
      induction l with
      | nil => exact fun _ => rfl
      | cons x l ih =>
        intro hl
        have hx := hl x (by simp)
        simp only [dsum, ih fun y hy => hl y (by simp [hy])]
        by_cases hc : crs x g = 0
        · rw [if_pos hc, if_pos (par_trans hx hg hu hc (by rw [crs_anti]; omega))]
        rw [if_neg hc, if_neg fun h1 => hc (par_trans hx hu hg h1 h0)]
    exact this C h.ups
  rw [heq, h.own he]; exact he
theorem eq_of_sorted {r : Pt → Pt → Prop} (has : ∀ a b, r a b → ¬ r b a) : ∀ (l m : List Pt), l.Pairwise r → m.Pairwise r → (∀ x, x ∈ l ↔ x ∈ m) → l = m
  | [], [], _, _, _ => rfl
  | [], b :: m, _, _, h => absurd ((h b).2 (by simp)) (by simp)
  | a :: l, [], _, _, h => absurd ((h a).1 (by simp)) (by simp)
  | a :: l, b :: m, h1, h2, h => by
    rw [List.pairwise_cons] at h1 h2
    have hirr : ∀ x, ¬ r x x := fun x hx => has x x hx hx
    have hab : a = b := by
      rcases List.mem_cons.1 ((h a).1 (by simp)) with e | hm
      · exact e
      rcases List.mem_cons.1 ((h b).2 (by simp)) with e | hl
      · exact e.symm
      exact absurd (h1.1 b hl) (has _ _ (h2.1 a hm))
    subst hab
    have : l = m := eq_of_sorted has l m h1.2 h2.2 fun x => by
      constructor
      · intro hx
        rcases List.mem_cons.1 ((h x).1 (by simp [hx])) with e | hm
        · subst e; exact absurd (h1.1 x hx) (hirr x)
        exact hm
      intro hx
      rcases List.mem_cons.1 ((h x).2 (by simp [hx])) with e | hm
      · subst e; exact absurd (h2.1 x hx) (hirr x)
      exact hm
    rw [this]
/-- The canonical form is one only. -/
theorem Can.eq {C C' S : List Pt} (h : Can C S) (h' : Can C' S) : C = C' := by
  refine eq_of_sorted (r := fun a b => 0 < crs a b) (fun a b h => by rw [crs_anti]; omega) C C' h.sorted h'.sorted fun x => ?_
  have key : ∀ {C C' : List Pt}, Can C S → Can C' S → ∀ x, x ∈ C → x ∈ C' := fun {C C'} h h' x hx => by
    have e : dsum C' x = x := by rw [h'.sums x (h.ups x hx), ← h.sums x (h.ups x hx), h.own hx]
    have := h'.par (h.ups x hx) (by rw [e]; exact up_ne (h.ups x hx))
    rwa [e] at this
  exact ⟨key h h' x, key h' h x⟩
open Go.RowKit
/-- One element of the old form, with the generator g on its way (done: it has been put). -/
def pst (g : Pt) (s : List Pt × Bool) (e : Pt) : List Pt × Bool :=
  if crs g e = 0 then (s.1 ++ [padd e g], true) else if 0 < crs g e ∧ s.2 = false then (s.1 ++ [g, e], true) else (s.1 ++ [e], s.2)
def putC (C : List Pt) (g : Pt) : List Pt := let s := C.foldl (pst g) ([], false); if s.2 = true then s.1 else s.1 ++ [g]
/-- One more generator. -/
def putL (C : List Pt) (g : Pt) : List Pt := if nrm g = (0, 0) then C else putC C (nrm g)
def canonL (l : List Pt) : List Pt := l.foldl putL []
/-- The directions of generators. -/
def dirs (l : List Pt) : List Pt := (l.map nrm).filter fun g => decide (g ≠ (0, 0))
theorem dirs_up {l : List Pt} : ∀ e ∈ dirs l, up e := fun e he => by
  unfold dirs at he
  simp only [List.mem_filter, List.mem_map, decide_eq_true_eq] at he
  obtain ⟨⟨g, -, rfl⟩, h⟩ := he
  exact nrm_up h
theorem pst_before {g : Pt} : ∀ (A : List Pt) (o : List Pt) (d : Bool), (∀ a ∈ A, crs g a < 0) → A.foldl (pst g) (o, d) = (o ++ A, d)
  | [], o, d, _ => by simp
  | a :: A, o, d, h => by
    have ha := h a (by simp)
    rw [List.foldl_cons]
    have : pst g (o, d) a = (o ++ [a], d) := by
      unfold pst
      rw [if_neg (by omega), if_neg (by simp only; omega)]
    rw [this, pst_before A _ d fun b hb => h b (by simp [hb])]
    simp
theorem pst_behind {g : Pt} : ∀ (A : List Pt) (o : List Pt), (∀ a ∈ A, 0 < crs g a) → A.foldl (pst g) (o, true) = (o ++ A, true)
  | [], o, _ => by simp
  | a :: A, o, h => by
    have ha := h a (by simp)
    rw [List.foldl_cons]
    have : pst g (o, true) a = (o ++ [a], true) := by
      unfold pst
      rw [if_neg (by omega), if_neg (by simp)]
    rw [this, pst_behind A _ fun b hb => h b (by simp [hb])]
    simp
/-- Where g stands in a sorted row. -/
theorem split_at {g : Pt} (hg : up g) : ∀ (C : List Pt), C.Pairwise (fun a b => 0 < crs a b) → (∀ e ∈ C, up e) →
    (∃ A B, C = A ++ B ∧ (∀ a ∈ A, crs g a < 0) ∧ ∀ b ∈ B, 0 < crs g b) ∨ ∃ A e B, C = A ++ e :: B ∧ (∀ a ∈ A, crs g a < 0) ∧ crs g e = 0 ∧ ∀ b ∈ B, 0 < crs g b
  | [], _, _ => .inl ⟨[], [], rfl, by simp, by simp⟩
  | c :: C, hs, hu => by
    rw [List.pairwise_cons] at hs
    have hc := hu c (by simp)
    rcases Int.lt_trichotomy (crs g c) 0 with h | h | h
    · rcases split_at hg C hs.2 (fun e he => hu e (by simp [he])) with ⟨A, B, rfl, h1, h2⟩ | ⟨A, e, B, rfl, h1, h2, h3⟩
      · exact .inl ⟨c :: A, B, rfl, fun a ha => by
          rcases List.mem_cons.1 ha with rfl | ha
          · exact h
          exact h1 a ha, h2⟩
      exact .inr ⟨c :: A, e, B, rfl, fun a ha => by
        rcases List.mem_cons.1 ha with rfl | ha
        · exact h
        exact h1 a ha, h2, h3⟩
    · exact .inr ⟨[], c, C, rfl, by simp, h, fun b hb => crs_par_l hg hc (hu b (by simp [hb])) h (hs.1 b hb)⟩
    exact .inl ⟨[], c :: C, rfl, by simp, fun b hb => by
      rcases List.mem_cons.1 hb with rfl | hb
      · exact h
      exact crs_trans hg hc (hu b (by simp [hb])) h (hs.1 b hb)⟩
theorem putC_none {A B : List Pt} {g : Pt} (h1 : ∀ a ∈ A, crs g a < 0) (h2 : ∀ b ∈ B, 0 < crs g b) : putC (A ++ B) g = A ++ g :: B := by
  unfold putC
  simp only [List.foldl_append, pst_before A [] false h1, List.nil_append]
  cases B with
  | nil => simp
  | cons b B =>
    have hb := h2 b (by simp)
    rw [List.foldl_cons]
    have : pst g (A, false) b = (A ++ [g, b], true) := by
      unfold pst
      rw [if_neg (by omega), if_pos ⟨hb, rfl⟩]
    rw [this, pst_behind B _ fun c hc => h2 c (by simp [hc])]
    simp
theorem putC_some {A B : List Pt} {g e : Pt} (h1 : ∀ a ∈ A, crs g a < 0) (h0 : crs g e = 0) (h2 : ∀ b ∈ B, 0 < crs g b) : putC (A ++ e :: B) g = A ++ padd e g :: B := by
  unfold putC
  simp only [List.foldl_append, pst_before A [] false h1, List.nil_append, List.foldl_cons]
  have : pst g (A, false) e = (A ++ [padd e g], true) := by
    unfold pst
    rw [if_pos h0]
  rw [this, pst_behind B _ h2]
  simp
theorem putC_can {C S : List Pt} (h : Can C S) {g : Pt} (hg : up g) : Can (putC C g) (S ++ [g]) := by
  have hsum : ∀ (k : Pt), dsum (S ++ [g]) k = if crs g k = 0 then padd (dsum S k) g else dsum S k := fun k => by
    rw [dsum_append]
    simp only [dsum]
    split
    · rw [padd_zero]
    rw [padd_zero]
  rcases split_at hg C h.sorted h.ups with ⟨A, B, rfl, h1, h2⟩ | ⟨A, e, B, rfl, h1, h0, h2⟩
  · rw [putC_none h1 h2]
    have hs := h.sorted
    rw [List.pairwise_append] at hs
    refine ⟨?_, fun x hx => ?_, fun k hk => ?_⟩
    · rw [List.pairwise_append, List.pairwise_cons]
      exact ⟨hs.1, ⟨h2, hs.2.1⟩, fun a ha b hb => by
        rcases List.mem_cons.1 hb with rfl | hb
        · rw [crs_anti]; have := h1 a ha; omega
        exact hs.2.2 a ha b hb⟩
    · rcases List.mem_append.1 hx with hx | hx
      · exact h.ups x (by simp [hx])
      rcases List.mem_cons.1 hx with rfl | hx
      · exact hg
      exact h.ups x (by simp [hx])
    rw [hsum, ← h.sums k hk, dsum_append, dsum_append]
    simp only [dsum]
    split
    · rw [padd_assoc, padd_comm g]
    rfl
  rw [putC_some h1 h0 h2]
  have hs := h.sorted
  rw [List.pairwise_append, List.pairwise_cons] at hs
  have he := h.ups e (by simp)
  have heg : ∀ k, crs (padd e g) k = crs e k + crs g k := fun k => crs_add_l e g k
  refine ⟨?_, fun x hx => ?_, fun k hk => ?_⟩
  · rw [List.pairwise_append, List.pairwise_cons]
    refine ⟨hs.1, ⟨fun b hb => ?_, hs.2.1.2⟩, fun a ha b hb => ?_⟩
    · rw [heg]; have := hs.2.1.1 b hb; have := h2 b hb; omega
    rcases List.mem_cons.1 hb with rfl | hb
    · rw [crs_add_r]; have := hs.2.2 a ha e (by simp); have := h1 a ha; have := crs_anti g a; omega
    exact hs.2.2 a ha b (by simp [hb])
  · rcases List.mem_append.1 hx with hx | hx
    · exact h.ups x (by simp [hx])
    rcases List.mem_cons.1 hx with rfl | hx
    · exact up_add he hg
    exact h.ups x (by simp [hx])
  rw [hsum, ← h.sums k hk, dsum_append, dsum_append]
  simp only [dsum]
  have e1 : crs e k = 0 ↔ crs g k = 0 := ⟨fun h3 => par_trans hg he hk h0 h3, fun h3 => par_trans he hg hk (by rw [crs_anti]; omega) h3⟩
  by_cases hc : crs g k = 0
  · rw [if_pos (by rw [heg]; have := e1.2 hc; omega), if_pos (e1.2 hc), if_pos hc]
    simp only [padd, Prod.mk.injEq]; omega
  have hc' : crs e k ≠ 0 := fun h3 => hc (e1.1 h3)
  have hne : crs (padd e g) k ≠ 0 := by
    intro h3
    -- e + g is parallel to e
    have h4 : crs e (padd e g) = 0 := by rw [crs_add_r, crs_self, crs_anti]; omega
    exact hc' (par_trans he (up_add he hg) hk h4 h3)
  rw [if_neg hne, if_neg hc', if_neg hc]
theorem Can.nil : Can [] [] := ⟨.nil, by simp, fun _ _ => rfl⟩
theorem canonL_can (l : List Pt) : Can (canonL l) (dirs l) := by
  have gen : ∀ (l : List Pt) (C S : List Pt), Can C S → Can (l.foldl putL C) (S ++ dirs l) := by
    intro l
    induction l with
    | nil => intro C S h; simpa [dirs] using h
    | cons g l ih =>
      intro C S h
      rw [List.foldl_cons]
      by_cases h0 : nrm g = (0, 0)
      · have e1 : putL C g = C := by unfold putL; rw [if_pos h0]
        have e2 : dirs (g :: l) = dirs l := by simp [dirs, h0]
        rw [e1, e2]; exact ih C S h
      have e1 : putL C g = putC C (nrm g) := by unfold putL; rw [if_neg h0]
      have e2 : dirs (g :: l) = nrm g :: dirs l := by simp [dirs, h0]
      rw [e1, e2]
      have := ih (putC C (nrm g)) (S ++ [nrm g]) (putC_can h (nrm_up h0))
      simpa using this
  have := gen l [] [] .nil
  simpa [canonL] using this
/-- Merging a sorted row. -/
def mst (out : List Pt) (g : Pt) : List Pt :=
  match out.getLast? with
  | some k => if crs k g = 0 then out.dropLast ++ [padd k g] else out ++ [g]
  | none => out ++ [g]
def mergeL (S : List Pt) : List Pt := S.foldl mst []
theorem mst_nil (g : Pt) : mst [] g = [g] := rfl
theorem mst_snoc (o : List Pt) (k g : Pt) : mst (o ++ [k]) g = if crs k g = 0 then o ++ [padd k g] else o ++ [k] ++ [g] := by
  unfold mst
  rw [List.getLast?_append]
  simp
theorem merge_can (S : List Pt) (hs : S.Pairwise fun a b => 0 ≤ crs a b) (hu : ∀ e ∈ S, up e) : Can (mergeL S) S := by
  have gen : ∀ (T P out : List Pt), Can out P → (P = [] ↔ out = []) → (∀ k, out.getLast? = some k → ∀ t ∈ T, 0 ≤ crs k t) → T.Pairwise (fun a b => 0 ≤ crs a b) → (∀ e ∈ T, up e) → Can (T.foldl mst out) (P ++ T) := by
    intro T
    induction T with
    | nil => intro P out h _ _ _ _; simpa using h
    | cons g T ih =>
      intro P out h hn hl ht hu
      rw [List.pairwise_cons] at ht
      have hg := hu g (by simp)
      rw [List.foldl_cons]
      have e : P ++ g :: T = (P ++ [g]) ++ T := by simp
      rw [e]
      have hsum : ∀ (k : Pt), dsum (P ++ [g]) k = if crs g k = 0 then padd (dsum P k) g else dsum P k := fun k => by
        rw [dsum_append]
        simp only [dsum]
        split
        · rw [padd_zero]
        rw [padd_zero]
      rcases List.eq_nil_or_concat out with rfl | ⟨o, k, rfl⟩
      · rw [mst_nil]
        have hP : P = [] := hn.2 rfl
        subst hP
        refine ih [g] [g] ⟨by simp, by simpa using hg, fun _ _ => rfl⟩ (by simp) (fun k hk t htm => ?_) ht.2 (fun x hx => hu x (by simp [hx]))
        simp at hk; subst hk
        exact ht.1 t htm
      rw [List.concat_eq_append] at *
      have hk := h.ups k (by simp)
      have hkg := hl k (by simp) g (by simp)
      have hso := h.sorted
      rw [List.pairwise_append] at hso
      have hok : ∀ a ∈ o, 0 < crs a k := fun a ha => hso.2.2 a ha k (by simp)
      rw [mst_snoc]
      by_cases hc : crs k g = 0
      · rw [if_pos hc]
        have hkgk : crs k (padd k g) = 0 := by rw [crs_add_r, crs_self]; omega
        have hupkg := up_add hk hg
        refine ih (P ++ [g]) (o ++ [padd k g]) ⟨?_, fun x hx => ?_, fun z hz => ?_⟩ (by simp) (fun q hq t htm => ?_) ht.2 (fun x hx => hu x (by simp [hx]))
        · rw [List.pairwise_append]
          exact ⟨hso.1, by simp, fun a ha b hb => by
            simp at hb; subst hb
            exact crs_par_r (h.ups a (by simp [ha])) hk hupkg (hok a ha) hkgk⟩
        · rcases List.mem_append.1 hx with hx | hx
          · exact h.ups x (by simp [hx])
          simp at hx; subst hx; exact hupkg
        · rw [hsum, ← h.sums z hz, dsum_append, dsum_append]
          simp only [dsum]
          have e1 : crs k z = 0 ↔ crs g z = 0 := ⟨fun h3 => par_trans hg hk hz (by rw [crs_anti]; omega) h3, fun h3 => par_trans hk hg hz hc h3⟩
          by_cases hcz : crs g z = 0
          · rw [if_pos (by rw [crs_add_l]; have := e1.2 hcz; omega), if_pos (e1.2 hcz), if_pos hcz]
            simp only [padd, Prod.mk.injEq]; omega
          have hcz' : crs k z ≠ 0 := fun h3 => hcz (e1.1 h3)
          have hne : crs (padd k g) z ≠ 0 := fun h3 => hcz' (par_trans hk hupkg hz hkgk h3)
          rw [if_neg hne, if_neg hcz', if_neg hcz]
        simp at hq; subst hq
        rw [crs_add_l]
        have h5 := hl k (by simp) t (by simp [htm])
        have h6 := ht.1 t htm
        omega
      rw [if_neg hc]
      refine ih (P ++ [g]) (o ++ [k] ++ [g]) ⟨?_, fun x hx => ?_, fun z hz => ?_⟩ (by simp) (fun q hq t htm => ?_) ht.2 (fun x hx => hu x (by simp [hx]))
      · rw [List.pairwise_append]
        exact ⟨h.sorted, by simp, fun a ha b hb => by
          simp at hb; subst hb
          rcases List.mem_append.1 ha with ha | ha
          · exact crs_trans (h.ups a (by simp [ha])) hk hg (hok a ha) (by omega)
          simp at ha; subst ha; omega⟩
      · rcases List.mem_append.1 hx with hx | hx
        · exact h.ups x hx
        simp at hx; subst hx; exact hg
      · rw [hsum, ← h.sums z hz, dsum_append]
        simp only [dsum]
        split
        · rw [padd_zero]
        rw [padd_zero]
      simp at hq; subst hq
      exact ht.1 t htm
  have := gen S [] [] .nil (by simp) (by simp) hs hu
  simpa [mergeL] using this
/-- Sorting and merging, in whatever order equals come, is putting one behind the other. -/
theorem merge_eq {l S : List Pt} (hp : S.Perm (dirs l)) (hs : S.Pairwise fun a b => 0 ≤ crs a b) : mergeL S = canonL l :=
  ((merge_can S hs fun e he => dirs_up e (hp.mem_iff.1 he)).perm hp).eq (canonL_can l)
open Go.RowKit Go.Sort
/-- cmp.Compare -/
def cmpI (x y : Int) : Int := if x < y then -1 else if y < x then 1 else 0
/-- Coordinates of at most M. -/
def Bd (M : Int) (p : Pt) : Prop := -M ≤ p.1 ∧ p.1 ≤ M ∧ -M ≤ p.2 ∧ p.2 ≤ M
theorem mul_bd {a b A B : Int} (h1 : -A ≤ a ∧ a ≤ A) (h2 : -B ≤ b ∧ b ≤ B) : -(A * B) ≤ a * b ∧ a * b ≤ A * B := by
  have e1 := Int.mul_nonneg (a := A - a) (b := B + b) (by omega) (by omega)
  have e2 := Int.mul_nonneg (a := A + a) (b := B - b) (by omega) (by omega)
  have e3 := Int.mul_nonneg (a := A - a) (b := B - b) (by omega) (by omega)
  have e4 := Int.mul_nonneg (a := A + a) (b := B + b) (by omega) (by omega)
  simp only [Int.sub_mul, Int.add_mul, Int.mul_sub, Int.mul_add] at e1 e2 e3 e4
  omega
theorem crs_bd {a b : Pt} {A B : Int} (h1 : Bd A a) (h2 : Bd B b) : (-(A * B) ≤ a.1 * b.2 ∧ a.1 * b.2 ≤ A * B) ∧ (-(A * B) ≤ a.2 * b.1 ∧ a.2 * b.1 ≤ A * B) :=
  ⟨mul_bd ⟨h1.1, h1.2.1⟩ ⟨h2.2.2.1, h2.2.2.2⟩, mul_bd ⟨h1.2.2.1, h1.2.2.2⟩ ⟨h2.1, h2.2.1⟩⟩
theorem isNaN_h (x : Int) (W : World) : Calls Try.prog 46 #[.int .i64 x] W fun e w' => e = .returned (.bool false) ∧ w' = W := by
  go_enter Try.func46, Try.ntmps46
  go_wp2
  go_ret
  exact ⟨by simp, rfl⟩
theorem compare_h (x y : Int) (W : World) : Calls Try.prog 27 #[.int .i64 x, .int .i64 y] W fun e w' => e = .returned (.int .i64 (cmpI x y)) ∧ w' = W := by
  have hcon := isNaN_h
  go_enter Try.func27, Try.ntmps27
  go_wp2_with (go_at_call 46; refine (hcon _ _).mono ?_; rintro e w' ⟨rfl, rfl⟩)
  · go_ret
    exact ⟨ret_int (by unfold cmpI; rw [if_pos (by assumption)]), rfl⟩
  · go_ret
    exact ⟨ret_int (by unfold cmpI; rw [if_neg (by omega), if_pos (by assumption)]), rfl⟩
  go_ret
  exact ⟨ret_int (by unfold cmpI; rw [if_neg (by omega), if_neg (by omega)]), rfl⟩
set_option maxHeartbeats 1000000 in
theorem cross_h (x y : Pt) (hx : Bd 268435456 x) (hy : Bd 268435456 y) (W : World) : Calls Try.prog 39 #[.agg #[.int .i64 x.1, .int .i64 x.2], .agg #[.int .i64 y.1, .int .i64 y.2]] W fun e w' => e = .returned (.int .i64 (crs x y)) ∧ ∃ os', w' = grow W os' := by
  have hb := crs_bd hx hy
  go_enter Try.func39, Try.ntmps39
  go_wp2
  go_ret
  exact ⟨rfl, _, by rw [alloc_eq_grow, alloc_eq_grow, grow_grow]⟩
set_option maxHeartbeats 1000000 in
theorem canoncmp_h (x y : Pt) (hx : Bd 268435456 x) (hy : Bd 268435456 y) (W : World) : Calls Try.prog 44 #[.agg #[.int .i64 x.1, .int .i64 x.2], .agg #[.int .i64 y.1, .int .i64 y.2]] W fun e w' => e = .returned (.int .i64 (-(cmpI (crs x y) 0))) ∧ ∃ q os', w' = grow (W.drewN q) os' := by
  have hcon := fun W => cross_h x y hx hy W
  have hcon2 := fun W => compare_h (crs x y) 0 W
  have hbb : -1 ≤ cmpI (crs x y) 0 ∧ cmpI (crs x y) 0 ≤ 1 := by unfold cmpI; repeat' split <;> omega
  generalize cmpI (crs x y) 0 = r at *
  generalize crs x y = q at *
  go_enter Try.func44, Try.ntmps44
  go_wp2_with (first | (go_at_call 39; refine (hcon _).mono ?_; rintro e w' ⟨rfl, os', rfl⟩) | (go_at_call 27; refine (hcon2 _).mono ?_; rintro e w' ⟨rfl, rfl⟩))
  go_ret
  exact ⟨rfl, 0, _, by rw [alloc_eq_grow, alloc_eq_grow, grow_grow, grow_grow]; rfl⟩
/-- Generators in the upper half plane, of bounded coordinates. -/
structure Up where
  p : Pt
  up : up p
  bd : Bd 268435456 p
instance : Inhabited Up := ⟨⟨(1, 0), .inr ⟨rfl, by decide⟩, by unfold Bd; simp⟩⟩
theorem ups_of : ∀ l : List Pt, (∀ e ∈ l, up e ∧ Bd 268435456 e) → ∃ zs : List Up, zs.map Up.p = l
  | [], _ => ⟨[], rfl⟩
  | e :: l, h => by
    obtain ⟨zs, hz⟩ := ups_of l fun x hx => h x (by simp [hx])
    exact ⟨⟨e, (h e (by simp)).1, (h e (by simp)).2⟩ :: zs, by simp [hz]⟩
def cfU (x y : Up) : Int := -(cmpI (crs x.p y.p) 0)
theorem ltU (x y : Up) : ltOf cfU x y = decide (0 < crs x.p y.p) := by
  unfold ltOf cfU cmpI
  rw [Bool.eq_iff_iff, decide_eq_true_eq, decide_eq_true_eq]
  repeat' split <;> omega
theorem swoU : SWO (ltOf cfU) where
  irrefl x := by rw [ltU, crs_self]; rfl
  trans x y z h1 h2 := by
    rw [ltU, decide_eq_true_eq] at *
    exact crs_trans x.up y.up z.up h1 h2
  ntrans x y z h1 h2 := by
    rw [ltU, decide_eq_false_iff_not] at *
    have e1 := crs_anti x.p y.p
    have e2 := crs_anti y.p z.p
    have e3 := crs_anti x.p z.p
    have := crs_ntrans z.up y.up x.up (by omega) (by omega)
    omega
set_option maxRecDepth 100000 in
/-- The generators sorted by their directions. -/
theorem sortz_a {H : AHeap} {b n : Nat} {cap : Option Nat} {l : List Pt} (hg : H[b]? = some (.cells true 2 (prs l))) (hu : ∀ e ∈ l, up e ∧ Bd 268435456 e) (hn : n = l.length) (h0 : 0 < n) (h1 : n ≤ 1000000) :
    ACalls Try.prog 43 [.sl (some (b, 0)) n cap, .fn 44 []] H
      (fun v H' => v = .tup [] ∧ ∃ S : List Pt, S.Perm l ∧ S.Pairwise (fun x y => 0 ≤ crs x y) ∧ H' = H.set b (.cells true 2 (prs S))) := by
  have eg : ∀ args w, (callFunc 44 args).run Try.prog w = .ok (.enter 44 args) w := enters_of Try.func44 (by kernel_rfl) rfl
  obtain ⟨zs, rfl⟩ := ups_of l hu
  refine (sortf_a (α := Up) Up.p cfU swoU 44 eg (fun x y W => canoncmp_h x.p y.p x.bd y.bd W) (zs := zs) hg (by simpa using hn) h0 h1).mono ?_
  rintro v H' ⟨rfl, ys, hp, hs, rfl⟩
  refine ⟨rfl, ys.map Up.p, hp.map Up.p, ?_, rfl⟩
  rw [List.pairwise_map]
  refine hs.imp fun {x y} h => ?_
  rw [ltU] at h
  simp only [decide_eq_false_iff_not] at h
  rw [crs_anti] at h
  omega
open Go.RowKit

structure Vld (W H : Int) (xs : List Int) : Prop where
  w0 : 1 ≤ W
  w1 : W ≤ 64
  h0 : 1 ≤ H
  h1 : H ≤ 64
  len : (xs.length : Int) = W * H
  le : ∀ v ∈ xs, v ≤ 2
theorem mul_le_64 {a b : Int} (h0 : 0 ≤ a) (h1 : a ≤ 64) (h2 : 0 ≤ b) (h3 : b ≤ 64) : 0 ≤ a * b ∧ a * b ≤ 4096 :=
  ⟨Int.mul_nonneg h0 h2, Int.le_trans (Int.mul_le_mul h1 h3 h2 (by omega)) (by omega)⟩
theorem Vld.pos {W H : Int} {xs : List Int} (h : Vld W H xs) : 1 ≤ W * H ∧ W * H ≤ 4096 ∧ 0 < xs.length ∧ xs.length ≤ 4096 := by
  have h1 : 1 * 1 ≤ W * H := Int.mul_le_mul h.w0 h.h0 (by omega) (by have := h.w0; omega)
  have h2 := mul_le_64 (a := W) (b := H) (by have := h.w0; omega) h.w1 (by have := h.h0; omega) h.h1
  have h3 := h.len
  omega
open Go.RowKit
theorem prs_snoc {l : List (Int × Int)} {x y : Int} : prs l ++ [.int .i64 x, .int .i64 y] = prs (l ++ [(x, y)]) := by rw [prs_append]; rfl
/-- A slice that is appended to: none yet, or the whole of a block of its own. -/
def OutP (b : Nat) (s : AV) (X : ABlk) (l : List (Int × Int)) : Prop := (l = [] ∧ s = .sl none 0 (some 0) ∧ X = .dead) ∨ (0 < l.length ∧ s = .sl (some (b, 0)) l.length none ∧ X = .cells true 2 (prs l))
/-- What a function hands back that has made a list of pairs. -/
def retP (H : AHeap) (l : List (Int × Int)) : AV × AHeap := if l = [] then (.sl none 0 (some 0), H) else (.sl (some (H.length, 0)) l.length none, H ++ [.cells true 2 (prs l)])
theorem retP_nil {H : AHeap} : retP H [] = (.sl none 0 (some 0), H) := rfl
theorem retP_pos {H : AHeap} {l : List (Int × Int)} (h : 0 < l.length) : retP H l = (.sl (some (H.length, 0)) l.length none, H ++ [.cells true 2 (prs l)]) := by
  unfold retP; rw [if_neg (fun e => by rw [e] at h; simp at h)]
open Go.RowKit

mutual
def AV.eqb : AV → AV → Bool
  | .any, y => (match y with | .any => true | _ => false)
  | .int k n, y => (match y with | .int k' n' => decide (k = k') && decide (n = n') | _ => false)
  | .bool b, y => (match y with | .bool b' => b == b' | _ => false)
  | .str s, y => (match y with | .str s' => decide (s = s') | _ => false)
  | .ptr a, y => (match y with | .ptr a' => decide (a = a') | _ => false)
  | .sl a l c, y => (match y with | .sl a' l' c' => decide (a = a') && (decide (l = l') && decide (c = c')) | _ => false)
  | .mp r, y => (match y with | .mp r' => decide (r = r') | _ => false)
  | .fn f cs, y => (match y with | .fn f' cs' => decide (f = f') && AV.eqbs cs cs' | _ => false)
  | .nilfn, y => (match y with | .nilfn => true | _ => false)
  | .agg cs, y => (match y with | .agg cs' => AV.eqbs cs cs' | _ => false)
  | .tup cs, y => (match y with | .tup cs' => AV.eqbs cs cs' | _ => false)
def AV.eqbs : List AV → List AV → Bool
  | [], ys => (match ys with | [] => true | _ => false)
  | x :: xs, ys => (match ys with | y :: ys => AV.eqb x y && AV.eqbs xs ys | [] => false)
end
mutual
theorem AV.eqb_eq : ∀ (x y : AV), AV.eqb x y = true → x = y
  | .any, y, h => by cases y <;> first | rfl | (simp [AV.eqb] at h)
  | .int k n, y, h => by cases y <;> first | (simp [AV.eqb] at h; done) | (simp [AV.eqb] at h; rw [h.1, h.2])
  | .bool b, y, h => by cases y <;> first | (simp [AV.eqb] at h; done) | (simp [AV.eqb] at h; rw [h])
  | .str s, y, h => by cases y <;> first | (simp [AV.eqb] at h; done) | (simp [AV.eqb] at h; rw [h])
  | .ptr a, y, h => by cases y <;> first | (simp [AV.eqb] at h; done) | (simp [AV.eqb] at h; rw [h])
  | .sl a l c, y, h => by cases y <;> first | (simp [AV.eqb] at h; done) | (simp [AV.eqb] at h; rw [h.1, h.2.1, h.2.2])
  | .mp r, y, h => by cases y <;> first | (simp [AV.eqb] at h; done) | (simp [AV.eqb] at h; rw [h])
  | .fn f cs, y, h => by
    cases y <;> first | (simp [AV.eqb] at h; done) | skip
    simp [AV.eqb] at h
    rw [h.1, AV.eqbs_eq _ _ h.2]
  | .nilfn, y, h => by cases y <;> first | rfl | (simp [AV.eqb] at h)
  | .agg cs, y, h => by
    cases y <;> first | (simp [AV.eqb] at h; done) | skip
    simp [AV.eqb] at h
    rw [AV.eqbs_eq _ _ h]
  | .tup cs, y, h => by
    cases y <;> first | (simp [AV.eqb] at h; done) | skip
    simp [AV.eqb] at h
    rw [AV.eqbs_eq _ _ h]
theorem AV.eqbs_eq : ∀ (xs ys : List AV), AV.eqbs xs ys = true → xs = ys
  | [], ys, h => by cases ys <;> first | rfl | (simp [AV.eqbs] at h)
  | x :: xs, ys, h => by
    cases ys with
    | nil => simp [AV.eqbs] at h
    | cons y ys =>
      simp [AV.eqbs] at h
      rw [AV.eqb_eq _ _ h.1, AV.eqbs_eq _ _ h.2]
end
def ABlk.eqb : ABlk → ABlk → Bool
  | .dead, y => (match y with | .dead => true | _ => false)
  | .cells o e xs, y => (match y with | .cells o' e' xs' => (o == o') && (decide (e = e') && AV.eqbs xs xs') | _ => false)
  | .map es, y => (match y with | .map es' => AV.eqbs (es.map (·.1)) (es'.map (·.1)) && AV.eqbs (es.map (·.2)) (es'.map (·.2)) | _ => false)
theorem pairs_eq {α β : Type} : ∀ {l m : List (α × β)}, l.map (·.1) = m.map (·.1) → l.map (·.2) = m.map (·.2) → l = m
  | [], [], _, _ => rfl
  | [], _ :: _, h, _ => by simp at h
  | _ :: _, [], h, _ => by simp at h
  | (a, b) :: l, (c, d) :: m, h1, h2 => by
    simp only [List.map_cons, List.cons.injEq] at h1 h2
    rw [h1.1, h2.1, pairs_eq h1.2 h2.2]
theorem ABlk.eqb_eq {x y : ABlk} (h : ABlk.eqb x y = true) : x = y := by
  cases x <;> cases y <;> first | rfl | (simp [ABlk.eqb] at h; done) | skip
  · simp [ABlk.eqb] at h
    rw [h.1, h.2.1, AV.eqbs_eq _ _ h.2.2]
  simp only [ABlk.eqb, Bool.and_eq_true] at h
  rw [pairs_eq (AV.eqbs_eq _ _ h.1) (AV.eqbs_eq _ _ h.2)]
/-- The memory begins as it was. -/
def prefixB : AHeap → AHeap → Bool
  | [], _ => true
  | x :: r, y :: s => ABlk.eqb x y && prefixB r s
  | _ :: _, [] => false
theorem prefixB_eq : ∀ {H H' : AHeap}, prefixB H H' = true → ∃ l, H' = H ++ l
  | [], H', _ => ⟨H', rfl⟩
  | x :: r, [], h => by simp [prefixB] at h
  | x :: r, y :: s, h => by
    simp only [prefixB, Bool.and_eq_true] at h
    obtain ⟨l, hl⟩ := prefixB_eq h.2
    exact ⟨l, by rw [← ABlk.eqb_eq h.1, hl]; rfl⟩
/-- A frame as a tree by the bits of a slot's number. -/
inductive FT where
  | nil
  | leaf (x : AV)
  | node (l r : FT)
def FT.get : Nat → FT → Nat → AV
  | 0, f, _ => (match f with | .leaf x => x | _ => .any)
  | d + 1, f, t => (match f with | .node l r => bif Nat.beq (t % 2) 0 then FT.get d l (t / 2) else FT.get d r (t / 2) | _ => .any)
def FT.set : Nat → Nat → AV → FT → FT
  | 0, _, x, _ => .leaf x
  | d + 1, t, x, f => (match f with
    | .node l r => bif Nat.beq (t % 2) 0 then .node (FT.set d (t / 2) x l) r else .node l (FT.set d (t / 2) x r)
    | _ => bif Nat.beq (t % 2) 0 then .node (FT.set d (t / 2) x .nil) .nil else .node .nil (FT.set d (t / 2) x .nil))
theorem FT.get_nil : ∀ (d s : Nat), FT.get d .nil s = .any
  | 0, _ => rfl
  | _ + 1, _ => rfl
theorem FT.get_set : ∀ (d t s : Nat) (x : AV) (f : FT), t < 2 ^ d → s < 2 ^ d → FT.get d (FT.set d t x f) s = if t = s then x else FT.get d f s
  | 0, t, s, x, f, ht, hs => by
    have : t = s := by simp at ht hs; omega
    rw [if_pos this]; rfl
  | d + 1, t, s, x, f, ht, hs => by
    have ht' : t / 2 < 2 ^ d := by rw [Nat.pow_succ] at ht; omega
    have hs' : s / 2 < 2 ^ d := by rw [Nat.pow_succ] at hs; omega
    have ih := FT.get_set d (t / 2) (s / 2) x
    have hb : ∀ u : Nat, Nat.beq (u % 2) 0 = decide (u % 2 = 0) := fun u => by
      by_cases h : u % 2 = 0
      · rw [h]; rfl
      have : u % 2 = 1 := by omega
      rw [this]; rfl
    have key : ∀ l r : FT, FT.get (d + 1) (bif Nat.beq (t % 2) 0 then .node (FT.set d (t / 2) x l) r else .node l (FT.set d (t / 2) x r)) s = if t = s then x else FT.get (d + 1) (.node l r) s := fun l r => by
      rw [hb]
      by_cases h1 : t % 2 = 0
      · simp only [h1, decide_true, cond_true, FT.get]
        rw [hb]
        by_cases h2 : s % 2 = 0
        · simp only [h2, decide_true, cond_true]
          rw [ih l ht' hs']
          by_cases e : t = s
          · rw [if_pos (by rw [e]), if_pos e]
          rw [if_neg (by omega), if_neg e]
        simp only [h2, decide_false, cond_false]
        rw [if_neg (by omega)]
      simp only [h1, decide_false, cond_false, FT.get]
      rw [hb]
      by_cases h2 : s % 2 = 0
      · simp only [h2, decide_true, cond_true]
        rw [if_neg (by omega)]
      simp only [h2, decide_false, cond_false]
      rw [ih r ht' hs']
      by_cases e : t = s
      · rw [if_pos (by rw [e]), if_pos e]
      rw [if_neg (by omega), if_neg e]
    cases f with
    | node l r => exact key l r
    | nil =>
      have := key .nil .nil
      rw [show FT.get (d + 1) (.node .nil .nil) s = FT.get (d + 1) .nil s by simp [FT.get, FT.get_nil]] at this
      exact this
    | leaf y =>
      have := key .nil .nil
      rw [show FT.get (d + 1) (.node .nil .nil) s = FT.get (d + 1) (.leaf y) s by simp [FT.get, FT.get_nil]] at this
      exact this
/-- What a slot holds. -/
def getT (f : FT) (t : Nat) : AV := bif Nat.blt t 1024 then FT.get 10 f t else .any
def putR (d : Option Tmp) (x : AV) (f : FT) : FT :=
  match d with
  | some t => FT.set 10 t x f
  | none => f
def okD (d : Option Tmp) : Bool :=
  match d with
  | some t => Nat.blt t 1024
  | none => true
theorem look_putR {f : FT} {G : Fr} (h : getT f = look G) {d : Option Tmp} (hd : okD d = true) (x : AV) : getT (putR d x f) = look (putF d x G) := by
  funext s
  cases d with
  | none => exact congrFun h s
  | some t =>
    have hs := congrFun h s
    have ht : t < 1024 := Nat.le_of_ble_eq_true hd
    show getT (FT.set 10 t x f) s = look ((t, x) :: G) s
    unfold getT at hs ⊢
    simp only [look]
    cases hb : Nat.blt s 1024 with
    | false =>
      rw [hb] at hs
      have hlt : ¬ s < 1024 := fun hh => by rw [show Nat.blt s 1024 = true from Nat.ble_eq_true_of_le hh] at hb; cases hb
      have : (t == s) = false := by rw [beq_eq_false_iff_ne]; exact fun e => hlt (e ▸ ht)
      rw [this]; exact hs
    | true =>
      rw [hb] at hs
      simp only [cond_true] at hs ⊢
      have hlt : s < 1024 := Nat.le_of_ble_eq_true hb
      rw [FT.get_set 10 t s x f (by simpa using ht) (by simpa using hlt), hs]
      by_cases e : t = s
      · simp [e]
      have : (t == s) = false := by simp [e]
      rw [if_neg e, this]; rfl
theorem getT_nil : getT .nil = look [] := by
  funext s
  unfold getT
  cases Nat.blt s 1024 <;> simp [FT.get_nil, look]
/-- The arguments' frame. -/
def argT : Nat → List AV → FT
  | _, [] => .nil
  | i, x :: r => FT.set 10 i x (argT (i + 1) r)
theorem argT_eq : ∀ (xs : List AV) (i : Nat), i + xs.length ≤ 1024 → getT (argT i xs) = look (argF i xs)
  | [], i, _ => getT_nil
  | x :: r, i, h => by
    simp only [List.length_cons] at h
    exact look_putR (d := some i) (argT_eq r (i + 1) (by omega)) (Nat.ble_eq_true_of_le (by omega)) x
def ev (f : FT) : Operand → AV
  | .tmp t => getT f t
  | .const v => AV.ofValue v
  | .global _ => .any
  | .func g => .fn g []
theorem ev_eq {f : FT} {G : Fr} (h : getT f = look G) : ev f = aev G := by
  funext o; cases o <;> simp [ev, aev, h]
def aopE (P : Program) (o : Op) (e : Operand → AV) (H : AHeap) : Option (AV × AHeap) :=
  match o with
  | .move x => some (e x, H)
  | .assign x => some (e x, H)
  | .pick c a b => (match e c with | .bool t => some (bif t then e a else e b, H) | _ => none)
  | .alloc t => aAlloc P t H
  | .box _ x => aBox (e x) H
  | .build t ps => (aBuild P t (ps.toList.map fun p => (p.1, e p.2))).map fun r => (r, H)
  | .buildSlice t n ps => aBuildSlice P t n (ps.toList.map fun p => (p.1, e p.2)) H
  | .load t a => aLoad P t (e a) H
  | .store t a x => (aStore P t (e a) (e x) H).map fun H' => (.any, H')
  | .nilCheck x => (match e x with | .ptr (some a) => some (.ptr (some a), H) | .fn f c => some (.fn f c, H) | _ => none)
  | .binOp op t x y _ => (aBin P op t (e x) (e y)).map fun r => (r, H)
  | .unOp op _ x => (aUn op (e x)).map fun r => (r, H)
  | .convert s d x => (aConv P s d (e x) H).map fun r => (r, H)
  | .makeFunc fn first caps => (match fn with | .func f => (need (first.toList.length = 0)).map fun _ => (.fn f (caps.toList.map e), H) | _ => none)
  | .makeMap t r => (match r with | none => some (.mp (some H.length), H ++ [.map []]) | some x => (match e x with | .int _ _ => (tMap P t).map fun _ => (.mp (some H.length), H ++ [.map []]) | _ => none))
  | .makeSlice t l c => aMakeSlice P t (e l) (e c) H
  | .slice t x lo hi mx => (aSlice P t (e x) (lo.map e) (hi.map e) (mx.map e) H).map fun r => (r, H)
  | .fieldAddr t x f => (aFieldAddr P t (e x) f).map fun r => (r, H)
  | .field t x f => (aField P t (e x) f).map fun r => (r, H)
  | .indexAddr t x i => (aIndexAddr P t (e x) (e i)).map fun r => (r, H)
  | .index t x i => (aIndex P t (e x) (e i)).map fun r => (r, H)
  | .lookup t m k ok => (aLookup P t (e m) (e k) ok H).map fun r => (r, H)
  | .mapUpdate t m k x => (aMapUpdate P t (e m) (e k) (e x) H).map fun H' => (.any, H')
  | .extract x i => (aExtract (e x) i).map fun r => (r, H)
  | .call c => (match c.callee with | .builtin b => aBuiltin P b c.argTypes.toList (c.args.toList.map e) H | _ => none)
  | _ => none
theorem aopE_eq (P : Program) (o : Op) (G : Fr) (H : AHeap) : aopE P o (aev G) H = aop P o G H := by
  cases o <;> rfl
def calleeE (o : Op) (e : Operand → AV) : Option (FuncId × List AV) :=
  match o with
  | .call c => (match c.callee with | .value f => (match e f with | .fn k caps => some (k, c.args.toList.map e ++ caps) | _ => none) | _ => none)
  | _ => none
theorem calleeE_eq (o : Op) (G : Fr) : calleeE o (aev G) = calleeOf o G := by
  cases o <;> rfl
def gdE (f : FT) : Option (Option Tmp × Bool) → Option Bool
  | none => some true
  | some (none, _) => none
  | some (some t, want) => (match getT f t with | .bool b => some (b == want) | .tup [] => some false | _ => none)
theorem gdE_eq {f : FT} {G : Fr} (h : getT f = look G) (g : Option (Option Tmp × Bool)) : gdE f g = gdL G g := by
  cases g with
  | none => rfl
  | some p =>
    obtain ⟨a, b⟩ := p
    cases a with
    | none => rfl
    | some t =>
      simp only [gdE, gdL, h]
      cases look G t with
      | tup l => cases l <;> rfl
      | _ => rfl
def aResE (P : Program) : List ResultVar → FT → AHeap → Option (List AV)
  | [], _, _ => some []
  | .tmp t :: rs, f, H => (aResE P rs f H).map fun l => getT f t :: l
  | .cell a t :: rs, f, H => (aLoad P t (getT f a) H).bind fun x => (aResE P rs f H).map fun l => x.1 :: l
theorem aResE_eq {f : FT} {G : Fr} (h : getT f = look G) (P : Program) (H : AHeap) : ∀ rs : List ResultVar, aResE P rs f H = aRes P rs G H
  | [] => rfl
  | .tmp t :: rs => by simp [aResE, aRes, h, aResE_eq h P H rs]
  | .cell a t :: rs => by simp [aResE, aRes, h, aResE_eq h P H rs]
abbrev Caller := FuncId → List AV → AHeap → Option (AV × Option AHeap)
def CallOk (P : Program) (call : Caller) : Prop := ∀ f args H x o, call f args H = some (x, o) → okFn P f = true ∧ H.length ≤ (o.getD H).length ∧ ACalls P f args H (fun y H1 => y = x ∧ H1 = o.getD H)
def belowB (m : Nat) : AV → Bool
  | .ptr (some (b, _)) => Nat.blt b m
  | .sl (some (b, _)) _ _ => Nat.blt b m
  | _ => true
def lenB (m : Nat) : AV → Bool
  | .mp (some b) => Nat.blt b m
  | _ => true
theorem belowB_ok {m : Nat} : ∀ {x : AV}, belowB m x = true → belowV m x
  | .ptr (some (_, _)), h => Nat.le_of_ble_eq_true h
  | .sl (some (_, _)) _ _, h => Nat.le_of_ble_eq_true h
  | .ptr none, _ => trivial | .sl none _ _, _ => trivial | .mp _, _ => trivial
  | .any, _ => trivial | .int _ _, _ => trivial | .bool _, _ => trivial | .str _, _ => trivial | .fn _ _, _ => trivial | .nilfn, _ => trivial | .agg _, _ => trivial | .tup _, _ => trivial
theorem lenB_ok {m : Nat} : ∀ {x : AV}, lenB m x = true → lenV m x
  | .mp (some _), h => Nat.le_of_ble_eq_true h
  | .mp none, _ => trivial | .sl _ _ _, _ => trivial | .ptr _, _ => trivial
  | .any, _ => trivial | .int _ _, _ => trivial | .bool _, _ => trivial | .str _, _ => trivial | .fn _ _, _ => trivial | .nilfn, _ => trivial | .agg _, _ => trivial | .tup _, _ => trivial
def lateB (d : Option Nat) (o : Op) (e : Operand → AV) : Bool :=
  match d with
  | some m => (match o with
    | .load _ a => belowB m (e a)
    | .slice _ x _ _ _ => belowB m (e x)
    | .call c => (match c.callee, c.args.toList with | .builtin .len, x :: _ => lenB m (e x) | _, _ => true)
    | _ => true)
  | none => true
theorem lateB_ok {m : Nat} {o : Op} {G : Fr} (h : lateB (some m) o (aev G) = true) : lateOk m o G := by
  unfold lateB at h
  unfold lateOk
  simp only at h
  split
  · exact belowB_ok h
  · exact belowB_ok h
  · simp only at h
    split
    · rename_i h1 h2
      simp only [h1, h2] at h
      exact lenB_ok h
    trivial
  trivial
/-- A call leaves what is below m. -/
def keepsB (m : Nat) (H H' : AHeap) : Bool := (List.range m).all fun b => match H[b]?, H'[b]? with | some x, some y => ABlk.eqb y x | none, none => true | _, _ => false
theorem keepsB_ok {m : Nat} {H H' : AHeap} (h : keepsB m H H' = true) : ∀ b, b < m → H'[b]? = H[b]? := fun b hb => by
  have := List.all_eq_true.1 h b (List.mem_range.2 hb)
  revert this
  cases H[b]? <;> cases H'[b]? <;> simp
  exact fun h => (ABlk.eqb_eq h)
def keepD (d : Option Nat) (H H' : AHeap) : Bool := match d with | some m => keepsB m H H' | none => true
/-- Operations in a row (keep: a call must leave the memory as it was; d: in a region that draws, how many blocks were there before it). -/
def rOps (P : Program) (keep : Bool) (d : Option Nat) (call : Caller) : List LOp → FT → AHeap → Option (FT × AHeap)
  | [], F, H => some (F, H)
  | o :: os, F, H =>
    bif okD o.dst then
      match gdE F o.g with
      | none => none
      | some false => rOps P keep d call os (putR o.dst (.tup []) F) H
      | some true =>
        match calleeE o.op (ev F) with
        | some p =>
          match call p.1 p.2 H with
          | none => none
          | some (x, none) => rOps P keep d call os (putR o.dst x F) H
          | some (x, some H') => bif keep || !keepD d H H' then none else rOps P keep d call os (putR o.dst x F) H'
        | none =>
          bif lateB d o.op (ev F) then
            match aopE P o.op (ev F) H with
            | none => none
            | some (x, H') => rOps P keep d call os (putR o.dst x F) H'
          else none
    else none
section
section
variable {P : Program} {N n m : Nat} {d : Option Nat} {q keep : Bool} {call : Caller}
theorem rOps_ok (hcall : CallOk P call) : ∀ (os : List LOp) (F : FT) (H : AHeap) (F' : FT) (H' : AHeap), rOps P keep d call os F H = some (F', H') → ∀ G, getT F = look G → AOpsL P os G H (fun G' H1 => getT F' = look G' ∧ H1 = H')
  | [], F, H, F', H', h, G, hG => by
    simp only [rOps, Option.some.injEq, Prod.mk.injEq] at h
    obtain ⟨rfl, rfl⟩ := h
    exact ⟨hG, rfl⟩
  | o :: os, F, H, F', H', h, G, hG => by
    unfold rOps at h
    unfold AOpsL
    cases hd : okD o.dst with
    | false => rw [hd] at h; cases h
    | true =>
    rw [hd, cond_true] at h
    rw [gdE_eq hG, ev_eq hG, calleeE_eq, aopE_eq] at h
    cases hg : gdL G o.g with
    | none => rw [hg] at h; cases h
    | some b =>
      rw [hg] at h
      cases b
      · exact rOps_ok hcall os _ _ _ _ h _ (look_putR hG hd _)
      simp only at h ⊢
      unfold AOp
      cases hc : calleeOf o.op G with
      | some p =>
        rw [hc] at h
        simp only at h ⊢
        cases hk : call p.1 p.2 H with
        | none => rw [hk] at h; cases h
        | some r =>
          obtain ⟨x, mm⟩ := r
          rw [hk] at h
          obtain ⟨h1, h1', h2⟩ := hcall _ _ _ _ _ hk
          cases mm with
          | none =>
            have key := rOps_ok hcall os _ _ _ _ h _ (look_putR hG hd x)
            exact ⟨h1, h2.mono fun y H1 hy => by rw [hy.1, hy.2]; exact key⟩
          | some H2 =>
            have h' : rOps P keep d call os (putR o.dst x F) H2 = some (F', H') := by
              simp only at h
              cases hqq : (keep || !keepD d H H2)
              · rw [hqq] at h; exact h
              rw [hqq] at h; cases h
            have key := rOps_ok hcall os _ _ _ _ h' _ (look_putR hG hd x)
            exact ⟨h1, h2.mono fun y H1 hy => by rw [hy.1, hy.2]; exact key⟩
      | none =>
        rw [hc] at h
        simp only at h ⊢
        cases hlt : lateB d o.op (aev G) with
        | false => rw [hlt] at h; cases h
        | true =>
        rw [hlt, cond_true] at h
        cases hx : aop P o.op G H with
        | none => rw [hx] at h; cases h
        | some r =>
          obtain ⟨x, H1⟩ := r
          rw [hx] at h
          exact ⟨_, rfl, rOps_ok hcall os _ _ _ _ h _ (look_putR hG hd _)⟩
theorem rOpsD_ok (hcall : CallOk P call) : ∀ (os : List LOp) (F : FT) (H : AHeap) (F' : FT) (H' : AHeap), rOps P q (some m) call os F H = some (F', H') → ∀ G, getT F = look G → AOpsDL P q m os G H (fun G' H1 => getT F' = look G' ∧ H1 = H')
  | [], F, H, F', H', h, G, hG => by
    simp only [rOps, Option.some.injEq, Prod.mk.injEq] at h
    obtain ⟨rfl, rfl⟩ := h
    exact ⟨hG, rfl⟩
  | o :: os, F, H, F', H', h, G, hG => by
    unfold rOps at h
    unfold AOpsDL
    cases hd : okD o.dst with
    | false => rw [hd] at h; cases h
    | true =>
    rw [hd, cond_true] at h
    rw [gdE_eq hG, ev_eq hG, calleeE_eq, aopE_eq] at h
    cases hg : gdL G o.g with
    | none => rw [hg] at h; cases h
    | some b =>
      rw [hg] at h
      cases b
      · exact rOpsD_ok hcall os _ _ _ _ h _ (look_putR hG hd _)
      simp only at h ⊢
      unfold AOpD
      cases hc : calleeOf o.op G with
      | some p =>
        rw [hc] at h
        simp only at h ⊢
        cases hk : call p.1 p.2 H with
        | none => rw [hk] at h; cases h
        | some r =>
          obtain ⟨x, mm⟩ := r
          rw [hk] at h
          obtain ⟨h1, h1', h2⟩ := hcall _ _ _ _ _ hk
          cases mm with
          | none =>
            have key := rOpsD_ok hcall os _ _ _ _ h _ (look_putR hG hd x)
            exact ⟨h1, x, H, fun _ => rfl, ⟨Nat.le_refl _, fun _ _ _ => rfl⟩, h2, key⟩
          | some H2 =>
            have hqq : q = false ∧ keepD (some m) H H2 = true := by
              cases hqq : (q || !keepD (some m) H H2)
              · simpa using hqq
              simp only [hqq] at h; cases h
            obtain ⟨hqf, hkb⟩ := hqq
            have h' : rOps P q (some m) call os (putR o.dst x F) H2 = some (F', H') := by
              simp only at h
              rw [hqf, hkb] at h
              rw [hqf]; exact h
            have key := rOpsD_ok hcall os _ _ _ _ h' _ (look_putR hG hd x)
            exact ⟨h1, x, H2, (fun hq => by rw [hqf] at hq; cases hq), ⟨h1', fun b hb _ => keepsB_ok (H := H) (H' := H2) hkb b hb⟩, h2, key⟩
      | none =>
        rw [hc] at h
        simp only at h ⊢
        cases hlt : lateB (some m) o.op (aev G) with
        | false => rw [hlt] at h; cases h
        | true =>
        rw [hlt, cond_true] at h
        cases hx : aop P o.op G H with
        | none => rw [hx] at h; cases h
        | some r =>
          obtain ⟨x, H1⟩ := r
          rw [hx] at h
          exact ⟨lateB_ok hlt, _, rfl, rOpsD_ok hcall os _ _ _ _ h _ (look_putR hG hd _)⟩
/-- Code, run (n: how many blocks were there). -/
def rCode (P : Program) (q : Bool) (n : Nat) (call : Caller) : Nat → Code → FT → AHeap → Option (Exit × FT × AHeap)
  | 0, _, _, _ => none
  | k + 1, .seq a b, F, H =>
    match rCode P q n call k a F H with
    | some (.normal, F1, H1) => rCode P q n call k b F1 H1
    | r => r
  | k + 1, .cond c a b, F, H =>
    match ev F c with
    | .bool true => rCode P q n call k a F H
    | .bool false => rCode P q n call k b F H
    | _ => none
  | k + 1, .block id c, F, H =>
    match rCode P q n call k c F H with
    | some (.exit id', F1, H1) => some (bif id' == id then .normal else .exit id', F1, H1)
    | r => r
  | k + 1, .loop c, F, H =>
    bif Nat.ble n H.length then
      match rCode P q n call k c F H with
      | some (.normal, F1, H1) => rCode P q n call k (.loop c) F1 H1
      | r => r
    else none
  | _ + 1, .region _ ops draw, F, H => (rOps P (draw && q) (bif draw then some H.length else none) call (ops.toList.map (lightOf (dsts ops))) F H).map fun r => (.normal, r.1, r.2)
  | _ + 1, .skip, F, H => some (.normal, F, H)
  | _ + 1, .label _, F, H => some (.normal, F, H)
  | _ + 1, .exit id, F, H => some (.exit id, F, H)
  | _ + 1, .ret, F, H => some (.ret, F, H)
  | _ + 1, _, _, _ => none
theorem Rel.env {E E' : Env} {x : AV} {v : Value} (h : Rel E x v) (hn : E'.n = E.n) (hl : ∀ b, E'.loc b = E.loc b) : Rel E' x v := by
  induction h with
  | any v => exact .any v
  | int k n => exact .int k n
  | bool b => exact .bool b
  | str s => exact .str s
  | nilptr => exact .nilptr
  | ptr b o hb => rw [← hl b]; exact .ptr b o (by rw [hn]; exact hb)
  | nilsl => exact .nilsl
  | nils b cap hb hc => exact .nils b cap (by rw [hn]; exact hb) hc
  | sl b o len cap c a hb h1 h2 h3 h4 h5 => exact .sl b o len cap c a (by rw [hn]; exact hb) h1 h2 h3 (by rw [hl]; exact h4) (by rw [hl]; exact h5)
  | nilmp => exact .nilmp
  | mp b hb => rw [← hl b]; exact .mp b (by rw [hn]; exact hb)
  | nilfn => exact .nilfn
  | fn f caps cs hl' _ ih => exact .fn f caps cs hl' ih
  | agg xs cs hl' _ ih => exact .agg xs cs hl' ih
  | tup xs cs hl' _ ih => exact .tup xs cs hl' ih
theorem RelL.env {E E' : Env} {xs : List AV} {vs : List Value} (h : RelL E xs vs) (hn : E'.n = E.n) (hl : ∀ b, E'.loc b = E.loc b) : RelL E' xs vs := ⟨h.1, fun i x v hx hv => (h.2 i x v hx hv).env hn hl⟩
theorem BlkOk.env {E E' : Env} {w : World} {L : Loc} {x : ABlk} (h : BlkOk E w L x) (hB : E'.B = E.B) (hn : E'.n = E.n) (hl : ∀ b, E'.loc b = E.loc b) : BlkOk E' w L x := by
  cases x with
  | dead => trivial
  | cells own es xs =>
    obtain ⟨h1, h2, h3, h4⟩ := h
    refine ⟨fun j x hj => ?_, fun ho => by rw [hB]; exact h2 ho, fun ho hl => by rw [hB]; exact h3 ho hl, h4⟩
    obtain ⟨a, v, hv, hr⟩ := h1 j x hj
    exact ⟨a, v, hv, hr.env hn hl⟩
  | map es =>
    obtain ⟨h1, h2, ents, clock, h3, h4, h5⟩ := h
    exact ⟨by rw [hB]; exact h1, h2, ents, clock, h3, h4.env hn hl, h5.env hn hl⟩
theorem Abs0.same (n : Nat) {F G : Fr} (h : look F = look G) {H : AHeap} (hn : n ≤ H.length) : Abs0 n id F H G H where
  small _ _ := rfl
  len := hn
  frame E E' h1 h2 h3 t v hv := by
    rw [← h]
    exact hv.env (h2.trans h1.symm) h3
  heap E E' h1 h2 h3 h4 w hw b x hx := by
    rw [h4 b]
    exact (hw b x hx).env h3 (h2.trans h1.symm) h4
  inj b c x y hx hy ox oy hbc := ⟨hbc, ⟨x, hx, ox⟩, y, hy, oy⟩
theorem Abs.same (n : Nat) {F G : Fr} (h : look F = look G) {H : AHeap} (hn : n ≤ H.length) : Abs n id F H G H := (Abs0.same n h hn).abs
/-- What a run says. -/
def Ran (q : Bool) (N n : Nat) (P : Program) (r : Exit × FT × AHeap) (c : Code) (F : FT) (H : AHeap) : Prop :=
  ∀ G, getT F = look G → AW P N n c (fun e G1 H1 => e = r.1 ∧ getT r.2.1 = look G1 ∧ H1 = r.2.2) G H
theorem rCode_ok (hm : P.follows .mixedOrders = true) (hcall : CallOk P call) : ∀ (K k : Nat), k ≤ K → ∀ c, codeOk N q c = true → ∀ (F : FT) (H : AHeap) (r : Exit × FT × AHeap), rCode P q n call k c F H = some r → Ran q N n P r c F H
  | K, 0, _, c, _, F, H, r, h => by unfold rCode at h; cases h
  | 0, k + 1, hk, _, _, _, _, _, _ => by omega
  | K + 1, k + 1, hk, c, hc, F, H, r, h => by
    have IH := rCode_ok hm hcall K
    intro G hG
    cases c with
    | skip =>
      simp only [rCode, Option.some.injEq] at h
      subst h
      exact AW_skip ⟨rfl, hG, rfl⟩
    | label l =>
      simp only [rCode, Option.some.injEq] at h
      subst h
      exact AW_label ⟨rfl, hG, rfl⟩
    | exit id =>
      simp only [rCode, Option.some.injEq] at h
      subst h
      exact AW_exit ⟨rfl, hG, rfl⟩
    | ret =>
      simp only [rCode, Option.some.injEq] at h
      subst h
      exact AW_ret ⟨rfl, hG, rfl⟩
    | seq a b =>
      simp only [codeOk, Bool.and_eq_true] at hc
      unfold rCode at h
      cases ha : rCode P q n call k a F H with
      | none => rw [ha] at h; cases h
      | some r1 =>
        obtain ⟨e1, F1, H1⟩ := r1
        rw [ha] at h
        refine AW_seq (AW.mono (IH k (by omega) a hc.1 F H _ ha G hG) ?_)
        rintro e G1 H2 ⟨h1, h2, h3⟩
        simp only at h1 h2 h3
        rw [h1, h3]
        cases e1 with
        | normal => exact IH k (by omega) b hc.2 F1 H1 _ h G1 h2
        | exit id => simp only [Option.some.injEq] at h; subst h; exact ⟨rfl, h2, rfl⟩
        | goto id => simp only [Option.some.injEq] at h; subst h; exact ⟨rfl, h2, rfl⟩
        | ret => simp only [Option.some.injEq] at h; subst h; exact ⟨rfl, h2, rfl⟩
        | panic ch => simp only [Option.some.injEq] at h; subst h; exact ⟨rfl, h2, rfl⟩
        | outgrown => simp only [Option.some.injEq] at h; subst h; exact ⟨rfl, h2, rfl⟩
    | cond c a b =>
      simp only [codeOk, Bool.and_eq_true] at hc
      unfold rCode at h
      rw [ev_eq hG] at h
      cases ht : aev G c with
      | bool t =>
        rw [ht] at h
        cases t with
        | true => exact AW_cond true ht (fun _ => IH k (by omega) a hc.1 F H _ h G hG) (fun e => by cases e)
        | false => exact AW_cond false ht (fun e => by cases e) (fun _ => IH k (by omega) b hc.2 F H _ h G hG)
      | _ => rw [ht] at h; cases h
    | block id c =>
      simp only [codeOk] at hc
      unfold rCode at h
      cases ha : rCode P q n call k c F H with
      | none => rw [ha] at h; cases h
      | some r1 =>
        obtain ⟨e1, F1, H1⟩ := r1
        rw [ha] at h
        refine AW_block (AW.mono (IH k (by omega) c hc F H _ ha G hG) ?_)
        rintro e G1 H2 ⟨h1, h2, h3⟩
        simp only at h1 h2 h3
        rw [h1, h3]
        cases e1 with
        | exit id' =>
          simp only [Option.some.injEq] at h
          subst h
          show (if id' = id then _ else _)
          by_cases e : id' = id
          · rw [if_pos e]; simp [e, h2]
          have hb : (id' == id) = false := by simp [e]
          rw [if_neg e, hb]; exact ⟨rfl, h2, rfl⟩
        | normal => simp only [Option.some.injEq] at h; subst h; exact ⟨rfl, h2, rfl⟩
        | goto id => simp only [Option.some.injEq] at h; subst h; exact ⟨rfl, h2, rfl⟩
        | ret => simp only [Option.some.injEq] at h; subst h; exact ⟨rfl, h2, rfl⟩
        | panic ch => simp only [Option.some.injEq] at h; subst h; exact ⟨rfl, h2, rfl⟩
        | outgrown => simp only [Option.some.injEq] at h; subst h; exact ⟨rfl, h2, rfl⟩
    | loop c =>
      simp only [codeOk] at hc
      have nle : ∀ j F H, rCode P q n call j (.loop c) F H = some r → n ≤ H.length := fun j F H hh => by
        cases j with
        | zero => unfold rCode at hh; cases hh
        | succ j =>
          unfold rCode at hh
          cases hb : Nat.ble n H.length
          · rw [hb] at hh; cases hh
          exact Nat.le_of_ble_eq_true hb
      refine AW_loop (fun j F' H' => j ≤ k + 1 ∧ ∃ F0, getT F0 = look F' ∧ rCode P q n call j (.loop c) F0 H' = some r) (k + 1) ⟨id, G, H, ⟨Nat.le_refl _, F, hG, h⟩, Abs.same n rfl (nle _ _ _ h)⟩ ?_
      rintro j F1 H1 ⟨hj, F0, hF0, hr⟩
      cases j with
      | zero => unfold rCode at hr; cases hr
      | succ j =>
        have hn := nle _ _ _ hr
        unfold rCode at hr
        rw [Nat.ble_eq_true_of_le hn, cond_true] at hr
        cases ha : rCode P q n call j c F0 H1 with
        | none => rw [ha] at hr; cases hr
        | some r1 =>
          obtain ⟨e1, F2, H2⟩ := r1
          rw [ha] at hr
          refine AW.mono (IH j (by omega) c hc F0 H1 _ ha F1 hF0) ?_
          rintro e G1 H3 ⟨h1, h2, h3⟩
          simp only at h1 h2 h3
          rw [h1, h3]
          cases e1 with
          | normal => exact ⟨j, by omega, id, G1, H2, ⟨by omega, F2, h2, hr⟩, Abs.same n rfl (nle _ _ _ hr)⟩
          | exit id => simp only [Option.some.injEq] at hr; subst hr; exact ⟨rfl, h2, rfl⟩
          | goto id => simp only [Option.some.injEq] at hr; subst hr; exact ⟨rfl, h2, rfl⟩
          | ret => simp only [Option.some.injEq] at hr; subst hr; exact ⟨rfl, h2, rfl⟩
          | panic ch => simp only [Option.some.injEq] at hr; subst hr; exact ⟨rfl, h2, rfl⟩
          | outgrown => simp only [Option.some.injEq] at hr; subst hr; exact ⟨rfl, h2, rfl⟩
    | region id ops draw =>
      unfold rCode at h
      simp only [Option.map_eq_some_iff] at h
      obtain ⟨⟨F1, H1⟩, h1, h2⟩ := h
      subst h2
      refine AW_of hm _ hc _ _ _ ?_
      cases draw with
      | false => exact AOpsL.mono (fun F H hh => ⟨rfl, hh⟩) _ _ _ (rOps_ok hcall _ _ _ _ _ h1 G hG)
      | true => exact AOpsDL.mono (fun F H hh => ⟨rfl, hh⟩) _ _ _ (rOpsD_ok hcall _ _ _ _ _ h1 G hG)
    | _ => unfold rCode at h; cases h
def lookT : List (Nat × Bool × Func) → Nat → Option (Bool × Func)
  | [], _ => none
  | p :: r, f => bif Nat.beq p.1 f then some p.2 else lookT r f
/-- A function, run: what it hands back, and the memory if it has changed. -/
def rFun (P : Program) (ext : Caller) (tb : List (Nat × Bool × Func)) (fuel : Nat) : Nat → Caller
  | 0, _, _, _ => none
  | k + 1, f, args, H =>
    match lookT tb f with
    | none => ext f args H
    | some (q, fn) =>
      match fn.body with
      | none => none
      | some c =>
        bif Nat.ble args.length fn.ntmps && Nat.ble args.length 1024 then
          match rCode P q H.length (rFun P ext tb fuel k) fuel c (argT 0 args) H with
          | none => none
          | some (e, F', H') =>
            bif (match e with | .ret => true | .normal => true | _ => false) then
              match (aResE P fn.results.toList F' H').map one1 with
              | none => none
              | some x => bif x.bel 0 && prefixB H H' then some (x, none) else bif Nat.ble H.length H'.length then some (x, some H') else none
            else none
        else none
/-- The functions of a table can be entered, and their regions are as the machine wants them. -/
inductive TbOk (P : Program) : List (Nat × Bool × Func) → Prop where
  | nil : TbOk P []
  | cons {f : Nat} {q : Bool} {fn : Func} {r : List (Nat × Bool × Func)} : okFn P f = true → P.funcs[f]? = some fn → (fn.body.map (codeOk fn.ntmps q)) = some true → TbOk P r → TbOk P ((f, q, fn) :: r)
theorem lookT_ok {P : Program} : ∀ {tb : List (Nat × Bool × Func)}, TbOk P tb → ∀ {f : Nat} {q : Bool} {fn : Func}, lookT tb f = some (q, fn) → okFn P f = true ∧ P.funcs[f]? = some fn ∧ (fn.body.map (codeOk fn.ntmps q)) = some true
  | _, .nil, f, q, fn, h => by cases h
  | _, .cons (f := g) h1 h2 h3 hr, f, q, fn, h => by
    unfold lookT at h
    cases hp : Nat.beq g f
    · simp only [hp, cond_false] at h
      exact lookT_ok hr h
    simp only [hp, cond_true, Option.some.injEq, Prod.mk.injEq] at h
    have e : g = f := Nat.eq_of_beq_eq_true hp
    obtain ⟨rfl, rfl⟩ := h
    subst e
    exact ⟨h1, h2, h3⟩
theorem rFun_ok (hm : P.follows .mixedOrders = true) {ext : Caller} (hext : CallOk P ext) (tb : List (Nat × Bool × Func)) (htb : TbOk P tb) (fuel : Nat) : ∀ k, CallOk P (rFun P ext tb fuel k)
  | 0 => fun f args H x o h => by unfold rFun at h; cases h
  | k + 1 => fun f args H x o h => by
    have IH := rFun_ok hm hext tb htb fuel k
    unfold rFun at h
    cases hq : lookT tb f with
    | none => rw [hq] at h; exact hext f args H x o h
    | some p =>
      obtain ⟨q, fn⟩ := p
      rw [hq] at h
      obtain ⟨ht1, hf, ht2⟩ := lookT_ok htb hq
      refine ⟨ht1, ?_⟩
      suffices hall : H.length ≤ (o.getD H).length ∧ ACalls P f args H (fun y H1 => y = x ∧ H1 = o.getD H) from hall
      simp only at h
      cases hb : fn.body with
      | none => rw [hb] at h; cases h
      | some c =>
        rw [hb] at h ht2
        simp only [Option.map_some, Option.some.injEq] at h ht2
        cases hN : Nat.ble args.length fn.ntmps && Nat.ble args.length 1024
        · rw [hN] at h; cases h
        rw [hN, cond_true] at h
        simp only [Bool.and_eq_true] at hN
        cases hr : rCode P q H.length (rFun P ext tb fuel k) fuel c (argT 0 args) H with
        | none => rw [hr] at h; cases h
        | some r =>
          obtain ⟨e, F', H'⟩ := r
          rw [hr] at h
          simp only at h
          have he : e = .ret ∨ e = .normal := by
            cases e <;> first | exact .inl rfl | exact .inr rfl | (simp at h)
          have h' : (match (aResE P fn.results.toList F' H').map one1 with
            | none => none
            | some x => bif x.bel 0 && prefixB H H' then some (x, none) else bif Nat.ble H.length H'.length then some (x, some H') else none) = some (x, o) := by
            rcases he with rfl | rfl <;> exact h
          clear h
          cases hx : (aResE P fn.results.toList F' H').map one1 with
          | none => rw [hx] at h'; cases h'
          | some y =>
            rw [hx] at h'
            simp only at h'
            have key : ∀ (R : AV → AHeap → Prop), (∀ G1, aResult P fn G1 H' = some y → HBel H.length H → AEnd P fn H.length R e G1 H') → ACalls P f args H R := fun R hR => by
              refine ACalls_of hf hb rfl (Nat.le_of_ble_eq_true hN.1) fun hbel => AW.mono (rCode_ok hm IH fuel fuel (Nat.le_refl _) c ht2 _ _ _ hr _ (argT_eq args 0 (by have := Nat.le_of_ble_eq_true hN.2; omega))) ?_
              rintro e1 G1 H1 ⟨h1, h2, h3⟩
              simp only at h1 h2 h3
              rw [h1, h3]
              exact hR G1 (by unfold aResult; rw [← aResE_eq h2]; exact hx) hbel
            cases hp : y.bel 0 && prefixB H H'
            · rw [hp, cond_false] at h'
              cases hle : Nat.ble H.length H'.length
              · rw [hle] at h'; cases h'
              rw [hle, cond_true] at h'
              simp only [Option.some.injEq, Prod.mk.injEq] at h'
              obtain ⟨rfl, rfl⟩ := h'
              refine ⟨Nat.le_of_ble_eq_true hle, key _ fun G1 hG1 _ => ?_⟩
              have : ∃ x1, aResult P fn G1 H' = some x1 ∧ ∃ σ x2 H2, (x2 = y ∧ H2 = (some H').getD H) ∧ Abs H.length σ [(0, x1)] H' [(0, x2)] H2 :=
                ⟨y, hG1, id, y, H', ⟨rfl, rfl⟩, Abs.same _ rfl (Nat.le_of_ble_eq_true hle)⟩
              rcases he with rfl | rfl <;> exact this
            rw [hp, cond_true] at h'
            simp only [Option.some.injEq, Prod.mk.injEq] at h'
            obtain ⟨rfl, rfl⟩ := h'
            simp only [Bool.and_eq_true] at hp
            obtain ⟨l, rfl⟩ := prefixB_eq hp.2
            exact ⟨Nat.le_refl _, key _ fun G1 hG1 hbel => end_plain he hbel hG1 hp.1 ⟨rfl, rfl⟩⟩
/-- A call at known arguments, by the kernel's own run. -/
theorem ran (hm : P.follows .mixedOrders = true) {ext : Caller} (hext : CallOk P ext) (tb : List (Nat × Bool × Func)) (htb : TbOk P tb) (fuel k : Nat) {f : FuncId} {args : List AV} {H : AHeap} {x : AV} {o : Option AHeap} (h : rFun P ext tb fuel k f args H = some (x, o)) : ACalls P f args H (fun y H1 => y = x ∧ H1 = o.getD H) :=
  (rFun_ok hm hext tb htb fuel k f args H x o h).2.2
theorem rel_closed {E E' : Env} {x : AV} {v : Value} (h : Rel E x v) : x.bel 0 = true → Rel E' x v := by
  induction h with
  | any v => exact fun _ => .any v
  | int k n => exact fun _ => .int k n
  | bool b => exact fun _ => .bool b
  | str s => exact fun _ => .str s
  | nilptr => exact fun _ => .nilptr
  | ptr b o hb => exact fun hx => by simp [AV.bel] at hx
  | nilsl => exact fun _ => .nilsl
  | nils b cap hb hc => exact fun hx => by simp [AV.bel] at hx
  | sl b o len cap c a hb h1 h2 h3 h4 h5 => exact fun hx => by simp [AV.bel] at hx
  | nilmp => exact fun _ => .nilmp
  | mp b hb => exact fun hx => by simp [AV.bel] at hx
  | nilfn => exact fun _ => .nilfn
  | fn f caps cs hl _ ih => exact fun hx => .fn f caps cs hl fun i x v h1 h2 => ih i x v h1 h2 (by simp only [AV.bel, AV.bels_eq] at hx; exact List.all_eq_true.1 hx _ (List.mem_of_getElem? h1))
  | agg xs cs hl _ ih => exact fun hx => .agg xs cs hl fun i x v h1 h2 => ih i x v h1 h2 (by simp only [AV.bel, AV.bels_eq] at hx; exact List.all_eq_true.1 hx _ (List.mem_of_getElem? h1))
  | tup xs cs hl _ ih => exact fun hx => .tup xs cs hl fun i x v h1 h2 => ih i x v h1 h2 (by simp only [AV.bel, AV.bels_eq] at hx; exact List.all_eq_true.1 hx _ (List.mem_of_getElem? h1))
/-- A call that takes and hands back plain values and leaves an empty memory empty leaves any memory as it was. -/
theorem ACalls.closed {f : FuncId} {args : List AV} {x : AV} (h : ACalls P f args [] (fun y H1 => y = x ∧ H1 = [])) (ha : args.all (AV.bel 0) = true) (hx : x.bel 0 = true) (H : AHeap) : ACalls P f args H (fun y H1 => y = x ∧ H1 = H) := by
  intro E w vs hE hv
  let E0 : Env := ⟨w.heap.size, w, 0, fun _ => ⟨0, 0, 0, 0⟩⟩
  have hE0 : Emb E0 [] w := ⟨rfl, Below.refl _ _, Nat.le_refl _, fun b x h => by simp at h, fun b c x y h => by simp at h⟩
  refine (h E0 w vs hE0 ⟨hv.1, fun i y v h1 h2 => rel_closed (hv.2 i y v h1 h2) (List.all_eq_true.1 ha _ (List.mem_of_getElem? h1))⟩).mono ?_
  rintro e w' ⟨E', v, H', y, he, ⟨rfl, rfl⟩, hle, hr, hemb⟩
  have hb := hemb.below
  rw [hle.B, hle.w0] at hb
  exact ⟨E, v, H, y, he, ⟨rfl, rfl⟩, .refl E, rel_closed hr hx, hE.up hb⟩
end
end
/-- The functions that the machine can enter. -/
noncomputable def tb : List (Nat × Bool × Func) := [(2, false, Try.f2), (3, false, Try.f3), (4, false, Try.f4), (5, false, Try.f5), (6, false, Try.f6), (7, false, Try.f7), (8, false, Try.f8), (9, false, Try.f9), (10, false, Try.f10), (11, false, Try.f11), (12, false, Try.f12), (13, false, Try.f13), (14, false, Try.f14), (15, false, Try.f15), (16, false, Try.f16), (17, false, Try.f17), (19, false, Try.f19), (21, false, Try.f21), (22, false, Try.f22), (23, false, Try.f23), (24, false, Try.f24), (25, false, Try.f25), (26, false, Try.f26), (27, false, Try.f27), (28, false, Try.f28), (29, false, Try.f29), (30, false, Try.f30), (31, false, Try.f31), (32, false, Try.f32), (33, false, Try.f33), (34, false, Try.f34), (35, false, Try.f35), (36, false, Try.f36), (37, false, Try.f37), (38, false, Try.f38), (39, false, Try.f39), (40, false, Try.f40), (41, false, Try.f41), (42, false, Try.f42), (43, false, Try.f43), (44, false, Try.f44), (45, false, Try.f45), (46, false, Try.f46), (47, false, Try.f47), (48, false, Try.f48), (49, false, Try.f49), (50, false, Try.f50), (51, false, Try.f51), (52, false, Try.f52), (53, false, Try.f53), (55, false, Try.f55), (56, false, Try.f56), (57, false, Try.f57), (58, false, Try.f58), (59, false, Try.f59), (60, false, Try.f60), (61, false, Try.f61), (62, false, Try.f62), (63, false, Try.f63), (64, false, Try.f64), (65, false, Try.f65), (68, false, Try.f68), (69, false, Try.f69), (70, false, Try.f70), (71, false, Try.f71), (72, false, Try.f72), (73, false, Try.f73), (74, false, Try.f74), (75, false, Try.f75)]
set_option maxRecDepth 100000 in
theorem tb_ok : TbOk Try.prog tb :=
  .cons (by kernel_rfl) Try.func2 (by kernel_rfl) (
  .cons (by kernel_rfl) Try.func3 (by kernel_rfl) (
  .cons (by kernel_rfl) Try.func4 (by kernel_rfl) (
  .cons (by kernel_rfl) Try.func5 (by kernel_rfl) (
  .cons (by kernel_rfl) Try.func6 (by kernel_rfl) (
  .cons (by kernel_rfl) Try.func7 (by kernel_rfl) (
  .cons (by kernel_rfl) Try.func8 (by kernel_rfl) (
  .cons (by kernel_rfl) Try.func9 (by kernel_rfl) (
  .cons (by kernel_rfl) Try.func10 (by kernel_rfl) (
  .cons (by kernel_rfl) Try.func11 (by kernel_rfl) (
  .cons (by kernel_rfl) Try.func12 (by kernel_rfl) (
  .cons (by kernel_rfl) Try.func13 (by kernel_rfl) (
  .cons (by kernel_rfl) Try.func14 (by kernel_rfl) (
  .cons (by kernel_rfl) Try.func15 (by kernel_rfl) (
  .cons (by kernel_rfl) Try.func16 (by kernel_rfl) (
  .cons (by kernel_rfl) Try.func17 (by kernel_rfl) (
  .cons (by kernel_rfl) Try.func19 (by kernel_rfl) (
  .cons (by kernel_rfl) Try.func21 (by kernel_rfl) (
  .cons (by kernel_rfl) Try.func22 (by kernel_rfl) (
  .cons (by kernel_rfl) Try.func23 (by kernel_rfl) (
  .cons (by kernel_rfl) Try.func24 (by kernel_rfl) (
  .cons (by kernel_rfl) Try.func25 (by kernel_rfl) (
  .cons (by kernel_rfl) Try.func26 (by kernel_rfl) (
  .cons (by kernel_rfl) Try.func27 (by kernel_rfl) (
  .cons (by kernel_rfl) Try.func28 (by kernel_rfl) (
  .cons (by kernel_rfl) Try.func29 (by kernel_rfl) (
  .cons (by kernel_rfl) Try.func30 (by kernel_rfl) (
  .cons (by kernel_rfl) Try.func31 (by kernel_rfl) (
  .cons (by kernel_rfl) Try.func32 (by kernel_rfl) (
  .cons (by kernel_rfl) Try.func33 (by kernel_rfl) (
  .cons (by kernel_rfl) Try.func34 (by kernel_rfl) (
  .cons (by kernel_rfl) Try.func35 (by kernel_rfl) (
  .cons (by kernel_rfl) Try.func36 (by kernel_rfl) (
  .cons (by kernel_rfl) Try.func37 (by kernel_rfl) (
  .cons (by kernel_rfl) Try.func38 (by kernel_rfl) (
  .cons (by kernel_rfl) Try.func39 (by kernel_rfl) (
  .cons (by kernel_rfl) Try.func40 (by kernel_rfl) (
  .cons (by kernel_rfl) Try.func41 (by kernel_rfl) (
  .cons (by kernel_rfl) Try.func42 (by kernel_rfl) (
  .cons (by kernel_rfl) Try.func43 (by kernel_rfl) (
  .cons (by kernel_rfl) Try.func44 (by kernel_rfl) (
  .cons (by kernel_rfl) Try.func45 (by kernel_rfl) (
  .cons (by kernel_rfl) Try.func46 (by kernel_rfl) (
  .cons (by kernel_rfl) Try.func47 (by kernel_rfl) (
  .cons (by kernel_rfl) Try.func48 (by kernel_rfl) (
  .cons (by kernel_rfl) Try.func49 (by kernel_rfl) (
  .cons (by kernel_rfl) Try.func50 (by kernel_rfl) (
  .cons (by kernel_rfl) Try.func51 (by kernel_rfl) (
  .cons (by kernel_rfl) Try.func52 (by kernel_rfl) (
  .cons (by kernel_rfl) Try.func53 (by kernel_rfl) (
  .cons (by kernel_rfl) Try.func55 (by kernel_rfl) (
  .cons (by kernel_rfl) Try.func56 (by kernel_rfl) (
  .cons (by kernel_rfl) Try.func57 (by kernel_rfl) (
  .cons (by kernel_rfl) Try.func58 (by kernel_rfl) (
  .cons (by kernel_rfl) Try.func59 (by kernel_rfl) (
  .cons (by kernel_rfl) Try.func60 (by kernel_rfl) (
  .cons (by kernel_rfl) Try.func61 (by kernel_rfl) (
  .cons (by kernel_rfl) Try.func62 (by kernel_rfl) (
  .cons (by kernel_rfl) Try.func63 (by kernel_rfl) (
  .cons (by kernel_rfl) Try.func64 (by kernel_rfl) (
  .cons (by kernel_rfl) Try.func65 (by kernel_rfl) (
  .cons (by kernel_rfl) Try.func68 (by kernel_rfl) (
  .cons (by kernel_rfl) Try.func69 (by kernel_rfl) (
  .cons (by kernel_rfl) Try.func70 (by kernel_rfl) (
  .cons (by kernel_rfl) Try.func71 (by kernel_rfl) (
  .cons (by kernel_rfl) Try.func72 (by kernel_rfl) (
  .cons (by kernel_rfl) Try.func73 (by kernel_rfl) (
  .cons (by kernel_rfl) Try.func74 (by kernel_rfl) (
  .cons (by kernel_rfl) Try.func75 (by kernel_rfl) (
  .nil)))))))))))))))))))))))))))))))))))))))))))))))))))))))))))))))))))))
set_option linter.unusedSimpArgs false
set_option linter.unusedVariables false
open Go.RowKit
def ext : Caller := fun f args _ =>
  match args with
  | [.int .u64 x] => bif Nat.beq f 54 && (decide (0 ≤ x) && decide (x ≤ 18446744073709551615)) then some (.int .i64 (Lib.bitLen x.toNat), none) else none
  | _ => none
theorem ext_ok : CallOk Try.prog ext := fun f args H x o h => by
  unfold ext at h
  split at h
  · rename_i x'
    cases hb : Nat.beq f 54 && (decide (0 ≤ x') && decide (x' ≤ 18446744073709551615))
    · rw [hb] at h; cases h
    rw [hb, cond_true] at h
    simp only [Option.some.injEq, Prod.mk.injEq] at h
    obtain ⟨rfl, rfl⟩ := h
    simp only [Bool.and_eq_true, decide_eq_true_eq] at hb
    obtain ⟨h1, h2, h3⟩ := hb
    have e := Nat.eq_of_beq_eq_true h1
    subst e
    refine ⟨by kernel_rfl, Nat.le_refl _, fun E w vs hE hv => ?_⟩
    obtain ⟨v1, l1, rfl, k1, hr⟩ := rels_cons hv
    obtain rfl := rels_nil hr
    obtain rfl := rel_int k1
    refine (Try.bits_Len x' w h2 h3).mono fun e w' ⟨he, hw⟩ => ?_
    subst hw
    exact ⟨E, _, H, _, he, ⟨rfl, rfl⟩, .refl E, .int _ _, hE⟩
  cases h
open Go.RowKit
abbrev pv (p : Pt) : AV := .agg [.int .i64 p.1, .int .i64 p.2]
def gp (l : List Pt) (i : Nat) : Pt := (g1 l i, g2 l i)
theorem gp_eq {l : List Pt} {i : Nat} (h : i < l.length) : gp l i = l[i] := by
  simp [gp, g1, g2, List.getD_eq_getElem?_getD, h]
theorem prs_set0 {l : List Pt} {j : Nat} {v : Int} (h : j < l.length) : (prs l).set (j * 2) (.int .i64 v) = prs (l.set j (v, g2 l j)) := by
  induction l generalizing j with
  | nil => simp at h
  | cons p l ih =>
    cases j with
    | zero => simp [prs_cons, g2]
    | succ j =>
      rw [prs_cons, show (j + 1) * 2 = j * 2 + 1 + 1 by omega, List.set_cons_succ, List.set_cons_succ, ih (by simpa using h), List.set_cons_succ, prs_cons]
      simp [g2]
theorem prs_set1 {l : List Pt} {j : Nat} {v : Int} (h : j < l.length) : (prs l).set (j * 2 + 1) (.int .i64 v) = prs (l.set j (g1 l j, v)) := by
  induction l generalizing j with
  | nil => simp at h
  | cons p l ih =>
    cases j with
    | zero => simp [prs_cons, g1]
    | succ j =>
      rw [prs_cons, show (j + 1) * 2 + 1 = (j * 2 + 1) + 1 + 1 by omega, List.set_cons_succ, List.set_cons_succ, ih (by simpa using h), List.set_cons_succ, prs_cons]
      simp [g1]
section
variable (H : AHeap)
theorem isNaN_c (x : Int) : ACalls Try.prog 46 [.int .i64 x] H (fun v H' => v = .bool false ∧ H' = H) := by
  (refine ACalls_run try_mixed Try.func46 true _ rfl (Nat.le_of_ble_eq_true (by kernel_rfl)) (by kernel_rfl) ?_; intro hbel Q hQ hQ' c hc; unfold Try.f46 at hc; simp only [Option.some.injEq] at hc; subst hc; clear hQ')
  simp -implicitDefEqProofs (disch := omega) only [bne_self_eq_false, simprocAttr, amset, tyset, Function.comp_apply, one1, lenV, calleeOf, lateOk, belowV, aop, AV.ofValue, AV.ofCell, AV.cells, AV.flat, AV.one, arep, aBin, aAppend, aConv]
  exact hQ _ _ (end_plain0 (.inl rfl) hbel (x := .bool false) (resT Try.results46) rfl ⟨rfl, rfl⟩)
theorem compare_c (x y : Int) : ACalls Try.prog 27 [.int .i64 x, .int .i64 y] H (fun v H' => v = .int .i64 (cmpI x y) ∧ H' = H) := by
  (refine ACalls_run try_mixed Try.func27 true _ rfl (Nat.le_of_ble_eq_true (by kernel_rfl)) (by kernel_rfl) ?_; intro hbel Q hQ hQ' c hc; unfold Try.f27 at hc; simp only [Option.some.injEq] at hc; subst hc; clear hQ')
  simp -implicitDefEqProofs (disch := omega) only [simprocAttr, amset, tyset, Function.comp_apply, one1, lenV, calleeOf, lateOk, belowV, aop, AV.ofValue, AV.ofCell, AV.cells, AV.flat, AV.one, arep, aBin, aAppend, aConv]
  refine call_v (by kernel_rfl) (isNaN_c _ _) ?_
  simp -implicitDefEqProofs (disch := omega) only [simprocAttr, amset, tyset, Function.comp_apply, one1, lenV, calleeOf, lateOk, belowV, aop, AV.ofValue, AV.ofCell, AV.cells, AV.flat, AV.one, arep, aBin, aAppend, aConv]
  refine call_v (by kernel_rfl) (isNaN_c _ _) ?_
  by_cases h1 : x < y
  · simp -implicitDefEqProofs (disch := omega) only [h1, simprocAttr, amset, tyset, Function.comp_apply, one1, lenV, calleeOf, lateOk, belowV, aop, AV.ofValue, AV.ofCell, AV.cells, AV.flat, AV.one, arep, aBin, aAppend, aConv]
    exact hQ _ _ (end_plain0 (.inl rfl) hbel (x := .int .i64 (-1)) (resT Try.results27) rfl ⟨by unfold cmpI; rw [if_pos h1], rfl⟩)
  by_cases h2 : y < x
  · simp -implicitDefEqProofs (disch := omega) only [h1, h2, gt_iff_lt, simprocAttr, amset, tyset, Function.comp_apply, one1, lenV, calleeOf, lateOk, belowV, aop, AV.ofValue, AV.ofCell, AV.cells, AV.flat, AV.one, arep, aBin, aAppend, aConv]
    exact hQ _ _ (end_plain0 (.inl rfl) hbel (x := .int .i64 1) (resT Try.results27) rfl ⟨by unfold cmpI; rw [if_neg h1, if_pos h2], rfl⟩)
  simp -implicitDefEqProofs (disch := omega) only [h1, h2, gt_iff_lt, simprocAttr, amset, tyset, Function.comp_apply, one1, lenV, calleeOf, lateOk, belowV, aop, AV.ofValue, AV.ofCell, AV.cells, AV.flat, AV.one, arep, aBin, aAppend, aConv]
  exact hQ _ _ (end_plain0 (.inl rfl) hbel (x := .int .i64 0) (resT Try.results27) rfl ⟨by unfold cmpI; rw [if_neg h1, if_neg h2], rfl⟩)
def within (x m : Int) : Bool := decide (0 - m ≤ x) && decide (x ≤ m)
theorem size_c (x m : Int) (h : 0 ≤ m ∧ m ≤ 4611686018427387904) : ACalls Try.prog 34 [.int .i64 x, .int .i64 m] H (fun v H' => v = .bool (within x m) ∧ H' = H) := by
  (refine ACalls_run try_mixed Try.func34 true _ rfl (Nat.le_of_ble_eq_true (by kernel_rfl)) (by kernel_rfl) ?_; intro hbel Q hQ hQ' c hc; unfold Try.f34 at hc; simp only [Option.some.injEq] at hc; subst hc; clear hQ')
  by_cases h1 : 0 - m ≤ x
  · simp -implicitDefEqProofs (disch := omega) only [h1, ge_iff_le, simprocAttr, amset, tyset, Function.comp_apply, one1, lenV, calleeOf, lateOk, belowV, aop, AV.ofValue, AV.ofCell, AV.cells, AV.flat, AV.one, arep, aBin, aAppend, aConv]
    repeat refine And.intro (by omega) ?_
    exact hQ _ _ (end_plain0 (.inl rfl) hbel (x := .bool (decide (x ≤ m))) (resT Try.results34) rfl ⟨by simp only [within, h1, decide_true, Bool.true_and], rfl⟩)
  simp -implicitDefEqProofs (disch := omega) only [h1, ge_iff_le, simprocAttr, amset, tyset, Function.comp_apply, one1, lenV, calleeOf, lateOk, belowV, aop, AV.ofValue, AV.ofCell, AV.cells, AV.flat, AV.one, arep, aBin, aAppend, aConv]
  repeat refine And.intro (by omega) ?_
  exact hQ _ _ (end_plain0 (.inl rfl) hbel (x := .bool false) (resT Try.results34) rfl ⟨by simp only [within, h1, decide_false, Bool.false_and], rfl⟩)
theorem rwithin_c (x m : Int) (h : 0 ≤ m ∧ m ≤ 4611686018427387904) : ACalls Try.prog 47 [.int .i64 x, .int .i64 m] H (fun v H' => v = .bool (within x m) ∧ H' = H) := by
  (refine ACalls_run try_mixed Try.func47 true _ rfl (Nat.le_of_ble_eq_true (by kernel_rfl)) (by kernel_rfl) ?_; intro hbel Q hQ hQ' c hc; unfold Try.f47 at hc; simp only [Option.some.injEq] at hc; subst hc; clear hQ')
  by_cases h1 : 0 - m ≤ x
  · simp -implicitDefEqProofs (disch := omega) only [h1, ge_iff_le, simprocAttr, amset, tyset, Function.comp_apply, one1, lenV, calleeOf, lateOk, belowV, aop, AV.ofValue, AV.ofCell, AV.cells, AV.flat, AV.one, arep, aBin, aAppend, aConv]
    repeat refine And.intro (by omega) ?_
    exact hQ _ _ (end_plain0 (.inl rfl) hbel (x := .bool (decide (x ≤ m))) (resT Try.results47) rfl ⟨by simp only [within, h1, decide_true, Bool.true_and], rfl⟩)
  simp -implicitDefEqProofs (disch := omega) only [h1, ge_iff_le, simprocAttr, amset, tyset, Function.comp_apply, one1, lenV, calleeOf, lateOk, belowV, aop, AV.ofValue, AV.ofCell, AV.cells, AV.flat, AV.one, arep, aBin, aAppend, aConv]
  repeat refine And.intro (by omega) ?_
  exact hQ _ _ (end_plain0 (.inl rfl) hbel (x := .bool false) (resT Try.results47) rfl ⟨by simp only [within, h1, decide_false, Bool.false_and], rfl⟩)
theorem cross_c (x y : Pt) (hx : Bd 268435456 x) (hy : Bd 268435456 y) : ACalls Try.prog 39 [pv x, pv y] H (fun v H' => v = .int .i64 (crs x y) ∧ H' = H) := by
  have hb := crs_bd hx hy
  (refine ACalls_run try_mixed Try.func39 true _ rfl (Nat.le_of_ble_eq_true (by kernel_rfl)) (by kernel_rfl) ?_; intro hbel Q hQ hQ' c hc; unfold Try.f39 at hc; simp only [Option.some.injEq] at hc; subst hc; clear hQ')
  simp -implicitDefEqProofs (disch := omega) only [simprocAttr, amset, tyset, Function.comp_apply, one1, lenV, calleeOf, lateOk, belowV, aop, AV.ofValue, AV.ofCell, AV.cells, AV.flat, AV.one, arep, aBin, aAppend, aConv]
  repeat refine And.intro (by omega) ?_
  exact hQ _ _ (end_plain (.inl rfl) hbel (x := .int .i64 (x.1 * y.2 - x.2 * y.1)) (resT Try.results39) rfl ⟨rfl, rfl⟩)
theorem rcross_c (x y : Pt) (hx : Bd 268435456 x) (hy : Bd 268435456 y) : ACalls Try.prog 57 [pv x, pv y] H (fun v H' => v = .int .i64 (crs x y) ∧ H' = H) := by
  have hb := crs_bd hx hy
  (refine ACalls_run try_mixed Try.func57 true _ rfl (Nat.le_of_ble_eq_true (by kernel_rfl)) (by kernel_rfl) ?_; intro hbel Q hQ hQ' c hc; unfold Try.f57 at hc; simp only [Option.some.injEq] at hc; subst hc; clear hQ')
  simp -implicitDefEqProofs (disch := omega) only [simprocAttr, amset, tyset, Function.comp_apply, one1, lenV, calleeOf, lateOk, belowV, aop, AV.ofValue, AV.ofCell, AV.cells, AV.flat, AV.one, arep, aBin, aAppend, aConv]
  repeat refine And.intro (by omega) ?_
  exact hQ _ _ (end_plain (.inl rfl) hbel (x := .int .i64 (x.1 * y.2 - x.2 * y.1)) (resT Try.results57) rfl ⟨rfl, rfl⟩)
def absI (n : Int) : Int := if n < 0 then -n else n
theorem abs_c (x : Int) (h : -4611686018427387904 ≤ x ∧ x ≤ 4611686018427387904) : ACalls Try.prog 28 [.int .i64 x] H (fun v H' => v = .int .i64 (absI x) ∧ H' = H) := by
  (refine ACalls_run try_mixed Try.func28 true _ rfl (Nat.le_of_ble_eq_true (by kernel_rfl)) (by kernel_rfl) ?_; intro hbel Q hQ hQ' c hc; unfold Try.f28 at hc; simp only [Option.some.injEq] at hc; subst hc; clear hQ')
  simp -implicitDefEqProofs (disch := omega) only [simprocAttr, amset, tyset, Function.comp_apply, one1, lenV, calleeOf, lateOk, belowV, aop, AV.ofValue, AV.ofCell, AV.cells, AV.flat, AV.one, arep, aBin, aAppend, aConv]
  repeat refine And.intro (by omega) ?_
  exact hQ _ _ (end_plain0 (.inl rfl) hbel (x := .int .i64 (if x < 0 - x then 0 - x else x)) (resT Try.results28) rfl ⟨by unfold absI; congr 1; split <;> split <;> omega, rfl⟩)
theorem rabs_c (x : Int) (h : -4611686018427387904 ≤ x ∧ x ≤ 4611686018427387904) : ACalls Try.prog 31 [.int .i64 x] H (fun v H' => v = .int .i64 (absI x) ∧ H' = H) := by
  (refine ACalls_run try_mixed Try.func31 true _ rfl (Nat.le_of_ble_eq_true (by kernel_rfl)) (by kernel_rfl) ?_; intro hbel Q hQ hQ' c hc; unfold Try.f31 at hc; simp only [Option.some.injEq] at hc; subst hc; clear hQ')
  by_cases h1 : x < 0
  · simp -implicitDefEqProofs (disch := omega) only [h1, simprocAttr, amset, tyset, Function.comp_apply, one1, lenV, calleeOf, lateOk, belowV, aop, AV.ofValue, AV.ofCell, AV.cells, AV.flat, AV.one, arep, aBin, aAppend, aConv]
    repeat refine And.intro (by omega) ?_
    exact hQ _ _ (end_plain0 (.inl rfl) hbel (x := .int .i64 (0 - x)) (resT Try.results31) rfl ⟨by unfold absI; rw [if_pos h1, Int.zero_sub], rfl⟩)
  simp -implicitDefEqProofs (disch := omega) only [h1, simprocAttr, amset, tyset, Function.comp_apply, one1, lenV, calleeOf, lateOk, belowV, aop, AV.ofValue, AV.ofCell, AV.cells, AV.flat, AV.one, arep, aBin, aAppend, aConv]
  exact hQ _ _ (end_plain0 (.inl rfl) hbel (x := .int .i64 x) (resT Try.results31) rfl ⟨by unfold absI; rw [if_neg h1], rfl⟩)
end
set_option linter.unusedSimpArgs false
set_option linter.unusedVariables false
open Go.RowKit
/-- A generator that is not allowed. -/
def wrongB (g : Pt) : Bool := !(within g.1 65536 && within g.2 65536)
def nearB (x : Int) : Bool := within x 2097152
def validB (x y : Int) (l : List Pt) : Bool := within x 8388608 && within y 8388608 && decide (l.length ≤ 16) && !l.any wrongB
theorem IsP.parts {H : AHeap} {s : AV} {l : List Pt} (h : IsP H s l) : ∃ a c, s = .sl a l.length c := by
  rcases h with ⟨rfl, rfl⟩ | ⟨b, own, cap, rfl, hb⟩
  · exact ⟨_, _, rfl⟩
  exact ⟨_, _, rfl⟩
theorem IsP.pos {H : AHeap} {s : AV} {l : List Pt} (h : IsP H s l) (h0 : 0 < l.length) : ∃ b own cap, s = .sl (some (b, 0)) l.length cap ∧ H[b]? = some (.cells own 2 (prs l)) := by
  rcases h with ⟨rfl, rfl⟩ | ⟨b, own, cap, rfl, hb⟩
  · simp at h0
  exact ⟨b, own, cap, rfl, hb⟩
section
variable (H : AHeap)
theorem wrong_c (g : Pt) : ACalls Try.prog 41 [pv g] H (fun v H' => v = .bool (wrongB g) ∧ H' = H) := by
  (refine ACalls_run try_mixed Try.func41 true _ rfl (Nat.le_of_ble_eq_true (by kernel_rfl)) (by kernel_rfl) ?_; intro hbel Q hQ hQ' c hc; unfold Try.f41 at hc; simp only [Option.some.injEq] at hc; subst hc; clear hQ')
  simp -implicitDefEqProofs (disch := omega) only [simprocAttr, amset, tyset, Function.comp_apply, one1, lenV, calleeOf, lateOk, belowV, aop, AV.ofValue, AV.ofCell, AV.cells, AV.flat, AV.one, arep, aBin, aAppend, aConv]
  refine call_v (by kernel_rfl) (size_c _ _ _ (by decide)) ?_
  cases h1 : within g.1 65536
  · simp -implicitDefEqProofs (disch := omega) only [simprocAttr, amset, tyset, Function.comp_apply, one1, lenV, calleeOf, lateOk, belowV, aop, AV.ofValue, AV.ofCell, AV.cells, AV.flat, AV.one, arep, aBin, aAppend, aConv]
    exact hQ _ _ (end_plain (.inl rfl) hbel (x := .bool true) (resT Try.results41) rfl ⟨by simp [wrongB, h1], rfl⟩)
  simp -implicitDefEqProofs (disch := omega) only [simprocAttr, amset, tyset, Function.comp_apply, one1, lenV, calleeOf, lateOk, belowV, aop, AV.ofValue, AV.ofCell, AV.cells, AV.flat, AV.one, arep, aBin, aAppend, aConv]
  refine call_v (by kernel_rfl) (size_c _ _ _ (by decide)) ?_
  simp -implicitDefEqProofs (disch := omega) only [simprocAttr, amset, tyset, Function.comp_apply, one1, lenV, calleeOf, lateOk, belowV, aop, AV.ofValue, AV.ofCell, AV.cells, AV.flat, AV.one, arep, aBin, aAppend, aConv]
  exact hQ _ _ (end_plain (.inl rfl) hbel (x := .bool (!within g.2 65536)) (resT Try.results41) rfl ⟨by simp [wrongB, h1], rfl⟩)
theorem any_take {α : Type} {l : List α} {p : α → Bool} {i : Nat} (h : i < l.length) : (l.take (i + 1)).any p = ((l.take i).any p || p l[i]) := by
  rw [List.take_succ_eq_append_getElem h, List.any_append]; simp
set_option maxRecDepth 100000 in
theorem index_c (s : AV) (l : List Pt) (hs : IsP H s l) (hl : l.length ≤ 1000000) : ACalls Try.prog 52 [s, .fn 41 []] H (fun v H' => ∃ r, v = .int .i64 r ∧ decide (0 ≤ r) = l.any wrongB ∧ H' = H) := by
  rcases Nat.eq_zero_or_pos l.length with h0 | h0
  · obtain rfl : l = [] := List.eq_nil_of_length_eq_zero h0
    obtain ⟨a, c, rfl⟩ := hs.parts
    (refine ACalls_run try_mixed Try.func52 true _ rfl (Nat.le_of_ble_eq_true (by kernel_rfl)) (by kernel_rfl) ?_; intro hbel Q hQ hQ' c hc; unfold Try.f52 at hc; simp only [Option.some.injEq] at hc; subst hc; clear hQ')
    simp -implicitDefEqProofs (disch := omega) only [List.length_nil, simprocAttr, amset, tyset, Function.comp_apply, one1, lenV, calleeOf, lateOk, belowV, aop, AV.ofValue, AV.ofCell, AV.cells, AV.flat, AV.one, arep, aBin, aAppend, aConv]
    refine go_loop try_mixed (by kernel_rfl) (fun k F Hx => F = [(7, .int .i64 0), (8, .int .i64 0)] ∧ Hx = H) 1 ?_ ?_
    · refine ⟨_, _, _, ⟨rfl, rfl⟩, Abs.by0 hbel ?_⟩
      exact absT
    rintro k F Hx ⟨rfl, rfl⟩ J hJ
    simp -implicitDefEqProofs (disch := omega) only [Int.lt_irrefl, simprocAttr, amset, tyset, Function.comp_apply, one1, lenV, calleeOf, lateOk, belowV, aop, AV.ofValue, AV.ofCell, AV.cells, AV.flat, AV.one, arep, aBin, aAppend, aConv]
    exact hQ _ _ (end_plain0 (.inl rfl) hbel (x := .int .i64 (-1)) (resT Try.results52) rfl ⟨_, rfl, rfl, rfl⟩)
  obtain ⟨b, own, cap, rfl, hb⟩ := hs.pos h0
  have hbl := getElem?_lt hb
  (refine ACalls_run try_mixed Try.func52 true _ rfl (Nat.le_of_ble_eq_true (by kernel_rfl)) (by kernel_rfl) ?_; intro hbel Q hQ hQ' c hc; unfold Try.f52 at hc; simp only [Option.some.injEq] at hc; subst hc; clear hQ')
  simp -implicitDefEqProofs (disch := omega) only [simprocAttr, amset, tyset, Function.comp_apply, one1, lenV, calleeOf, lateOk, belowV, aop, AV.ofValue, AV.ofCell, AV.cells, AV.flat, AV.one, arep, aBin, aAppend, aConv]
  refine go_loop try_mixed (by kernel_rfl) (fun k F Hx => ∃ i : Nat, i + k = l.length ∧ (l.take i).any wrongB = false ∧ F = [(0, .sl (some (b, 0)) l.length none), (1, .fn 41 []), (7, .int .i64 l.length), (8, .int .i64 (i : Nat))] ∧ Hx = H) l.length ?_ ?_
  · refine ⟨_, _, _, ⟨0, by omega, rfl, rfl, rfl⟩, Abs.by0 hbel ?_⟩
    exact absT
  rintro k F Hx ⟨i, hik, ht, rfl, rfl⟩ J hJ
  by_cases hi : i < l.length
  · have hii : (i : Int) < (l.length : Int) := by omega
    have q1 := prs_load hi
    have hg : gp l i = l[i] := gp_eq hi
    simp -implicitDefEqProofs (disch := omega) only [hii, hb, q1, simprocAttr, amset, tyset, Function.comp_apply, one1, lenV, calleeOf, lateOk, belowV, aop, AV.ofValue, AV.ofCell, AV.cells, AV.flat, AV.one, arep, aBin, aAppend, aConv]
    repeat refine And.intro (by omega) ?_
    refine call_v (by kernel_rfl) (wrong_c _ (gp l i)) ?_
    have hst := any_take (p := wrongB) hi
    rw [← hg, ht, Bool.false_or] at hst
    cases h1 : wrongB (gp l i)
    · rw [h1] at hst
      simp -implicitDefEqProofs (disch := omega) only [simprocAttr, amset, tyset, Function.comp_apply, one1, lenV, calleeOf, lateOk, belowV, aop, AV.ofValue, AV.ofCell, AV.cells, AV.flat, AV.one, arep, aBin, aAppend, aConv]
      refine hJ _ _ ⟨k - 1, by omega, _, _, _, ⟨i + 1, by omega, hst, rfl, rfl⟩, Abs.by0 hbel ?_⟩
      exact absT
    simp -implicitDefEqProofs (disch := omega) only [simprocAttr, amset, tyset, Function.comp_apply, one1, lenV, calleeOf, lateOk, belowV, aop, AV.ofValue, AV.ofCell, AV.cells, AV.flat, AV.one, arep, aBin, aAppend, aConv]
    exact hQ _ _ (end_plain0 (.inl rfl) hbel (x := .int .i64 (i : Nat)) (resT Try.results52) rfl ⟨_, rfl, by rw [decide_eq_true (by omega)]; symm; rw [List.any_eq_true]; exact ⟨l[i], List.getElem_mem hi, by rw [← hg]; exact h1⟩, rfl⟩)
  have hnn : ¬ ((i : Int) < (l.length : Int)) := by omega
  simp -implicitDefEqProofs (disch := omega) only [hnn, simprocAttr, amset, tyset, Function.comp_apply, one1, lenV, calleeOf, lateOk, belowV, aop, AV.ofValue, AV.ofCell, AV.cells, AV.flat, AV.one, arep, aBin, aAppend, aConv]
  rw [List.take_of_length_le (by omega)] at ht
  exact hQ _ _ (end_plain0 (.inl rfl) hbel (x := .int .i64 (-1)) (resT Try.results52) rfl ⟨_, rfl, by rw [ht]; rfl, rfl⟩)
theorem contains_c (s : AV) (l : List Pt) (hs : IsP H s l) (hl : l.length ≤ 1000000) : ACalls Try.prog 42 [s, .fn 41 []] H (fun v H' => v = .bool (l.any wrongB) ∧ H' = H) := by
  have key := index_c H s l hs hl
  obtain ⟨a, c, rfl⟩ := hs.parts
  (refine ACalls_run try_mixed Try.func42 true _ rfl (Nat.le_of_ble_eq_true (by kernel_rfl)) (by kernel_rfl) ?_; intro hbel Q hQ hQ' c hc; unfold Try.f42 at hc; simp only [Option.some.injEq] at hc; subst hc; clear hQ')
  simp -implicitDefEqProofs (disch := omega) only [simprocAttr, amset, tyset, Function.comp_apply, one1, lenV, calleeOf, lateOk, belowV, aop, AV.ofValue, AV.ofCell, AV.cells, AV.flat, AV.one, arep, aBin, aAppend, aConv]
  refine call_of (by kernel_rfl) key ?_
  rintro x H' ⟨r, rfl, hr, rfl⟩
  simp -implicitDefEqProofs (disch := omega) only [simprocAttr, amset, tyset, Function.comp_apply, one1, lenV, calleeOf, lateOk, belowV, aop, AV.ofValue, AV.ofCell, AV.cells, AV.flat, AV.one, arep, aBin, aAppend, aConv]
  exact hQ _ _ (end_plain0 (.inl rfl) hbel (x := .bool (decide (0 ≤ r))) (resT Try.results42) rfl ⟨by rw [hr], rfl⟩)
set_option maxRecDepth 100000 in
theorem valid_c (x y : Int) (s : AV) (l : List Pt) (hs : IsP H s l) : ACalls Try.prog 21 [.agg [.int .i64 x, .int .i64 y, s]] H (fun v H' => v = .bool (validB x y l) ∧ H' = H) := by
  have key := fun l' => contains_c (H ++ l') s l (hs.app l')
  obtain ⟨a, c, rfl⟩ := hs.parts
  (refine ACalls_run try_mixed Try.func21 true _ rfl (Nat.le_of_ble_eq_true (by kernel_rfl)) (by kernel_rfl) ?_; intro hbel Q hQ hQ' c hc; unfold Try.f21 at hc; simp only [Option.some.injEq] at hc; subst hc; clear hQ')
  simp -implicitDefEqProofs (disch := omega) only [simprocAttr, amset, tyset, Function.comp_apply, one1, lenV, calleeOf, lateOk, belowV, aop, AV.ofValue, AV.ofCell, AV.cells, AV.flat, AV.one, arep, aBin, aAppend, aConv]
  refine call_v (by kernel_rfl) (size_c _ _ _ (by decide)) ?_
  cases h1 : within x 8388608
  · simp -implicitDefEqProofs (disch := omega) only [simprocAttr, amset, tyset, Function.comp_apply, one1, lenV, calleeOf, lateOk, belowV, aop, AV.ofValue, AV.ofCell, AV.cells, AV.flat, AV.one, arep, aBin, aAppend, aConv]
    exact hQ _ _ (end_plain (.inl rfl) hbel (x := .bool false) (resT Try.results21) rfl ⟨by simp [validB, h1], rfl⟩)
  simp -implicitDefEqProofs (disch := omega) only [simprocAttr, amset, tyset, Function.comp_apply, one1, lenV, calleeOf, lateOk, belowV, aop, AV.ofValue, AV.ofCell, AV.cells, AV.flat, AV.one, arep, aBin, aAppend, aConv]
  refine call_v (by kernel_rfl) (size_c _ _ _ (by decide)) ?_
  cases h2 : within y 8388608
  · simp -implicitDefEqProofs (disch := omega) only [simprocAttr, amset, tyset, Function.comp_apply, one1, lenV, calleeOf, lateOk, belowV, aop, AV.ofValue, AV.ofCell, AV.cells, AV.flat, AV.one, arep, aBin, aAppend, aConv]
    exact hQ _ _ (end_plain (.inl rfl) hbel (x := .bool false) (resT Try.results21) rfl ⟨by simp [validB, h1, h2], rfl⟩)
  by_cases h3 : (l.length : Int) ≤ 16
  · simp -implicitDefEqProofs (disch := omega) only [h3, simprocAttr, amset, tyset, Function.comp_apply, one1, lenV, calleeOf, lateOk, belowV, aop, AV.ofValue, AV.ofCell, AV.cells, AV.flat, AV.one, arep, aBin, aAppend, aConv]
    refine call_v (by kernel_rfl) (key _ (by omega)) ?_
    simp -implicitDefEqProofs (disch := omega) only [simprocAttr, amset, tyset, Function.comp_apply, one1, lenV, calleeOf, lateOk, belowV, aop, AV.ofValue, AV.ofCell, AV.cells, AV.flat, AV.one, arep, aBin, aAppend, aConv]
    exact hQ _ _ (end_plain (.inl rfl) hbel (x := .bool (!l.any wrongB)) (resT Try.results21) rfl ⟨by rw [validB, h1, h2, decide_eq_true (by omega)]; rfl, rfl⟩)
  simp -implicitDefEqProofs (disch := omega) only [h3, simprocAttr, amset, tyset, Function.comp_apply, one1, lenV, calleeOf, lateOk, belowV, aop, AV.ofValue, AV.ofCell, AV.cells, AV.flat, AV.one, arep, aBin, aAppend, aConv]
  exact hQ _ _ (end_plain (.inl rfl) hbel (x := .bool false) (resT Try.results21) rfl ⟨by rw [validB, h1, h2, decide_eq_false (by omega)]; rfl, rfl⟩)
end
set_option linter.unusedSimpArgs false
set_option linter.unusedVariables false
open Go.RowKit
theorem IsI.partsI {k : IntKind} {H : AHeap} {s : AV} {l : List Int} (h : IsI H k s l) : ∃ a c, s = .sl a l.length c := by
  rcases h with ⟨rfl, rfl⟩ | ⟨b, own, cap, rfl, hb⟩
  · exact ⟨_, _, rfl⟩
  exact ⟨_, _, rfl⟩
theorem IsI.posI {k : IntKind} {H : AHeap} {s : AV} {l : List Int} (h : IsI H k s l) (h0 : 0 < l.length) : ∃ b own cap, s = .sl (some (b, 0)) l.length cap ∧ H[b]? = some (.cells own 1 (ints k l)) := by
  rcases h with ⟨rfl, rfl⟩ | ⟨b, own, cap, rfl, hb⟩
  · simp at h0
  exact ⟨b, own, cap, rfl, hb⟩
def farB (x : Int) : Bool := !nearB x
section
variable (H : AHeap)
theorem far_c (x : Int) : ACalls Try.prog 50 [.int .i64 x] H (fun v H' => v = .bool (farB x) ∧ H' = H) := by
  (refine ACalls_run try_mixed Try.func50 true _ rfl (Nat.le_of_ble_eq_true (by kernel_rfl)) (by kernel_rfl) ?_; intro hbel Q hQ hQ' c hc; unfold Try.f50 at hc; simp only [Option.some.injEq] at hc; subst hc; clear hQ')
  simp -implicitDefEqProofs (disch := omega) only [simprocAttr, amset, tyset, Function.comp_apply, one1, lenV, calleeOf, lateOk, belowV, aop, AV.ofValue, AV.ofCell, AV.cells, AV.flat, AV.one, arep, aBin, aAppend, aConv]
  refine call_v (by kernel_rfl) (size_c _ _ _ (by decide)) ?_
  simp -implicitDefEqProofs (disch := omega) only [simprocAttr, amset, tyset, Function.comp_apply, one1, lenV, calleeOf, lateOk, belowV, aop, AV.ofValue, AV.ofCell, AV.cells, AV.flat, AV.one, arep, aBin, aAppend, aConv]
  exact hQ _ _ (end_plain0 (.inl rfl) hbel (x := .bool (!within x 2097152)) (resT Try.results50) rfl ⟨rfl, rfl⟩)
set_option maxRecDepth 100000 in
theorem indexI_c (s : AV) (l : List Int) (hs : IsI H .i64 s l) (hl : l.length ≤ 1000000) : ACalls Try.prog 58 [s, .fn 50 []] H (fun v H' => ∃ r, v = .int .i64 r ∧ decide (0 ≤ r) = l.any farB ∧ H' = H) := by
  rcases Nat.eq_zero_or_pos l.length with h0 | h0
  · obtain rfl : l = [] := List.eq_nil_of_length_eq_zero h0
    obtain ⟨a, c, rfl⟩ := hs.partsI
    (refine ACalls_run try_mixed Try.func58 true _ rfl (Nat.le_of_ble_eq_true (by kernel_rfl)) (by kernel_rfl) ?_; intro hbel Q hQ hQ' c hc; unfold Try.f58 at hc; simp only [Option.some.injEq] at hc; subst hc; clear hQ')
    simp -implicitDefEqProofs (disch := omega) only [List.length_nil, simprocAttr, amset, tyset, Function.comp_apply, one1, lenV, calleeOf, lateOk, belowV, aop, AV.ofValue, AV.ofCell, AV.cells, AV.flat, AV.one, arep, aBin, aAppend, aConv]
    refine go_loop try_mixed (by kernel_rfl) (fun k F Hx => F = [(7, .int .i64 0), (8, .int .i64 0)] ∧ Hx = H) 1 ?_ ?_
    · refine ⟨_, _, _, ⟨rfl, rfl⟩, Abs.by0 hbel ?_⟩
      exact absT
    rintro k F Hx ⟨rfl, rfl⟩ J hJ
    simp -implicitDefEqProofs (disch := omega) only [Int.lt_irrefl, simprocAttr, amset, tyset, Function.comp_apply, one1, lenV, calleeOf, lateOk, belowV, aop, AV.ofValue, AV.ofCell, AV.cells, AV.flat, AV.one, arep, aBin, aAppend, aConv]
    exact hQ _ _ (end_plain0 (.inl rfl) hbel (x := .int .i64 (-1)) (resT Try.results58) rfl ⟨_, rfl, rfl, rfl⟩)
  obtain ⟨b, own, cap, rfl, hb⟩ := hs.posI h0
  have hbl := getElem?_lt hb
  (refine ACalls_run try_mixed Try.func58 true _ rfl (Nat.le_of_ble_eq_true (by kernel_rfl)) (by kernel_rfl) ?_; intro hbel Q hQ hQ' c hc; unfold Try.f58 at hc; simp only [Option.some.injEq] at hc; subst hc; clear hQ')
  simp -implicitDefEqProofs (disch := omega) only [simprocAttr, amset, tyset, Function.comp_apply, one1, lenV, calleeOf, lateOk, belowV, aop, AV.ofValue, AV.ofCell, AV.cells, AV.flat, AV.one, arep, aBin, aAppend, aConv]
  refine go_loop try_mixed (by kernel_rfl) (fun k F Hx => ∃ i : Nat, i + k = l.length ∧ (l.take i).any farB = false ∧ F = [(0, .sl (some (b, 0)) l.length none), (1, .fn 50 []), (7, .int .i64 l.length), (8, .int .i64 (i : Nat))] ∧ Hx = H) l.length ?_ ?_
  · refine ⟨_, _, _, ⟨0, by omega, rfl, rfl, rfl⟩, Abs.by0 hbel ?_⟩
    exact absT
  rintro k F Hx ⟨i, hik, ht, rfl, rfl⟩ J hJ
  by_cases hi : i < l.length
  · have hii : (i : Int) < (l.length : Int) := by omega
    have q1 := ints_get (k := .i64) (xs := l) (j := i) hi
    have hg : gi l i = l[i] := gi_lt hi
    simp -implicitDefEqProofs (disch := omega) only [hii, hb, q1, simprocAttr, amset, tyset, Function.comp_apply, one1, lenV, calleeOf, lateOk, belowV, aop, AV.ofValue, AV.ofCell, AV.cells, AV.flat, AV.one, arep, aBin, aAppend, aConv]
    repeat refine And.intro (by omega) ?_
    refine call_v (by kernel_rfl) (far_c _ (gi l i)) ?_
    have hst := any_take (p := farB) hi
    rw [← hg, ht, Bool.false_or] at hst
    cases h1 : farB (gi l i)
    · rw [h1] at hst
      simp -implicitDefEqProofs (disch := omega) only [simprocAttr, amset, tyset, Function.comp_apply, one1, lenV, calleeOf, lateOk, belowV, aop, AV.ofValue, AV.ofCell, AV.cells, AV.flat, AV.one, arep, aBin, aAppend, aConv]
      refine hJ _ _ ⟨k - 1, by omega, _, _, _, ⟨i + 1, by omega, hst, rfl, rfl⟩, Abs.by0 hbel ?_⟩
      exact absT
    simp -implicitDefEqProofs (disch := omega) only [simprocAttr, amset, tyset, Function.comp_apply, one1, lenV, calleeOf, lateOk, belowV, aop, AV.ofValue, AV.ofCell, AV.cells, AV.flat, AV.one, arep, aBin, aAppend, aConv]
    exact hQ _ _ (end_plain0 (.inl rfl) hbel (x := .int .i64 (i : Nat)) (resT Try.results58) rfl ⟨_, rfl, by rw [decide_eq_true (by omega)]; symm; rw [List.any_eq_true]; exact ⟨l[i], List.getElem_mem hi, by rw [← hg]; exact h1⟩, rfl⟩)
  have hnn : ¬ ((i : Int) < (l.length : Int)) := by omega
  simp -implicitDefEqProofs (disch := omega) only [hnn, simprocAttr, amset, tyset, Function.comp_apply, one1, lenV, calleeOf, lateOk, belowV, aop, AV.ofValue, AV.ofCell, AV.cells, AV.flat, AV.one, arep, aBin, aAppend, aConv]
  rw [List.take_of_length_le (by omega)] at ht
  exact hQ _ _ (end_plain0 (.inl rfl) hbel (x := .int .i64 (-1)) (resT Try.results58) rfl ⟨_, rfl, by rw [ht]; rfl, rfl⟩)
theorem containsI_c (s : AV) (l : List Int) (hs : IsI H .i64 s l) (hl : l.length ≤ 1000000) : ACalls Try.prog 49 [s, .fn 50 []] H (fun v H' => v = .bool (l.any farB) ∧ H' = H) := by
  have key := indexI_c H s l hs hl
  obtain ⟨a, c, rfl⟩ := hs.partsI
  (refine ACalls_run try_mixed Try.func49 true _ rfl (Nat.le_of_ble_eq_true (by kernel_rfl)) (by kernel_rfl) ?_; intro hbel Q hQ hQ' c hc; unfold Try.f49 at hc; simp only [Option.some.injEq] at hc; subst hc; clear hQ')
  simp -implicitDefEqProofs (disch := omega) only [simprocAttr, amset, tyset, Function.comp_apply, one1, lenV, calleeOf, lateOk, belowV, aop, AV.ofValue, AV.ofCell, AV.cells, AV.flat, AV.one, arep, aBin, aAppend, aConv]
  refine call_of (by kernel_rfl) key ?_
  rintro x H' ⟨r, rfl, hr, rfl⟩
  simp -implicitDefEqProofs (disch := omega) only [simprocAttr, amset, tyset, Function.comp_apply, one1, lenV, calleeOf, lateOk, belowV, aop, AV.ofValue, AV.ofCell, AV.cells, AV.flat, AV.one, arep, aBin, aAppend, aConv]
  exact hQ _ _ (end_plain0 (.inl rfl) hbel (x := .bool (decide (0 ≤ r))) (resT Try.results49) rfl ⟨by rw [hr], rfl⟩)
theorem near_c (s : AV) (l : List Int) (hs : IsI H .i64 s l) (hl : l.length ≤ 1000000) : ACalls Try.prog 36 [s] H (fun v H' => v = .bool (!l.any farB) ∧ H' = H) := by
  have key := containsI_c H s l hs hl
  obtain ⟨a, c, rfl⟩ := hs.partsI
  (refine ACalls_run try_mixed Try.func36 true _ rfl (Nat.le_of_ble_eq_true (by kernel_rfl)) (by kernel_rfl) ?_; intro hbel Q hQ hQ' c hc; unfold Try.f36 at hc; simp only [Option.some.injEq] at hc; subst hc; clear hQ')
  simp -implicitDefEqProofs (disch := omega) only [simprocAttr, amset, tyset, Function.comp_apply, one1, lenV, calleeOf, lateOk, belowV, aop, AV.ofValue, AV.ofCell, AV.cells, AV.flat, AV.one, arep, aBin, aAppend, aConv]
  refine call_v (by kernel_rfl) key ?_
  simp -implicitDefEqProofs (disch := omega) only [simprocAttr, amset, tyset, Function.comp_apply, one1, lenV, calleeOf, lateOk, belowV, aop, AV.ofValue, AV.ofCell, AV.cells, AV.flat, AV.one, arep, aBin, aAppend, aConv]
  exact hQ _ _ (end_plain0 (.inl rfl) hbel (x := .bool (!l.any farB)) (resT Try.results36) rfl ⟨rfl, rfl⟩)
theorem few_c (x y : Int) (s : AV) (l : List Pt) (hs : IsP H s l) : ACalls Try.prog 5 [.agg [.int .i64 x, .int .i64 y, s]] H (fun v H' => v = .bool (decide ((l.length : Int) ≤ 40)) ∧ H' = H) := by
  obtain ⟨a, cap, rfl⟩ := hs.parts
  (refine ACalls_run try_mixed Try.func5 true _ rfl (Nat.le_of_ble_eq_true (by kernel_rfl)) (by kernel_rfl) ?_; intro hbel Q hQ hQ' c hc; unfold Try.f5 at hc; simp only [Option.some.injEq] at hc; subst hc; clear hQ')
  simp -implicitDefEqProofs (disch := omega) only [simprocAttr, amset, tyset, Function.comp_apply, one1, lenV, calleeOf, lateOk, belowV, aop, AV.ofValue, AV.ofCell, AV.cells, AV.flat, AV.one, arep, aBin, aAppend, aConv]
  exact hQ _ _ (end_plain (.inl rfl) hbel (x := .bool (decide ((l.length : Int) ≤ 40))) (resT Try.results5) rfl ⟨rfl, rfl⟩)
theorem validB_any {x y : Int} {l : List Pt} (h : l.any wrongB = true) : validB x y l = false := by rw [validB, h]; simp
set_option maxRecDepth 100000 in
theorem rvalid_c (x y : Int) (s : AV) (l : List Pt) (hs : IsP H s l) (hl : l.length ≤ 1000000) : ACalls Try.prog 29 [.agg [.int .i64 x, .int .i64 y, s]] H (fun v H' => v = .bool (validB x y l) ∧ H' = H) := by
  rcases hs with ⟨rfl, rfl⟩ | ⟨b, own, cap, rfl, hb⟩
  · (refine ACalls_run try_mixed Try.func29 true _ rfl (Nat.le_of_ble_eq_true (by kernel_rfl)) (by kernel_rfl) ?_; intro hbel Q hQ hQ' c hc; unfold Try.f29 at hc; simp only [Option.some.injEq] at hc; subst hc; clear hQ')
    simp -implicitDefEqProofs (disch := omega) only [simprocAttr, amset, tyset, Function.comp_apply, one1, lenV, calleeOf, lateOk, belowV, aop, AV.ofValue, AV.ofCell, AV.cells, AV.flat, AV.one, arep, aBin, aAppend, aConv]
    refine go_loop try_mixed (by kernel_rfl) (fun k F Hx => F = [(1, .ptr (some (H.length, 0))), (3, .int .i64 0)] ∧ Hx = H ++ [.cells true 0 [.int .i64 x, .int .i64 y, .sl none 0 (some 0)]]) 1 ?_ ?_
    · refine ⟨_, _, _, ⟨rfl, rfl⟩, Abs.by hbel [0] (by decide) ?_⟩
      exact absT
    rintro k F Hx ⟨rfl, rfl⟩ J hJ
    simp -implicitDefEqProofs (disch := omega) only [Int.lt_irrefl, simprocAttr, amset, tyset, Function.comp_apply, one1, lenV, calleeOf, lateOk, belowV, aop, AV.ofValue, AV.ofCell, AV.cells, AV.flat, AV.one, arep, aBin, aAppend, aConv]
    refine call_v (by kernel_rfl) (rwithin_c _ _ _ (by decide)) ?_
    cases h1 : within x 8388608
    · simp -implicitDefEqProofs (disch := omega) only [simprocAttr, amset, tyset, Function.comp_apply, one1, lenV, calleeOf, lateOk, belowV, aop, AV.ofValue, AV.ofCell, AV.cells, AV.flat, AV.one, arep, aBin, aAppend, aConv]
      exact hQ _ _ (end_plain (.inl rfl) hbel (x := .bool false) (resT Try.results29) rfl ⟨by simp [validB, h1], rfl⟩)
    simp -implicitDefEqProofs (disch := omega) only [simprocAttr, amset, tyset, Function.comp_apply, one1, lenV, calleeOf, lateOk, belowV, aop, AV.ofValue, AV.ofCell, AV.cells, AV.flat, AV.one, arep, aBin, aAppend, aConv]
    refine call_v (by kernel_rfl) (rwithin_c _ _ _ (by decide)) ?_
    cases h2 : within y 8388608
    · simp -implicitDefEqProofs (disch := omega) only [simprocAttr, amset, tyset, Function.comp_apply, one1, lenV, calleeOf, lateOk, belowV, aop, AV.ofValue, AV.ofCell, AV.cells, AV.flat, AV.one, arep, aBin, aAppend, aConv]
      exact hQ _ _ (end_plain (.inl rfl) hbel (x := .bool false) (resT Try.results29) rfl ⟨by simp [validB, h1, h2], rfl⟩)
    simp -implicitDefEqProofs (disch := omega) only [simprocAttr, amset, tyset, Function.comp_apply, one1, lenV, calleeOf, lateOk, belowV, aop, AV.ofValue, AV.ofCell, AV.cells, AV.flat, AV.one, arep, aBin, aAppend, aConv]
    exact hQ _ _ (end_plain (.inl rfl) hbel (x := .bool true) (resT Try.results29) rfl ⟨by simp [validB, h1, h2], rfl⟩)
  have hbl := getElem?_lt hb
  have hb0 := fun l => get_app (l := l) hb
  generalize hn : l.length = n at *
  (refine ACalls_run try_mixed Try.func29 true _ rfl (Nat.le_of_ble_eq_true (by kernel_rfl)) (by kernel_rfl) ?_; intro hbel Q hQ hQ' c hc; unfold Try.f29 at hc; simp only [Option.some.injEq] at hc; subst hc; clear hQ')
  simp -implicitDefEqProofs (disch := omega) only [simprocAttr, amset, tyset, Function.comp_apply, one1, lenV, calleeOf, lateOk, belowV, aop, AV.ofValue, AV.ofCell, AV.cells, AV.flat, AV.one, arep, aBin, aAppend, aConv]
  refine go_loop try_mixed (by kernel_rfl) (fun k F Hx => ∃ i : Nat, i + k = n ∧ (l.take i).any wrongB = false ∧ F = [(1, .ptr (some (H.length, 0))), (3, .int .i64 (i : Nat))] ∧ Hx = H ++ [.cells true 0 [.int .i64 x, .int .i64 y, .sl (some (b, 0)) n cap]]) n ?_ ?_
  · refine ⟨_, _, _, ⟨0, by omega, rfl, rfl, rfl⟩, Abs.by hbel [0] (by decide) ?_⟩
    exact absT
  rintro k F Hx ⟨i, hik, ht, rfl, rfl⟩ J hJ
  by_cases hi : i < l.length
  · have hii : (i : Int) < (n : Int) := by omega
    have q0 := prs_at0 hi
    have q1 := prs_at1 hi
    have hg : gp l i = l[i] := gp_eq hi
    have hst := any_take (p := wrongB) hi
    rw [← hg, ht, Bool.false_or] at hst
    simp -implicitDefEqProofs (disch := omega) only [hii, hb0, q0, q1, simprocAttr, amset, tyset, Function.comp_apply, one1, lenV, calleeOf, lateOk, belowV, aop, AV.ofValue, AV.ofCell, AV.cells, AV.flat, AV.one, arep, aBin, aAppend, aConv]
    repeat refine And.intro (by omega) ?_
    refine call_v (by kernel_rfl) (rwithin_c _ _ _ (by decide)) ?_
    cases h1 : within (g1 l i) 65536
    · simp -implicitDefEqProofs (disch := omega) only [simprocAttr, amset, tyset, Function.comp_apply, one1, lenV, calleeOf, lateOk, belowV, aop, AV.ofValue, AV.ofCell, AV.cells, AV.flat, AV.one, arep, aBin, aAppend, aConv]
      exact hQ _ _ (end_plain (.inl rfl) hbel (x := .bool false) (resT Try.results29) rfl ⟨by rw [validB_any (List.any_eq_true.2 ⟨l[i], List.getElem_mem hi, by rw [← hg]; simp [wrongB, gp, h1]⟩)], rfl⟩)
    simp -implicitDefEqProofs (disch := omega) only [hii, hb0, q0, q1, simprocAttr, amset, tyset, Function.comp_apply, one1, lenV, calleeOf, lateOk, belowV, aop, AV.ofValue, AV.ofCell, AV.cells, AV.flat, AV.one, arep, aBin, aAppend, aConv]
    repeat refine And.intro (by omega) ?_
    refine call_v (by kernel_rfl) (rwithin_c _ _ _ (by decide)) ?_
    cases h2 : within (g2 l i) 65536
    · simp -implicitDefEqProofs (disch := omega) only [simprocAttr, amset, tyset, Function.comp_apply, one1, lenV, calleeOf, lateOk, belowV, aop, AV.ofValue, AV.ofCell, AV.cells, AV.flat, AV.one, arep, aBin, aAppend, aConv]
      exact hQ _ _ (end_plain (.inl rfl) hbel (x := .bool false) (resT Try.results29) rfl ⟨by rw [validB_any (List.any_eq_true.2 ⟨l[i], List.getElem_mem hi, by rw [← hg]; simp [wrongB, gp, h1, h2]⟩)], rfl⟩)
    simp -implicitDefEqProofs (disch := omega) only [simprocAttr, amset, tyset, Function.comp_apply, one1, lenV, calleeOf, lateOk, belowV, aop, AV.ofValue, AV.ofCell, AV.cells, AV.flat, AV.one, arep, aBin, aAppend, aConv]
    refine hJ _ _ ⟨k - 1, by omega, _, _, _, ⟨i + 1, by omega, by rw [hst]; simp [wrongB, gp, h1, h2], rfl, rfl⟩, Abs.by hbel [0] (by decide) ?_⟩
    exact absT
  have hnn : ¬ ((i : Int) < (n : Int)) := by omega
  rw [List.take_of_length_le (by omega)] at ht
  simp -implicitDefEqProofs (disch := omega) only [hnn, simprocAttr, amset, tyset, Function.comp_apply, one1, lenV, calleeOf, lateOk, belowV, aop, AV.ofValue, AV.ofCell, AV.cells, AV.flat, AV.one, arep, aBin, aAppend, aConv]
  refine call_v (by kernel_rfl) (rwithin_c _ _ _ (by decide)) ?_
  cases h1 : within x 8388608
  · simp -implicitDefEqProofs (disch := omega) only [simprocAttr, amset, tyset, Function.comp_apply, one1, lenV, calleeOf, lateOk, belowV, aop, AV.ofValue, AV.ofCell, AV.cells, AV.flat, AV.one, arep, aBin, aAppend, aConv]
    exact hQ _ _ (end_plain (.inl rfl) hbel (x := .bool false) (resT Try.results29) rfl ⟨by simp [validB, h1], rfl⟩)
  simp -implicitDefEqProofs (disch := omega) only [simprocAttr, amset, tyset, Function.comp_apply, one1, lenV, calleeOf, lateOk, belowV, aop, AV.ofValue, AV.ofCell, AV.cells, AV.flat, AV.one, arep, aBin, aAppend, aConv]
  refine call_v (by kernel_rfl) (rwithin_c _ _ _ (by decide)) ?_
  cases h2 : within y 8388608
  · simp -implicitDefEqProofs (disch := omega) only [simprocAttr, amset, tyset, Function.comp_apply, one1, lenV, calleeOf, lateOk, belowV, aop, AV.ofValue, AV.ofCell, AV.cells, AV.flat, AV.one, arep, aBin, aAppend, aConv]
    exact hQ _ _ (end_plain (.inl rfl) hbel (x := .bool false) (resT Try.results29) rfl ⟨by simp [validB, h1, h2], rfl⟩)
  simp -implicitDefEqProofs (disch := omega) only [simprocAttr, amset, tyset, Function.comp_apply, one1, lenV, calleeOf, lateOk, belowV, aop, AV.ofValue, AV.ofCell, AV.cells, AV.flat, AV.one, arep, aBin, aAppend, aConv]
  exact hQ _ _ (end_plain (.inl rfl) hbel (x := .bool (decide ((n : Int) ≤ 16))) (resT Try.results29) rfl ⟨by rw [validB, h1, h2, ht, hn]; simp; omega, rfl⟩)
end
set_option linter.unusedSimpArgs false
set_option linter.unusedVariables false
open Go.RowKit
set_option maxHeartbeats 4000000
set_option maxRecDepth 100000
theorem sortnil_c (H : AHeap) : ACalls Try.prog 43 [.sl none 0 (some 0), .fn 44 []] H (fun v H' => v = .tup [] ∧ H' = H) :=
  ACalls.closed (ran try_mixed ext_ok tb tb_ok 300 30 (x := .tup []) (o := none) (by kernel_rfl)) rfl rfl H
theorem dirs_step {l : List Pt} {i : Nat} (h : i < l.length) : dirs (l.take (i + 1)) = dirs (l.take i) ++ if nrm (gp l i) = (0, 0) then [] else [nrm (gp l i)] := by
  rw [List.take_succ_eq_append_getElem h, ← gp_eq h]
  unfold dirs
  rw [List.map_append, List.filter_append]
  congr 1
  by_cases h0 : nrm (gp l i) = (0, 0)
  · simp [h0]
  simp [h0]
theorem nrm_bd {M : Int} {g : Pt} (h : Bd M g) : Bd M (nrm g) := by
  unfold Bd at *
  unfold nrm
  split
  · simp only; omega
  exact h
theorem dirs_bd {M : Int} {l : List Pt} (h : ∀ e ∈ l, Bd M e) : ∀ e ∈ dirs l, Bd M e := fun e he => by
  unfold dirs at he
  simp only [List.mem_filter, List.mem_map, decide_eq_true_eq] at he
  obtain ⟨⟨g, hg, rfl⟩, -⟩ := he
  exact nrm_bd (h g hg)
theorem dirs_len (l : List Pt) : (dirs l).length ≤ l.length := by
  unfold dirs
  exact Nat.le_trans (List.length_filter_le _ _) (by simp)
theorem mst_len (L : List Pt) (g : Pt) : (mst L g).length ≤ L.length + 1 := by
  rcases List.eq_nil_or_concat L with rfl | ⟨o, k, rfl⟩
  · simp [mst_nil]
  rw [List.concat_eq_append, mst_snoc]; split <;> simp
theorem mergeL_snoc (S : List Pt) (g : Pt) : mergeL (S ++ [g]) = mst (mergeL S) g := by unfold mergeL; rw [List.foldl_append]; rfl
theorem snoc_ind {P : List Pt → Prop} (h0 : P []) (h1 : ∀ S g, P S → P (S ++ [g])) (S : List Pt) : P S := by
  have : ∀ n (S : List Pt), S.length = n → P S := fun n => by
    induction n with
    | zero => intro S h; rw [List.eq_nil_of_length_eq_zero h]; exact h0
    | succ n ih =>
      intro S h
      rcases List.eq_nil_or_concat S with rfl | ⟨o, k, rfl⟩
      · simp at h
      rw [List.concat_eq_append] at *
      exact h1 o k (ih o (by simpa using h))
  exact this _ S rfl
theorem mergeL_len (S : List Pt) : (mergeL S).length ≤ S.length := by
  refine snoc_ind (P := fun S => (mergeL S).length ≤ S.length) (by simp [mergeL]) (fun S g h => ?_) S
  rw [mergeL_snoc]
  have := mst_len (mergeL S) g
  simp; omega
theorem mergeL_bd {M : Int} (hM : 0 ≤ M) {S : List Pt} (h : ∀ e ∈ S, Bd M e) : ∀ e ∈ mergeL S, Bd (S.length * M) e := by
  revert h
  refine snoc_ind (P := fun S => (∀ e ∈ S, Bd M e) → ∀ e ∈ mergeL S, Bd (S.length * M) e) (fun _ => by simp [mergeL]) (fun S g ih h => ?_) S
  have ih := ih fun e he => h e (by simp [he])
  have hg := h g (by simp)
  have e1 : ((S ++ [g]).length : Int) * M = S.length * M + M := by
    rw [List.length_append, Int.natCast_add, Int.add_mul]; simp
  have e2 : 0 ≤ (S.length : Int) * M := Int.mul_nonneg (by omega) hM
  rw [mergeL_snoc, e1]
  generalize (S.length : Int) * M = z at *
  have up : ∀ e, Bd z e → Bd (z + M) e := fun e he => by unfold Bd at *; omega
  have up2 : Bd (z + M) g := by unfold Bd at *; omega
  rcases List.eq_nil_or_concat (mergeL S) with h0 | ⟨o, k, h0⟩
  · rw [h0, mst_nil]
    intro e he
    simp at he; subst he; exact up2
  rw [List.concat_eq_append] at h0
  rw [h0] at ih ⊢
  rw [mst_snoc]
  have hk := ih k (by simp)
  split
  · intro e he
    rcases List.mem_append.1 he with he | he
    · exact up e (ih e (by simp [he]))
    simp at he; subst he
    unfold Bd padd at *; simp only; omega
  intro e he
  rcases List.mem_append.1 he with he | he
  · exact up e (ih e he)
  simp at he; subst he; exact up2
theorem mst_pos {L : List Pt} {g : Pt} {p : Nat} (h : L.length = p + 1) : mst L g = if crs (gp L p) g = 0 then L.set p (padd (gp L p) g) else L ++ [g] := by
  rcases List.eq_nil_or_concat L with rfl | ⟨o, k, rfl⟩
  · simp at h
  rw [List.concat_eq_append] at *
  have hp : p = o.length := by simp at h; omega
  have e : gp (o ++ [k]) p = k := by rw [gp_eq (by omega)]; simp [hp]
  rw [mst_snoc, e]
  split
  · rw [List.set_append_right _ _ (by omega), hp, Nat.sub_self]; rfl
  rfl
theorem canonical_c (H : AHeap) (x y : Int) (b : Nat) (own : Bool) (cap : Option Nat) (l : List Pt) (hb : H[b]? = some (.cells own 2 (prs l))) (hl : l.length ≤ 40) (hB : ∀ e ∈ l, Bd 4194304 e) :
    ACalls Try.prog 22 [.agg [.int .i64 x, .int .i64 y, .sl (some (b, 0)) l.length cap]] H (fun v H' => v = .agg [.int .i64 x, .int .i64 y, (retP H (canonL l)).1] ∧ H' = (retP H (canonL l)).2) := by
  have hbl := getElem?_lt hb
  have hb0 := fun l => get_app (l := l) hb
  generalize hn : l.length = n at *
  (refine ACalls_run try_mixed Try.func22 true _ rfl (Nat.le_of_ble_eq_true (by kernel_rfl)) (by kernel_rfl) ?_; intro hbel Q hQ hQ' c hc; unfold Try.f22 at hc; simp only [Option.some.injEq] at hc; subst hc; clear hQ')
  simp -implicitDefEqProofs (disch := omega) only [simprocAttr, amset, tyset, Function.comp_apply, one1, lenV, calleeOf, lateOk, belowV, aop, AV.ofValue, AV.ofCell, AV.cells, AV.flat, AV.one, arep, aBin, aAppend, aConv]
  refine go_loop try_mixed (by kernel_rfl) (fun k F Hx => ∃ (i : Nat) (s : AV) (X : ABlk), i + k = n ∧ OutP (H.length + 2) s X (dirs (l.take i)) ∧
    F = [(1, .ptr (some (H.length, 0))), (2, .ptr (some (H.length + 1, 0))), (3, s), (11, .sl (some (b, 0)) n none), (12, .int .i64 n), (13, .int .i64 (i : Nat))] ∧
    Hx = H ++ [.cells true 0 [.int .i64 x, .int .i64 y, .sl (some (b, 0)) n cap], .cells true 0 [.int .i64 0, .int .i64 0, .sl none 0 (some 0)], X]) n ?_ ?_
  · refine ⟨_, _, _, ⟨0, _, _, by omega, .inl ⟨rfl, rfl, rfl⟩, rfl, rfl⟩, Abs.by hbel [0, 1, 2] (by decide) ?_⟩
    exact absT
  rintro k F Hx ⟨i, s, X, hik, hO, rfl, rfl⟩ J hJ
  by_cases hi : i < l.length
  · have hii : (i : Int) < (n : Int) := by omega
    have q0 := prs_load hi
    have hg : gp l i = l[i] := gp_eq hi
    have hgb := hB l[i] (List.getElem_mem hi)
    rw [← hg] at hgb
    have hds := dirs_step hi
    simp -implicitDefEqProofs (disch := omega) only [hii, hb0, q0, simprocAttr, amset, tyset, Function.comp_apply, one1, lenV, calleeOf, lateOk, belowV, aop, AV.ofValue, AV.ofCell, AV.cells, AV.flat, AV.one, arep, aBin, aAppend, aConv]
    repeat refine And.intro (by omega) ?_
    have hbd : -4194304 ≤ g1 l i ∧ g1 l i ≤ 4194304 ∧ -4194304 ≤ g2 l i ∧ g2 l i ≤ 4194304 := hgb
    have hdl := dirs_len (l.take i)
    rw [List.length_take] at hdl
    have fin0 : nrm (gp l i) = (0, 0) → ∀ (F : Fr) (l1 : AHeap), (absF (H.length + l1.length) (sig H.length l1.length [0, 1, 2]) F [(1, .ptr (some (H.length, 0))), (2, .ptr (some (H.length + 1, 0))), (3, s), (11, .sl (some (b, 0)) n none), (12, .int .i64 n), (13, .int .i64 ((i + 1 : Nat) : Int))] ∧ absH (H.length + l1.length) (sig H.length l1.length [0, 1, 2]) l1 [0, 1, 2] [.cells true 0 [.int .i64 x, .int .i64 y, .sl (some (b, 0)) n cap], .cells true 0 [.int .i64 0, .int .i64 0, .sl none 0 (some 0)], X]) → J F (H ++ l1) := fun hf F l1 ha =>
      hJ _ _ ⟨k - 1, by omega, _, _, _, ⟨i + 1, _, _, by omega, by rw [hds, if_pos hf, List.append_nil]; exact hO, rfl, rfl⟩, Abs.by hbel [0, 1, 2] (by decide) ha⟩
    have fin1 : ∀ u v : Int, nrm (gp l i) = (u, v) → (u, v) ≠ ((0 : Int), (0 : Int)) → ∀ (F : Fr) (l1 : AHeap), (absF (H.length + l1.length) (sig H.length l1.length [0, 1, 5]) F [(1, .ptr (some (H.length, 0))), (2, .ptr (some (H.length + 1, 0))), (3, .sl (some (H.length + 2, 0)) ((dirs (l.take i)).length + 1) none), (11, .sl (some (b, 0)) n none), (12, .int .i64 n), (13, .int .i64 ((i + 1 : Nat) : Int))] ∧ absH (H.length + l1.length) (sig H.length l1.length [0, 1, 5]) l1 [0, 1, 5] [.cells true 0 [.int .i64 x, .int .i64 y, .sl (some (b, 0)) n cap], .cells true 0 [.int .i64 0, .int .i64 0, .sl none 0 (some 0)], .cells true 2 (prs (dirs (l.take i) ++ [(u, v)]))]) → J F (H ++ l1) := fun u v hf hne F l1 ha =>
      hJ _ _ ⟨k - 1, by omega, _, _, _, ⟨i + 1, _, _, by omega, by rw [hds, if_neg (by rw [hf]; exact hne), hf]; exact .inr ⟨by simp, by simp, rfl⟩, rfl, rfl⟩, Abs.by hbel [0, 1, 5] (by decide) ha⟩
    generalize dirs (l.take i) = L at *
    have hLt : List.take (L.length * 2) (prs L) = prs L := List.take_of_length_le (by rw [prs_len]; omega)
    by_cases h1 : g2 l i < 0
    · have hz : (0 - g2 l i == 0) = false := beq_eq_false_iff_ne.2 (by omega)
      have hf : nrm (gp l i) = (0 - g1 l i, 0 - g2 l i) := by unfold nrm; rw [if_pos (by simp only [gp]; omega)]; simp only [gp, Int.zero_sub]
      have hne : ((0 - g1 l i, 0 - g2 l i) : Int × Int) ≠ (0, 0) := by intro h; simp only [Prod.mk.injEq] at h; omega
      rcases hO with ⟨rfl, rfl, rfl⟩ | ⟨hL0, rfl, rfl⟩
      · simp -implicitDefEqProofs (disch := omega) only [h1, hz, Bool.and_false, simprocAttr, amset, tyset, Function.comp_apply, one1, lenV, calleeOf, lateOk, belowV, aop, AV.ofValue, AV.ofCell, AV.cells, AV.flat, AV.one, arep, aBin, aAppend, aConv]
        repeat refine And.intro (by omega) ?_
        refine fin1 _ _ hf hne _ _ ?_
        exact absT
      simp -implicitDefEqProofs (disch := omega) only [prs_snoc, hLt, h1, hz, Bool.and_false, simprocAttr, amset, tyset, Function.comp_apply, one1, lenV, calleeOf, lateOk, belowV, aop, AV.ofValue, AV.ofCell, AV.cells, AV.flat, AV.one, arep, aBin, aAppend, aConv]
      repeat refine And.intro (by omega) ?_
      refine fin1 _ _ hf hne _ _ ?_
      exact absT
    cases h2 : (g2 l i == 0)
    · have h2' := beq_eq_false_iff_ne.1 h2
      have hf : nrm (gp l i) = (g1 l i, g2 l i) := by unfold nrm; rw [if_neg (by simp only [gp]; omega)]; rfl
      have hne : ((g1 l i, g2 l i) : Int × Int) ≠ (0, 0) := by intro h; simp only [Prod.mk.injEq] at h; omega
      rcases hO with ⟨rfl, rfl, rfl⟩ | ⟨hL0, rfl, rfl⟩
      · simp -implicitDefEqProofs (disch := omega) only [h1, h2, Bool.and_false, simprocAttr, amset, tyset, Function.comp_apply, one1, lenV, calleeOf, lateOk, belowV, aop, AV.ofValue, AV.ofCell, AV.cells, AV.flat, AV.one, arep, aBin, aAppend, aConv]
        repeat refine And.intro (by omega) ?_
        refine fin1 _ _ hf hne _ _ ?_
        exact absT
      simp -implicitDefEqProofs (disch := omega) only [prs_snoc, hLt, h1, h2, Bool.and_false, simprocAttr, amset, tyset, Function.comp_apply, one1, lenV, calleeOf, lateOk, belowV, aop, AV.ofValue, AV.ofCell, AV.cells, AV.flat, AV.one, arep, aBin, aAppend, aConv]
      repeat refine And.intro (by omega) ?_
      refine fin1 _ _ hf hne _ _ ?_
      exact absT
    have h2' := beq_iff_eq.1 h2
    by_cases h3 : g1 l i < 0
    · have hz : (0 - g1 l i == 0) = false := beq_eq_false_iff_ne.2 (by omega)
      have hf : nrm (gp l i) = (0 - g1 l i, 0 - g2 l i) := by unfold nrm; rw [if_pos (by simp only [gp]; omega)]; simp only [gp, Int.zero_sub]
      have hne : ((0 - g1 l i, 0 - g2 l i) : Int × Int) ≠ (0, 0) := by intro h; simp only [Prod.mk.injEq] at h; omega
      rcases hO with ⟨rfl, rfl, rfl⟩ | ⟨hL0, rfl, rfl⟩
      · simp -implicitDefEqProofs (disch := omega) only [h1, h2, h3, hz, Bool.false_and, simprocAttr, amset, tyset, Function.comp_apply, one1, lenV, calleeOf, lateOk, belowV, aop, AV.ofValue, AV.ofCell, AV.cells, AV.flat, AV.one, arep, aBin, aAppend, aConv]
        repeat refine And.intro (by omega) ?_
        refine fin1 _ _ hf hne _ _ ?_
        exact absT
      simp -implicitDefEqProofs (disch := omega) only [prs_snoc, hLt, h1, h2, h3, hz, Bool.false_and, simprocAttr, amset, tyset, Function.comp_apply, one1, lenV, calleeOf, lateOk, belowV, aop, AV.ofValue, AV.ofCell, AV.cells, AV.flat, AV.one, arep, aBin, aAppend, aConv]
      repeat refine And.intro (by omega) ?_
      refine fin1 _ _ hf hne _ _ ?_
      exact absT
    cases h4 : (g1 l i == 0)
    · have h4' := beq_eq_false_iff_ne.1 h4
      have hf : nrm (gp l i) = (g1 l i, g2 l i) := by unfold nrm; rw [if_neg (by simp only [gp]; omega)]; rfl
      have hne : ((g1 l i, g2 l i) : Int × Int) ≠ (0, 0) := by intro h; simp only [Prod.mk.injEq] at h; omega
      rcases hO with ⟨rfl, rfl, rfl⟩ | ⟨hL0, rfl, rfl⟩
      · simp -implicitDefEqProofs (disch := omega) only [h1, h2, h3, h4, Bool.false_and, simprocAttr, amset, tyset, Function.comp_apply, one1, lenV, calleeOf, lateOk, belowV, aop, AV.ofValue, AV.ofCell, AV.cells, AV.flat, AV.one, arep, aBin, aAppend, aConv]
        repeat refine And.intro (by omega) ?_
        refine fin1 _ _ hf hne _ _ ?_
        exact absT
      simp -implicitDefEqProofs (disch := omega) only [prs_snoc, hLt, h1, h2, h3, h4, Bool.false_and, simprocAttr, amset, tyset, Function.comp_apply, one1, lenV, calleeOf, lateOk, belowV, aop, AV.ofValue, AV.ofCell, AV.cells, AV.flat, AV.one, arep, aBin, aAppend, aConv]
      repeat refine And.intro (by omega) ?_
      refine fin1 _ _ hf hne _ _ ?_
      exact absT
    have h4' := beq_iff_eq.1 h4
    simp -implicitDefEqProofs (disch := omega) only [h1, h2, h3, h4, simprocAttr, amset, tyset, Function.comp_apply, one1, lenV, calleeOf, lateOk, belowV, aop, AV.ofValue, AV.ofCell, AV.cells, AV.flat, AV.one, arep, aBin, aAppend, aConv]
    refine fin0 (by unfold nrm; rw [if_neg (by simp only [gp]; omega)]; exact Prod.ext h4' h2') _ _ ?_
    rcases hO with ⟨-, rfl, rfl⟩ | ⟨-, rfl, rfl⟩
    · exact absT
    exact absT
  have hnn : ¬ ((i : Int) < (n : Int)) := by omega
  rw [List.take_of_length_le (by omega)] at hO
  have hdb := dirs_bd hB
  have hdu := dirs_up (l := l)
  have hdl := dirs_len l
  have hme := fun S => merge_eq (l := l) (S := S)
  generalize dirs l = L at *
  rcases hO with ⟨rfl, rfl, rfl⟩ | ⟨hL0, rfl, rfl⟩
  · have hc0 : canonL l = [] := (hme [] (.refl _) .nil).symm
    rw [hc0, retP_nil] at hQ
    simp -implicitDefEqProofs (disch := omega) only [hnn, simprocAttr, amset, tyset, Function.comp_apply, one1, lenV, calleeOf, lateOk, belowV, aop, AV.ofValue, AV.ofCell, AV.cells, AV.flat, AV.one, arep, aBin, aAppend, aConv]
    refine call_v (by kernel_rfl) (sortnil_c _) ?_
    simp -implicitDefEqProofs (disch := omega) only [simprocAttr, amset, tyset, Function.comp_apply, one1, lenV, calleeOf, lateOk, belowV, aop, AV.ofValue, AV.ofCell, AV.cells, AV.flat, AV.one, arep, aBin, aAppend, aConv]
    refine go_loop try_mixed (by kernel_rfl) (fun k F Hx => F = [(2, .ptr (some (H.length, 0))), (6, .ptr (some (H.length + 1, 0))), (53, .int .i64 0), (54, .int .i64 0)] ∧ Hx = H ++ [.cells true 0 [.int .i64 0, .int .i64 0, .sl none 0 (some 0)], .cells true 0 [.int .i64 x, .int .i64 y, .sl none 0 (some 0)]]) 1 ?_ ?_
    · refine ⟨_, _, _, ⟨rfl, rfl⟩, Abs.by hbel [1, 3] (by decide) ?_⟩
      exact absT
    rintro k F Hx ⟨rfl, rfl⟩ J hJ
    simp -implicitDefEqProofs (disch := omega) only [Int.lt_irrefl, simprocAttr, amset, tyset, Function.comp_apply, one1, lenV, calleeOf, lateOk, belowV, aop, AV.ofValue, AV.ofCell, AV.cells, AV.flat, AV.one, arep, aBin, aAppend, aConv]
    exact hQ _ _ (end_plain (.inl rfl) hbel (x := .agg [.int .i64 x, .int .i64 y, .sl none 0 (some 0)]) (resT Try.results22) rfl ⟨rfl, rfl⟩)
  simp -implicitDefEqProofs (disch := omega) only [hnn, simprocAttr, amset, tyset, Function.comp_apply, one1, lenV, calleeOf, lateOk, belowV, aop, AV.ofValue, AV.ofCell, AV.cells, AV.flat, AV.one, arep, aBin, aAppend, aConv]
  refine call_of (by kernel_rfl) (sortz_a (l := L) (by rw [get_newk]; rfl) (fun e he => ⟨hdu e he, ?_⟩) rfl hL0 (by omega)) ?_
  · have := hdb e he
    unfold Bd at *
    omega
  rintro x1 H1 ⟨rfl, S, hp, hs, rfl⟩
  have hcan := hme S hp hs
  have hSl : L.length = S.length := hp.length_eq.symm
  have hSb : ∀ e ∈ S, Bd 4194304 e := fun e he => hdb e (hp.mem_iff.1 he)
  clear hme
  have hm40 : S.length ≤ 40 := by omega
  rw [hSl]
  generalize hm : S.length = m at *
  simp -implicitDefEqProofs (disch := omega) only [simprocAttr, amset, tyset, Function.comp_apply, one1, lenV, calleeOf, lateOk, belowV, aop, AV.ofValue, AV.ofCell, AV.cells, AV.flat, AV.one, arep, aBin, aAppend, aConv]
  refine go_loop try_mixed (by kernel_rfl) (fun k F Hx => ∃ (j : Nat) (s : AV) (X : ABlk), j + k = m ∧ OutP (H.length + 3) s X (mergeL (S.take j)) ∧
    F = [(2, .ptr (some (H.length, 0))), (6, .ptr (some (H.length + 2, 0))), (52, .sl (some (H.length + 1, 0)) m none), (53, .int .i64 m), (54, .int .i64 (j : Nat))] ∧
    Hx = H ++ [.cells true 0 [.int .i64 0, .int .i64 0, .sl none 0 (some 0)], .cells true 2 (prs S), .cells true 0 [.int .i64 x, .int .i64 y, s], X]) m ?_ ?_
  · refine ⟨_, _, _, ⟨0, _, _, by omega, .inl ⟨rfl, rfl, rfl⟩, rfl, rfl⟩, Abs.by hbel [1, 2, 3, 4] (by decide) ?_⟩
    exact absT
  rintro k F Hx ⟨j, s, X, hjk, hO, rfl, rfl⟩ J hJ
  by_cases hj : j < S.length
  · have hjj : (j : Int) < (m : Int) := by omega
    have q0 := prs_load hj
    have hg : gp S j = S[j] := gp_eq hj
    have hgb := hSb S[j] (List.getElem_mem hj)
    rw [← hg] at hgb
    have hbd : -4194304 ≤ g1 S j ∧ g1 S j ≤ 4194304 ∧ -4194304 ≤ g2 S j ∧ g2 S j ≤ 4194304 := hgb
    have hst : mergeL (S.take (j + 1)) = mst (mergeL (S.take j)) (gp S j) := by rw [List.take_succ_eq_append_getElem hj, mergeL, List.foldl_append, hg]; rfl
    have hmb := mergeL_bd (M := 4194304) (by decide) (S := S.take j) (fun e he => hSb e (List.mem_of_mem_take he))
    have hml := mergeL_len (S.take j)
    rw [List.length_take] at hmb hml
    generalize mergeL (S.take j) = L at *
    have hLt : List.take (L.length * 2) (prs L) = prs L := List.take_of_length_le (by rw [prs_len]; omega)
    rcases hO with ⟨rfl, rfl, rfl⟩ | ⟨hL1, rfl, rfl⟩
    · have hneg : ¬ (0 : Int) ≤ 0 - 1 := by omega
      simp -implicitDefEqProofs (disch := omega) only [hjj, q0, hneg, simprocAttr, amset, tyset, Function.comp_apply, one1, lenV, calleeOf, lateOk, belowV, aop, AV.ofValue, AV.ofCell, AV.cells, AV.flat, AV.one, arep, aBin, aAppend, aConv]
      repeat refine And.intro (by omega) ?_
      refine hJ _ _ ⟨k - 1, by omega, _, [(2, .ptr (some (H.length, 0))), (6, .ptr (some (H.length + 2, 0))), (52, .sl (some (H.length + 1, 0)) m none), (53, .int .i64 m), (54, .int .i64 ((j + 1 : Nat) : Int))], H ++ [.cells true 0 [.int .i64 0, .int .i64 0, .sl none 0 (some 0)], .cells true 2 (prs S), .cells true 0 [.int .i64 x, .int .i64 y, .sl (some (H.length + 3, 0)) (0 + 1) none], .cells true 2 (prs [gp S j])], ⟨j + 1, .sl (some (H.length + 3, 0)) (0 + 1) none, .cells true 2 (prs [gp S j]), by omega, by rw [hst, mst_nil]; exact .inr ⟨by simp, rfl, rfl⟩, rfl, rfl⟩, Abs.by hbel [0, 1, 2, 6] (by decide) ?_⟩
      exact absT
    obtain ⟨p, hp1⟩ : ∃ p, L.length = p + 1 := ⟨L.length - 1, by omega⟩
    have hpi : (L.length : Int) - 1 = (p : Int) := by omega
    have hpl : p < L.length := by omega
    have hp0 : (0 : Int) ≤ (p : Int) := by omega
    have hgk : gp L p = L[p] := gp_eq hpl
    have hkb := hmb L[p] (List.getElem_mem hpl)
    rw [← hgk] at hkb
    have hkb2 : Bd 268435456 (gp L p) := by
      have : ((S.take j).length : Int) * 4194304 ≤ 40 * 4194304 := Int.mul_le_mul_of_nonneg_right (by rw [List.length_take]; omega) (by decide)
      unfold Bd at *
      omega
    have hkbd : -268435456 ≤ g1 L p ∧ g1 L p ≤ 268435456 ∧ -268435456 ≤ g2 L p ∧ g2 L p ≤ 268435456 := hkb2
    have hgb2 : Bd 268435456 (gp S j) := by unfold Bd at *; omega
    have q1 := prs_load hpl
    have hms := mst_pos (g := gp S j) hp1
    simp -implicitDefEqProofs (disch := omega) only [hjj, q0, hpi, q1, hp0, simprocAttr, amset, tyset, Function.comp_apply, one1, lenV, calleeOf, lateOk, belowV, aop, AV.ofValue, AV.ofCell, AV.cells, AV.flat, AV.one, arep, aBin, aAppend, aConv]
    repeat refine And.intro (by omega) ?_
    refine call_d (by kernel_rfl) (cross_c _ (gp L p) (gp S j) hkb2 hgb2) ?_
    cases hc : (crs (gp L p) (gp S j) == 0)
    · rw [if_neg (beq_eq_false_iff_ne.1 hc)] at hms
      simp -implicitDefEqProofs (disch := omega) only [hc, prs_snoc, hLt, q1, q0, simprocAttr, amset, tyset, Function.comp_apply, one1, lenV, calleeOf, lateOk, belowV, aop, AV.ofValue, AV.ofCell, AV.cells, AV.flat, AV.one, arep, aBin, aAppend, aConv]
      repeat refine And.intro (by omega) ?_
      refine hJ _ _ ⟨k - 1, by omega, _, [(2, .ptr (some (H.length, 0))), (6, .ptr (some (H.length + 2, 0))), (52, .sl (some (H.length + 1, 0)) m none), (53, .int .i64 m), (54, .int .i64 ((j + 1 : Nat) : Int))], H ++ [.cells true 0 [.int .i64 0, .int .i64 0, .sl none 0 (some 0)], .cells true 2 (prs S), .cells true 0 [.int .i64 x, .int .i64 y, .sl (some (H.length + 3, 0)) (L.length + 1) none], .cells true 2 (prs (L ++ [gp S j]))], ⟨j + 1, .sl (some (H.length + 3, 0)) (L.length + 1) none, .cells true 2 (prs (L ++ [gp S j])), by omega, by rw [hst, hms]; exact .inr ⟨by simp, by simp, rfl⟩, rfl, rfl⟩, Abs.by hbel [0, 1, 2, 6] (by decide) ?_⟩
      exact absT
    rw [if_pos (beq_iff_eq.1 hc)] at hms
    have q2 := prs_at0 hpl
    have q3 := prs_at1 hpl
    have q4 := prs_set0 (v := g1 L p + g1 S j) hpl
    have q5 := prs_at1 (l := L.set p (g1 L p + g1 S j, g2 L p)) (j := p) (by simpa using hpl)
    have q6 := prs_set1 (l := L.set p (g1 L p + g1 S j, g2 L p)) (j := p) (v := g2 L p + g2 S j) (by simpa using hpl)
    have q7 : g2 (L.set p (g1 L p + g1 S j, g2 L p)) p = g2 L p := by simp [g2, List.getD_eq_getElem?_getD, hpl]
    have q8 : g1 (L.set p (g1 L p + g1 S j, g2 L p)) p = g1 L p + g1 S j := by simp [g1, List.getD_eq_getElem?_getD, hpl]
    rw [List.set_set, q8] at q6
    rw [q7] at q5
    simp -implicitDefEqProofs (disch := omega) only [hc, q0, q1, q2, q3, q4, q5, q6, simprocAttr, amset, tyset, Function.comp_apply, one1, lenV, calleeOf, lateOk, belowV, aop, AV.ofValue, AV.ofCell, AV.cells, AV.flat, AV.one, arep, aBin, aAppend, aConv]
    repeat refine And.intro (by omega) ?_
    refine hJ _ _ ⟨k - 1, by omega, _, [(2, .ptr (some (H.length, 0))), (6, .ptr (some (H.length + 2, 0))), (52, .sl (some (H.length + 1, 0)) m none), (53, .int .i64 m), (54, .int .i64 ((j + 1 : Nat) : Int))], H ++ [.cells true 0 [.int .i64 0, .int .i64 0, .sl none 0 (some 0)], .cells true 2 (prs S), .cells true 0 [.int .i64 x, .int .i64 y, .sl (some (H.length + 3, 0)) L.length none], .cells true 2 (prs (L.set p (padd (gp L p) (gp S j))))], ⟨j + 1, .sl (some (H.length + 3, 0)) L.length none, .cells true 2 (prs (L.set p (padd (gp L p) (gp S j)))), by omega, by rw [hst, hms]; exact .inr ⟨by simpa using hL1, by simp, rfl⟩, rfl, rfl⟩, Abs.by hbel [0, 1, 2, 3] (by decide) ?_⟩
    exact absT
  have hnn : ¬ ((j : Int) < (m : Int)) := by omega
  rw [List.take_of_length_le (by omega), hcan] at hO
  rcases hO with ⟨h, rfl, rfl⟩ | ⟨h, rfl, rfl⟩
  · rw [h, retP_nil] at hQ
    simp -implicitDefEqProofs (disch := omega) only [hnn, simprocAttr, amset, tyset, Function.comp_apply, one1, lenV, calleeOf, lateOk, belowV, aop, AV.ofValue, AV.ofCell, AV.cells, AV.flat, AV.one, arep, aBin, aAppend, aConv]
    exact hQ _ _ (end_plain (.inl rfl) hbel (x := .agg [.int .i64 x, .int .i64 y, .sl none 0 (some 0)]) (resT Try.results22) rfl ⟨rfl, rfl⟩)
  rw [retP_pos h] at hQ
  simp -implicitDefEqProofs (disch := omega) only [hnn, simprocAttr, amset, tyset, Function.comp_apply, one1, lenV, calleeOf, lateOk, belowV, aop, AV.ofValue, AV.ofCell, AV.cells, AV.flat, AV.one, arep, aBin, aAppend, aConv]
  refine hQ _ _ (end_by (.inl rfl) hbel (x1 := .agg [.int .i64 x, .int .i64 y, .sl (some (H.length + 3, 0)) (canonL l).length none]) (.agg [.int .i64 x, .int .i64 y, .sl (some (H.length, 0)) (canonL l).length none]) (resT Try.results22) [3] (by decide) ⟨rfl, rfl⟩ ?_)
  exact absT
open Go.RowKit
def putV (H : AHeap) (s : AV) (C : List Pt) (g : Pt) : AV × AHeap := if nrm g = (0, 0) then (s, H) else retP H (putC C (nrm g))
theorem pst_step {C : List Pt} {g : Pt} {i : Nat} (h : i < C.length) : (C.take (i + 1)).foldl (pst g) ([], false) = pst g ((C.take i).foldl (pst g) ([], false)) (gp C i) := by
  rw [List.take_succ_eq_append_getElem h, List.foldl_append, ← gp_eq h]; rfl
theorem pst_len {C : List Pt} {g : Pt} : ∀ i, ((C.take i).foldl (pst g) ([], false)).1.length ≤ 2 * i := fun i => by
  induction i with
  | zero => simp
  | succ i ih =>
    by_cases h : i < C.length
    · rw [pst_step h]
      generalize (C.take i).foldl (pst g) ([], false) = st at *
      unfold pst
      split
      · rw [List.length_append]; simp only [List.length_cons, List.length_nil]; omega
      split
      · rw [List.length_append]; simp only [List.length_cons, List.length_nil]; omega
      rw [List.length_append]; simp only [List.length_cons, List.length_nil]; omega
    rw [List.take_of_length_le (by omega)] at ih ⊢
    omega
set_option maxRecDepth 100000 in
/-- One more generator, none so far. -/
theorem put0_c (H : AHeap) (gx gy : Int) (hgb : -4194304 ≤ gx ∧ gx ≤ 4194304 ∧ -4194304 ≤ gy ∧ gy ≤ 4194304) :
    ACalls Try.prog 48 [.sl none 0 (some 0), .agg [.int .i64 gx, .int .i64 gy]] H (fun v H' => v = (putV H (.sl none 0 (some 0)) [] (gx, gy)).1 ∧ H' = (putV H (.sl none 0 (some 0)) [] (gx, gy)).2) := by
  unfold putV
  obtain ⟨u, w, hf⟩ : ∃ u w, nrm (gx, gy) = (u, w) := ⟨_, _, rfl⟩
  have hub : -4194304 ≤ u ∧ u ≤ 4194304 ∧ -4194304 ≤ w ∧ w ≤ 4194304 := by
    have := nrm_bd (M := 4194304) (g := (gx, gy)) hgb
    rw [hf] at this
    exact this
  rw [hf]
  (refine ACalls_pieces Try.func48 _ rfl (Nat.le_of_ble_eq_true (by kernel_rfl)) rfl ?_; intro hbel Q hQ hQ' c hc; unfold Try.f48 at hc; simp only [Option.some.injEq] at hc; subst hc; clear hQ')
  refine AW_stepA true try_mixed (by kernel_rfl) (fun F2 H2 => F2 = [(0, .sl none 0 (some 0)), (3, .ptr (some (H.length, 0)))] ∧ H2 = H ++ [.cells true 0 [.int .i64 gx, .int .i64 gy]]) ?_ ?_
  · intro J hJ
    simp -implicitDefEqProofs (disch := omega) only [simprocAttr, amset, tyset, Function.comp_apply, one1, lenV, calleeOf, lateOk, belowV, aop, AV.ofValue, AV.ofCell, AV.cells, AV.flat, AV.one, arep, aBin, aAppend, aConv]
    refine hJ _ _ ⟨_, _, _, ⟨rfl, rfl⟩, Abs.by hbel [0] (by decide) ?_⟩
    exact absT
  rintro F2 H2 ⟨rfl, rfl⟩
  refine AW_stepA true try_mixed (by kernel_rfl) (fun F2 H2 => F2 = [(0, .sl none 0 (some 0)), (3, .ptr (some (H.length, 0)))] ∧ H2 = H ++ [.cells true 0 [.int .i64 u, .int .i64 w]]) ?_ ?_
  · intro J hJ
    have neg : (gy < 0 ∨ (gy = 0 ∧ gx < 0)) → u = 0 - gx ∧ w = 0 - gy := fun h => by
      unfold nrm at hf; rw [if_pos h] at hf; simp only [Prod.mk.injEq] at hf; omega
    have pos : ¬ (gy < 0 ∨ (gy = 0 ∧ gx < 0)) → u = gx ∧ w = gy := fun h => by
      unfold nrm at hf; rw [if_neg h] at hf; simp only [Prod.mk.injEq] at hf; omega
    by_cases h1 : gy < 0
    · obtain ⟨rfl, rfl⟩ := neg (.inl h1)
      simp -implicitDefEqProofs (disch := omega) only [h1, simprocAttr, amset, tyset, Function.comp_apply, one1, lenV, calleeOf, lateOk, belowV, aop, AV.ofValue, AV.ofCell, AV.cells, AV.flat, AV.one, arep, aBin, aAppend, aConv]
      refine hJ _ _ ⟨_, _, _, ⟨rfl, rfl⟩, Abs.by hbel [0] (by decide) ?_⟩
      exact absT
    cases h2 : (gy == 0)
    · have h2' := beq_eq_false_iff_ne.1 h2
      obtain ⟨rfl, rfl⟩ := pos (by omega)
      simp -implicitDefEqProofs (disch := omega) only [h1, h2, simprocAttr, amset, tyset, Function.comp_apply, one1, lenV, calleeOf, lateOk, belowV, aop, AV.ofValue, AV.ofCell, AV.cells, AV.flat, AV.one, arep, aBin, aAppend, aConv]
      refine hJ _ _ ⟨_, _, _, ⟨rfl, rfl⟩, Abs.by hbel [0] (by decide) ?_⟩
      exact absT
    have h2' := beq_iff_eq.1 h2
    by_cases h3 : gx < 0
    · obtain ⟨rfl, rfl⟩ := neg (.inr ⟨h2', h3⟩)
      simp -implicitDefEqProofs (disch := omega) only [h1, h2, h3, simprocAttr, amset, tyset, Function.comp_apply, one1, lenV, calleeOf, lateOk, belowV, aop, AV.ofValue, AV.ofCell, AV.cells, AV.flat, AV.one, arep, aBin, aAppend, aConv]
      refine hJ _ _ ⟨_, _, _, ⟨rfl, rfl⟩, Abs.by hbel [0] (by decide) ?_⟩
      exact absT
    obtain ⟨rfl, rfl⟩ := pos (by omega)
    simp -implicitDefEqProofs (disch := omega) only [h1, h2, h3, simprocAttr, amset, tyset, Function.comp_apply, one1, lenV, calleeOf, lateOk, belowV, aop, AV.ofValue, AV.ofCell, AV.cells, AV.flat, AV.one, arep, aBin, aAppend, aConv]
    refine hJ _ _ ⟨_, _, _, ⟨rfl, rfl⟩, Abs.by hbel [0] (by decide) ?_⟩
    exact absT
  rintro F2 H2 ⟨rfl, rfl⟩
  refine AW_fin true try_mixed (by kernel_rfl) ?_
  clear hf hgb
  cases hz1 : (u == 0)
  · rw [if_neg (fun h => by injection h with h _; exact absurd h (beq_eq_false_iff_ne.1 hz1))] at hQ
    simp -implicitDefEqProofs (disch := omega) only [hz1, simprocAttr, amset, tyset, Function.comp_apply, one1, lenV, calleeOf, lateOk, belowV, aop, AV.ofValue, AV.ofCell, AV.cells, AV.flat, AV.one, arep, aBin, aAppend, aConv]
    rw [show putC [] (u, w) = [(u, w)] from rfl, retP_pos (by simp)] at hQ
    refine go_loop try_mixed (by kernel_rfl) (fun k F Hx => F = [(0, .sl none 0 (some 0)), (3, .ptr (some (H.length, 0))), (5, .sl none 0 (some 0)), (6, .bool false), (7, .int .i64 0)] ∧ Hx = H ++ [.cells true 0 [.int .i64 u, .int .i64 w]]) 1 ?_ ?_
    · refine ⟨_, _, _, ⟨rfl, rfl⟩, Abs.by hbel [0] (by decide) ?_⟩
      exact absT
    rintro k F Hx ⟨rfl, rfl⟩ J hJ
    simp -implicitDefEqProofs (disch := omega) only [Int.lt_irrefl, simprocAttr, amset, tyset, Function.comp_apply, one1, lenV, calleeOf, lateOk, belowV, aop, AV.ofValue, AV.ofCell, AV.cells, AV.flat, AV.one, arep, aBin, aAppend, aConv]
    refine hQ _ _ (end_by (.inl rfl) hbel (x1 := .sl (some (H.length + 2, 0)) 1 none) (.sl (some (H.length, 0)) 1 none) (resT Try.results48) [2] (by decide) ⟨rfl, rfl⟩ ?_)
    exact absT
  cases hz2 : (w == 0)
  · rw [if_neg (fun h => by injection h with _ h; exact absurd h (beq_eq_false_iff_ne.1 hz2))] at hQ
    simp -implicitDefEqProofs (disch := omega) only [hz1, hz2, simprocAttr, amset, tyset, Function.comp_apply, one1, lenV, calleeOf, lateOk, belowV, aop, AV.ofValue, AV.ofCell, AV.cells, AV.flat, AV.one, arep, aBin, aAppend, aConv]
    rw [show putC [] (u, w) = [(u, w)] from rfl, retP_pos (by simp)] at hQ
    refine go_loop try_mixed (by kernel_rfl) (fun k F Hx => F = [(0, .sl none 0 (some 0)), (3, .ptr (some (H.length, 0))), (5, .sl none 0 (some 0)), (6, .bool false), (7, .int .i64 0)] ∧ Hx = H ++ [.cells true 0 [.int .i64 u, .int .i64 w]]) 1 ?_ ?_
    · refine ⟨_, _, _, ⟨rfl, rfl⟩, Abs.by hbel [0] (by decide) ?_⟩
      exact absT
    rintro k F Hx ⟨rfl, rfl⟩ J hJ
    simp -implicitDefEqProofs (disch := omega) only [Int.lt_irrefl, simprocAttr, amset, tyset, Function.comp_apply, one1, lenV, calleeOf, lateOk, belowV, aop, AV.ofValue, AV.ofCell, AV.cells, AV.flat, AV.one, arep, aBin, aAppend, aConv]
    refine hQ _ _ (end_by (.inl rfl) hbel (x1 := .sl (some (H.length + 2, 0)) 1 none) (.sl (some (H.length, 0)) 1 none) (resT Try.results48) [2] (by decide) ⟨rfl, rfl⟩ ?_)
    exact absT
  simp -implicitDefEqProofs (disch := omega) only [hz1, hz2, simprocAttr, amset, tyset, Function.comp_apply, one1, lenV, calleeOf, lateOk, belowV, aop, AV.ofValue, AV.ofCell, AV.cells, AV.flat, AV.one, arep, aBin, aAppend, aConv]
  rw [if_pos (by rw [beq_iff_eq.1 hz1, beq_iff_eq.1 hz2])] at hQ
  refine hQ _ _ (end_by (l2 := []) (.inl rfl) hbel (x1 := .sl none 0 (some 0)) (.sl none 0 (some 0)) (resT Try.results48) [] (by decide) ⟨rfl, by simp⟩ ?_)
  exact absT
set_option maxHeartbeats 8000000 in
set_option maxRecDepth 100000 in
/-- One more generator. -/
theorem put1_c (H : AHeap) (b : Nat) (own : Bool) (cap : Option Nat) (C : List Pt) (hb : H[b]? = some (.cells own 2 (prs C))) (hl : C.length ≤ 40) (hC : ∀ e ∈ C, Bd 260000000 e) (gx gy : Int) (hgb : -4194304 ≤ gx ∧ gx ≤ 4194304 ∧ -4194304 ≤ gy ∧ gy ≤ 4194304) :
    ACalls Try.prog 48 [.sl (some (b, 0)) C.length cap, .agg [.int .i64 gx, .int .i64 gy]] H (fun v H' => v = (putV H (.sl (some (b, 0)) C.length cap) C (gx, gy)).1 ∧ H' = (putV H (.sl (some (b, 0)) C.length cap) C (gx, gy)).2) := by
  unfold putV
  have hbl := getElem?_lt hb
  have hb0 := fun l => get_app (l := l) hb
  generalize hn : C.length = n at *
  obtain ⟨u, w, hf⟩ : ∃ u w, nrm (gx, gy) = (u, w) := ⟨_, _, rfl⟩
  have hub : -4194304 ≤ u ∧ u ≤ 4194304 ∧ -4194304 ≤ w ∧ w ≤ 4194304 := by
    have := nrm_bd (M := 4194304) (g := (gx, gy)) hgb
    rw [hf] at this
    exact this
  rw [hf]
  (refine ACalls_pieces Try.func48 _ rfl (Nat.le_of_ble_eq_true (by kernel_rfl)) rfl ?_; intro hbel Q hQ hQ' c hc; unfold Try.f48 at hc; simp only [Option.some.injEq] at hc; subst hc; clear hQ')
  refine AW_stepA true try_mixed (by kernel_rfl) (fun F2 H2 => F2 = [(0, .sl (some (b, 0)) n cap), (3, .ptr (some (H.length, 0)))] ∧ H2 = H ++ [.cells true 0 [.int .i64 gx, .int .i64 gy]]) ?_ ?_
  · intro J hJ
    simp -implicitDefEqProofs (disch := omega) only [simprocAttr, amset, tyset, Function.comp_apply, one1, lenV, calleeOf, lateOk, belowV, aop, AV.ofValue, AV.ofCell, AV.cells, AV.flat, AV.one, arep, aBin, aAppend, aConv]
    refine hJ _ _ ⟨_, _, _, ⟨rfl, rfl⟩, Abs.by hbel [0] (by decide) ?_⟩
    exact absT
  rintro F2 H2 ⟨rfl, rfl⟩
  refine AW_stepA true try_mixed (by kernel_rfl) (fun F2 H2 => F2 = [(0, .sl (some (b, 0)) n cap), (3, .ptr (some (H.length, 0)))] ∧ H2 = H ++ [.cells true 0 [.int .i64 u, .int .i64 w]]) ?_ ?_
  · intro J hJ
    have neg : (gy < 0 ∨ (gy = 0 ∧ gx < 0)) → u = 0 - gx ∧ w = 0 - gy := fun h => by
      unfold nrm at hf; rw [if_pos h] at hf; simp only [Prod.mk.injEq] at hf; omega
    have pos : ¬ (gy < 0 ∨ (gy = 0 ∧ gx < 0)) → u = gx ∧ w = gy := fun h => by
      unfold nrm at hf; rw [if_neg h] at hf; simp only [Prod.mk.injEq] at hf; omega
    by_cases h1 : gy < 0
    · obtain ⟨rfl, rfl⟩ := neg (.inl h1)
      simp -implicitDefEqProofs (disch := omega) only [h1, simprocAttr, amset, tyset, Function.comp_apply, one1, lenV, calleeOf, lateOk, belowV, aop, AV.ofValue, AV.ofCell, AV.cells, AV.flat, AV.one, arep, aBin, aAppend, aConv]
      refine hJ _ _ ⟨_, _, _, ⟨rfl, rfl⟩, Abs.by hbel [0] (by decide) ?_⟩
      exact absT
    cases h2 : (gy == 0)
    · have h2' := beq_eq_false_iff_ne.1 h2
      obtain ⟨rfl, rfl⟩ := pos (by omega)
      simp -implicitDefEqProofs (disch := omega) only [h1, h2, simprocAttr, amset, tyset, Function.comp_apply, one1, lenV, calleeOf, lateOk, belowV, aop, AV.ofValue, AV.ofCell, AV.cells, AV.flat, AV.one, arep, aBin, aAppend, aConv]
      refine hJ _ _ ⟨_, _, _, ⟨rfl, rfl⟩, Abs.by hbel [0] (by decide) ?_⟩
      exact absT
    have h2' := beq_iff_eq.1 h2
    by_cases h3 : gx < 0
    · obtain ⟨rfl, rfl⟩ := neg (.inr ⟨h2', h3⟩)
      simp -implicitDefEqProofs (disch := omega) only [h1, h2, h3, simprocAttr, amset, tyset, Function.comp_apply, one1, lenV, calleeOf, lateOk, belowV, aop, AV.ofValue, AV.ofCell, AV.cells, AV.flat, AV.one, arep, aBin, aAppend, aConv]
      refine hJ _ _ ⟨_, _, _, ⟨rfl, rfl⟩, Abs.by hbel [0] (by decide) ?_⟩
      exact absT
    obtain ⟨rfl, rfl⟩ := pos (by omega)
    simp -implicitDefEqProofs (disch := omega) only [h1, h2, h3, simprocAttr, amset, tyset, Function.comp_apply, one1, lenV, calleeOf, lateOk, belowV, aop, AV.ofValue, AV.ofCell, AV.cells, AV.flat, AV.one, arep, aBin, aAppend, aConv]
    refine hJ _ _ ⟨_, _, _, ⟨rfl, rfl⟩, Abs.by hbel [0] (by decide) ?_⟩
    exact absT
  rintro F2 H2 ⟨rfl, rfl⟩
  refine AW_fin true try_mixed (by kernel_rfl) ?_
  clear hf hgb
  cases hz1 : (u == 0)
  · rw [if_neg (fun h => by injection h with h _; exact absurd h (beq_eq_false_iff_ne.1 hz1))] at hQ
    simp -implicitDefEqProofs (disch := omega) only [hz1, simprocAttr, amset, tyset, Function.comp_apply, one1, lenV, calleeOf, lateOk, belowV, aop, AV.ofValue, AV.ofCell, AV.cells, AV.flat, AV.one, arep, aBin, aAppend, aConv]
    refine go_loop try_mixed (by kernel_rfl) (fun k F Hx => ∃ (i : Nat) (s : AV) (X : ABlk), i + k = n ∧ OutP (H.length + 1) s X ((C.take i).foldl (pst (u, w)) ([], false)).1 ∧
      F = [(0, .sl (some (b, 0)) n none), (3, .ptr (some (H.length, 0))), (5, s), (6, .bool ((C.take i).foldl (pst (u, w)) ([], false)).2), (7, .int .i64 (i : Nat))] ∧
      Hx = H ++ [.cells true 0 [.int .i64 u, .int .i64 w], X]) n ?_ ?_
    · refine ⟨_, _, _, ⟨0, _, _, by omega, .inl ⟨rfl, rfl, rfl⟩, rfl, rfl⟩, Abs.by hbel [0, 1] (by decide) ?_⟩
      exact absT
    rintro k F Hx ⟨i, s, X, hik, hO, rfl, rfl⟩ J hJ
    have hpl := pst_len (C := C) (g := (u, w)) i
    have hps := fun h => pst_step (C := C) (g := (u, w)) (i := i) h
    have fin : ∀ (d' : Bool) (L' : List Pt) (sel : List Nat), sel.Nodup → 0 < L'.length → i < C.length → (C.take (i + 1)).foldl (pst (u, w)) ([], false) = (L', d') → ∀ (F : Fr) (l1 : AHeap),
        (absF (H.length + l1.length) (sig H.length l1.length sel) F [(0, .sl (some (b, 0)) n none), (3, .ptr (some (H.length, 0))), (5, .sl (some (H.length + 1, 0)) L'.length none), (6, .bool d'), (7, .int .i64 ((i + 1 : Nat) : Int))] ∧
          absH (H.length + l1.length) (sig H.length l1.length sel) l1 sel [.cells true 0 [.int .i64 u, .int .i64 w], .cells true 2 (prs L')]) → J F (H ++ l1) := fun d' L' sel hnd hl0 hi hh F l1 ha =>
      hJ _ _ ⟨k - 1, by omega, _, _, _, ⟨i + 1, _, _, by omega, by rw [hh]; exact .inr ⟨hl0, rfl, rfl⟩, by rw [hh], rfl⟩, Abs.by hbel sel hnd ha⟩
    have hend : putC C (u, w) = if ((C.take n).foldl (pst (u, w)) ([], false)).2 = true then ((C.take n).foldl (pst (u, w)) ([], false)).1 else ((C.take n).foldl (pst (u, w)) ([], false)).1 ++ [(u, w)] := by
      rw [List.take_of_length_le (by omega)]; rfl
    by_cases hi : i < C.length
    · have hii : (i : Int) < (n : Int) := by omega
      have q0 := prs_load hi
      have q1 := prs_at0 hi
      have q2 := prs_at1 hi
      have hg : gp C i = C[i] := gp_eq hi
      have heb := hC C[i] (List.getElem_mem hi)
      rw [← hg] at heb
      have heb2 : Bd 268435456 (gp C i) := by unfold Bd at *; omega
      have hebd : -260000000 ≤ g1 C i ∧ g1 C i ≤ 260000000 ∧ -260000000 ≤ g2 C i ∧ g2 C i ≤ 260000000 := heb
      have hgb2 : Bd 268435456 (u, w) := by unfold Bd; simp only; omega
      have hps := hps hi
      generalize (C.take i).foldl (pst (u, w)) ([], false) = st at *
      obtain ⟨L, d⟩ := st
      simp only at hO hpl
      have hLt : List.take (L.length * 2) (prs L) = prs L := List.take_of_length_le (by rw [prs_len]; omega)
      simp -implicitDefEqProofs (disch := omega) only [hii, hb0, q0, simprocAttr, amset, tyset, Function.comp_apply, one1, lenV, calleeOf, lateOk, belowV, aop, AV.ofValue, AV.ofCell, AV.cells, AV.flat, AV.one, arep, aBin, aAppend, aConv]
      repeat refine And.intro (by omega) ?_
      refine call_d (by kernel_rfl) (rcross_c _ (u, w) (gp C i) hgb2 heb2) ?_
      have hLt2 : List.take ((L.length + 1) * 2) (prs (L ++ [(u, w)])) = prs (L ++ [(u, w)]) := List.take_of_length_le (by rw [prs_len, List.length_append]; simp)
      cases hc : (crs (u, w) (gp C i) == 0)
      · have hc' := beq_eq_false_iff_ne.1 hc
        by_cases hp : 0 < crs (u, w) (gp C i)
        · cases d
          · have hst : pst (u, w) (L, false) (gp C i) = (L ++ [(u, w), gp C i], true) := by unfold pst; rw [if_neg hc', if_pos ⟨hp, rfl⟩]
            rw [hst] at hps
            rcases hO with ⟨rfl, rfl, rfl⟩ | ⟨hL1, rfl, rfl⟩
            · simp -implicitDefEqProofs (disch := omega) only [hc, hp, hb0, q0, simprocAttr, amset, tyset, Function.comp_apply, one1, lenV, calleeOf, lateOk, belowV, aop, AV.ofValue, AV.ofCell, AV.cells, AV.flat, AV.one, arep, aBin, aAppend, aConv]
              repeat refine And.intro (by omega) ?_
              refine fin _ _ [0, 5] (by decide) (by simp) hi hps _ _ ?_
              exact absT
            simp -implicitDefEqProofs (disch := omega) only [hc, hp, hb0, q0, prs_snoc, hLt, hLt2, simprocAttr, amset, tyset, Function.comp_apply, one1, lenV, calleeOf, lateOk, belowV, aop, AV.ofValue, AV.ofCell, AV.cells, AV.flat, AV.one, arep, aBin, aAppend, aConv]
            repeat refine And.intro (by omega) ?_
            refine fin _ _ [0, 5] (by decide) (by simp) hi hps _ _ ?_
            exact absTf (jn @List.append_assoc.{0} (jn @List.length_append.{0} (jn @List.length_cons.{0} @List.length_nil.{0})))
          have hst : pst (u, w) (L, true) (gp C i) = (L ++ [gp C i], true) := by unfold pst; rw [if_neg hc', if_neg (by simp)]
          rw [hst] at hps
          rcases hO with ⟨rfl, rfl, rfl⟩ | ⟨hL1, rfl, rfl⟩
          · simp -implicitDefEqProofs (disch := omega) only [hc, hp, hb0, q0, simprocAttr, amset, tyset, Function.comp_apply, one1, lenV, calleeOf, lateOk, belowV, aop, AV.ofValue, AV.ofCell, AV.cells, AV.flat, AV.one, arep, aBin, aAppend, aConv]
            repeat refine And.intro (by omega) ?_
            refine fin _ _ [0, 3] (by decide) (by simp) hi hps _ _ ?_
            exact absT
          simp -implicitDefEqProofs (disch := omega) only [hc, hp, hb0, q0, prs_snoc, hLt, simprocAttr, amset, tyset, Function.comp_apply, one1, lenV, calleeOf, lateOk, belowV, aop, AV.ofValue, AV.ofCell, AV.cells, AV.flat, AV.one, arep, aBin, aAppend, aConv]
          repeat refine And.intro (by omega) ?_
          refine fin _ _ [0, 3] (by decide) (by simp) hi hps _ _ ?_
          exact absTf (jn @List.append_assoc.{0} (jn @List.length_append.{0} (jn @List.length_cons.{0} @List.length_nil.{0})))
        have hst : pst (u, w) (L, d) (gp C i) = (L ++ [gp C i], d) := by unfold pst; rw [if_neg hc', if_neg (by simp only; omega)]
        rw [hst] at hps
        rcases hO with ⟨rfl, rfl, rfl⟩ | ⟨hL1, rfl, rfl⟩
        · simp -implicitDefEqProofs (disch := omega) only [hc, hp, hb0, q0, simprocAttr, amset, tyset, Function.comp_apply, one1, lenV, calleeOf, lateOk, belowV, aop, AV.ofValue, AV.ofCell, AV.cells, AV.flat, AV.one, arep, aBin, aAppend, aConv]
          repeat refine And.intro (by omega) ?_
          refine fin _ _ [0, 3] (by decide) (by simp) hi hps _ _ ?_
          exact absT
        simp -implicitDefEqProofs (disch := omega) only [hc, hp, hb0, q0, prs_snoc, hLt, simprocAttr, amset, tyset, Function.comp_apply, one1, lenV, calleeOf, lateOk, belowV, aop, AV.ofValue, AV.ofCell, AV.cells, AV.flat, AV.one, arep, aBin, aAppend, aConv]
        repeat refine And.intro (by omega) ?_
        refine fin _ _ [0, 3] (by decide) (by simp) hi hps _ _ ?_
        exact absTf (jn @List.append_assoc.{0} (jn @List.length_append.{0} (jn @List.length_cons.{0} @List.length_nil.{0})))
      have hst : pst (u, w) (L, d) (gp C i) = (L ++ [padd (gp C i) (u, w)], true) := by unfold pst; rw [if_pos (beq_iff_eq.1 hc)]
      rw [hst] at hps
      rcases hO with ⟨rfl, rfl, rfl⟩ | ⟨hL1, rfl, rfl⟩
      · simp -implicitDefEqProofs (disch := omega) only [hc, hb0, q1, q2, simprocAttr, amset, tyset, Function.comp_apply, one1, lenV, calleeOf, lateOk, belowV, aop, AV.ofValue, AV.ofCell, AV.cells, AV.flat, AV.one, arep, aBin, aAppend, aConv]
        repeat refine And.intro (by omega) ?_
        refine fin _ _ [0, 3] (by decide) (by simp) hi hps _ _ ?_
        exact absT
      simp -implicitDefEqProofs (disch := omega) only [hc, hb0, q1, q2, prs_snoc, hLt, simprocAttr, amset, tyset, Function.comp_apply, one1, lenV, calleeOf, lateOk, belowV, aop, AV.ofValue, AV.ofCell, AV.cells, AV.flat, AV.one, arep, aBin, aAppend, aConv]
      repeat refine And.intro (by omega) ?_
      refine fin _ _ [0, 3] (by decide) (by simp) hi hps _ _ ?_
      exact absTf (jn @List.append_assoc.{0} (jn @List.length_append.{0} (jn @List.length_cons.{0} @List.length_nil.{0})))
    have hnn : ¬ ((i : Int) < (n : Int)) := by omega
    obtain rfl : i = n := by omega
    rw [hend] at hQ
    clear hps hend fin
    generalize (C.take i).foldl (pst (u, w)) ([], false) = st at *
    obtain ⟨L, d⟩ := st
    simp only at hO hpl
    have hLt : List.take (L.length * 2) (prs L) = prs L := List.take_of_length_le (by rw [prs_len]; omega)
    cases d
    · rw [if_neg (by simp), retP_pos (by simp)] at hQ
      rcases hO with ⟨rfl, rfl, rfl⟩ | ⟨hL1, rfl, rfl⟩
      · simp -implicitDefEqProofs (disch := omega) only [hnn, simprocAttr, amset, tyset, Function.comp_apply, one1, lenV, calleeOf, lateOk, belowV, aop, AV.ofValue, AV.ofCell, AV.cells, AV.flat, AV.one, arep, aBin, aAppend, aConv]
        refine hQ _ _ (end_by (.inl rfl) hbel (x1 := .sl (some (H.length + 3, 0)) 1 none) (.sl (some (H.length, 0)) 1 none) (resT Try.results48) [3] (by decide) ⟨rfl, rfl⟩ ?_)
        exact absT
      simp -implicitDefEqProofs (disch := omega) only [hnn, prs_snoc, hLt, simprocAttr, amset, tyset, Function.comp_apply, one1, lenV, calleeOf, lateOk, belowV, aop, AV.ofValue, AV.ofCell, AV.cells, AV.flat, AV.one, arep, aBin, aAppend, aConv]
      repeat refine And.intro (by omega) ?_
      refine hQ _ _ (end_by (.inl rfl) hbel (x1 := .sl (some (H.length + 3, 0)) (L.length + 1) none) (.sl (some (H.length, 0)) (L.length + 1) none) (resT Try.results48) [3] (by decide) ⟨by simp, rfl⟩ ?_)
      exact absT
    rw [if_pos rfl] at hQ
    rcases hO with ⟨rfl, rfl, rfl⟩ | ⟨hL1, rfl, rfl⟩
    · rw [retP_nil] at hQ
      simp -implicitDefEqProofs (disch := omega) only [hnn, simprocAttr, amset, tyset, Function.comp_apply, one1, lenV, calleeOf, lateOk, belowV, aop, AV.ofValue, AV.ofCell, AV.cells, AV.flat, AV.one, arep, aBin, aAppend, aConv]
      exact hQ _ _ (end_plain (.inl rfl) hbel (x := .sl none 0 (some 0)) (resT Try.results48) rfl ⟨rfl, rfl⟩)
    rw [retP_pos hL1] at hQ
    simp -implicitDefEqProofs (disch := omega) only [hnn, simprocAttr, amset, tyset, Function.comp_apply, one1, lenV, calleeOf, lateOk, belowV, aop, AV.ofValue, AV.ofCell, AV.cells, AV.flat, AV.one, arep, aBin, aAppend, aConv]
    refine hQ _ _ (end_by (.inl rfl) hbel (x1 := .sl (some (H.length + 1, 0)) L.length none) (.sl (some (H.length, 0)) L.length none) (resT Try.results48) [1] (by decide) ⟨rfl, rfl⟩ ?_)
    exact absT
  cases hz2 : (w == 0)
  · rw [if_neg (fun h => by injection h with _ h; exact absurd h (beq_eq_false_iff_ne.1 hz2))] at hQ
    simp -implicitDefEqProofs (disch := omega) only [hz1, hz2, simprocAttr, amset, tyset, Function.comp_apply, one1, lenV, calleeOf, lateOk, belowV, aop, AV.ofValue, AV.ofCell, AV.cells, AV.flat, AV.one, arep, aBin, aAppend, aConv]
    refine go_loop try_mixed (by kernel_rfl) (fun k F Hx => ∃ (i : Nat) (s : AV) (X : ABlk), i + k = n ∧ OutP (H.length + 1) s X ((C.take i).foldl (pst (u, w)) ([], false)).1 ∧
      F = [(0, .sl (some (b, 0)) n none), (3, .ptr (some (H.length, 0))), (5, s), (6, .bool ((C.take i).foldl (pst (u, w)) ([], false)).2), (7, .int .i64 (i : Nat))] ∧
      Hx = H ++ [.cells true 0 [.int .i64 u, .int .i64 w], X]) n ?_ ?_
    · refine ⟨_, _, _, ⟨0, _, _, by omega, .inl ⟨rfl, rfl, rfl⟩, rfl, rfl⟩, Abs.by hbel [0, 1] (by decide) ?_⟩
      exact absT
    rintro k F Hx ⟨i, s, X, hik, hO, rfl, rfl⟩ J hJ
    have hpl := pst_len (C := C) (g := (u, w)) i
    have hps := fun h => pst_step (C := C) (g := (u, w)) (i := i) h
    have fin : ∀ (d' : Bool) (L' : List Pt) (sel : List Nat), sel.Nodup → 0 < L'.length → i < C.length → (C.take (i + 1)).foldl (pst (u, w)) ([], false) = (L', d') → ∀ (F : Fr) (l1 : AHeap),
        (absF (H.length + l1.length) (sig H.length l1.length sel) F [(0, .sl (some (b, 0)) n none), (3, .ptr (some (H.length, 0))), (5, .sl (some (H.length + 1, 0)) L'.length none), (6, .bool d'), (7, .int .i64 ((i + 1 : Nat) : Int))] ∧
          absH (H.length + l1.length) (sig H.length l1.length sel) l1 sel [.cells true 0 [.int .i64 u, .int .i64 w], .cells true 2 (prs L')]) → J F (H ++ l1) := fun d' L' sel hnd hl0 hi hh F l1 ha =>
      hJ _ _ ⟨k - 1, by omega, _, _, _, ⟨i + 1, _, _, by omega, by rw [hh]; exact .inr ⟨hl0, rfl, rfl⟩, by rw [hh], rfl⟩, Abs.by hbel sel hnd ha⟩
    have hend : putC C (u, w) = if ((C.take n).foldl (pst (u, w)) ([], false)).2 = true then ((C.take n).foldl (pst (u, w)) ([], false)).1 else ((C.take n).foldl (pst (u, w)) ([], false)).1 ++ [(u, w)] := by
      rw [List.take_of_length_le (by omega)]; rfl
    by_cases hi : i < C.length
    · have hii : (i : Int) < (n : Int) := by omega
      have q0 := prs_load hi
      have q1 := prs_at0 hi
      have q2 := prs_at1 hi
      have hg : gp C i = C[i] := gp_eq hi
      have heb := hC C[i] (List.getElem_mem hi)
      rw [← hg] at heb
      have heb2 : Bd 268435456 (gp C i) := by unfold Bd at *; omega
      have hebd : -260000000 ≤ g1 C i ∧ g1 C i ≤ 260000000 ∧ -260000000 ≤ g2 C i ∧ g2 C i ≤ 260000000 := heb
      have hgb2 : Bd 268435456 (u, w) := by unfold Bd; simp only; omega
      have hps := hps hi
      generalize (C.take i).foldl (pst (u, w)) ([], false) = st at *
      obtain ⟨L, d⟩ := st
      simp only at hO hpl
      have hLt : List.take (L.length * 2) (prs L) = prs L := List.take_of_length_le (by rw [prs_len]; omega)
      simp -implicitDefEqProofs (disch := omega) only [hii, hb0, q0, simprocAttr, amset, tyset, Function.comp_apply, one1, lenV, calleeOf, lateOk, belowV, aop, AV.ofValue, AV.ofCell, AV.cells, AV.flat, AV.one, arep, aBin, aAppend, aConv]
      repeat refine And.intro (by omega) ?_
      refine call_d (by kernel_rfl) (rcross_c _ (u, w) (gp C i) hgb2 heb2) ?_
      have hLt2 : List.take ((L.length + 1) * 2) (prs (L ++ [(u, w)])) = prs (L ++ [(u, w)]) := List.take_of_length_le (by rw [prs_len, List.length_append]; simp)
      cases hc : (crs (u, w) (gp C i) == 0)
      · have hc' := beq_eq_false_iff_ne.1 hc
        by_cases hp : 0 < crs (u, w) (gp C i)
        · cases d
          · have hst : pst (u, w) (L, false) (gp C i) = (L ++ [(u, w), gp C i], true) := by unfold pst; rw [if_neg hc', if_pos ⟨hp, rfl⟩]
            rw [hst] at hps
            rcases hO with ⟨rfl, rfl, rfl⟩ | ⟨hL1, rfl, rfl⟩
            · simp -implicitDefEqProofs (disch := omega) only [hc, hp, hb0, q0, simprocAttr, amset, tyset, Function.comp_apply, one1, lenV, calleeOf, lateOk, belowV, aop, AV.ofValue, AV.ofCell, AV.cells, AV.flat, AV.one, arep, aBin, aAppend, aConv]
              repeat refine And.intro (by omega) ?_
              refine fin _ _ [0, 5] (by decide) (by simp) hi hps _ _ ?_
              exact absT
            simp -implicitDefEqProofs (disch := omega) only [hc, hp, hb0, q0, prs_snoc, hLt, hLt2, simprocAttr, amset, tyset, Function.comp_apply, one1, lenV, calleeOf, lateOk, belowV, aop, AV.ofValue, AV.ofCell, AV.cells, AV.flat, AV.one, arep, aBin, aAppend, aConv]
            repeat refine And.intro (by omega) ?_
            refine fin _ _ [0, 5] (by decide) (by simp) hi hps _ _ ?_
            exact absTf (jn @List.append_assoc.{0} (jn @List.length_append.{0} (jn @List.length_cons.{0} @List.length_nil.{0})))
          have hst : pst (u, w) (L, true) (gp C i) = (L ++ [gp C i], true) := by unfold pst; rw [if_neg hc', if_neg (by simp)]
          rw [hst] at hps
          rcases hO with ⟨rfl, rfl, rfl⟩ | ⟨hL1, rfl, rfl⟩
          · simp -implicitDefEqProofs (disch := omega) only [hc, hp, hb0, q0, simprocAttr, amset, tyset, Function.comp_apply, one1, lenV, calleeOf, lateOk, belowV, aop, AV.ofValue, AV.ofCell, AV.cells, AV.flat, AV.one, arep, aBin, aAppend, aConv]
            repeat refine And.intro (by omega) ?_
            refine fin _ _ [0, 3] (by decide) (by simp) hi hps _ _ ?_
            exact absT
          simp -implicitDefEqProofs (disch := omega) only [hc, hp, hb0, q0, prs_snoc, hLt, simprocAttr, amset, tyset, Function.comp_apply, one1, lenV, calleeOf, lateOk, belowV, aop, AV.ofValue, AV.ofCell, AV.cells, AV.flat, AV.one, arep, aBin, aAppend, aConv]
          repeat refine And.intro (by omega) ?_
          refine fin _ _ [0, 3] (by decide) (by simp) hi hps _ _ ?_
          exact absTf (jn @List.append_assoc.{0} (jn @List.length_append.{0} (jn @List.length_cons.{0} @List.length_nil.{0})))
        have hst : pst (u, w) (L, d) (gp C i) = (L ++ [gp C i], d) := by unfold pst; rw [if_neg hc', if_neg (by simp only; omega)]
        rw [hst] at hps
        rcases hO with ⟨rfl, rfl, rfl⟩ | ⟨hL1, rfl, rfl⟩
        · simp -implicitDefEqProofs (disch := omega) only [hc, hp, hb0, q0, simprocAttr, amset, tyset, Function.comp_apply, one1, lenV, calleeOf, lateOk, belowV, aop, AV.ofValue, AV.ofCell, AV.cells, AV.flat, AV.one, arep, aBin, aAppend, aConv]
          repeat refine And.intro (by omega) ?_
          refine fin _ _ [0, 3] (by decide) (by simp) hi hps _ _ ?_
          exact absT
        simp -implicitDefEqProofs (disch := omega) only [hc, hp, hb0, q0, prs_snoc, hLt, simprocAttr, amset, tyset, Function.comp_apply, one1, lenV, calleeOf, lateOk, belowV, aop, AV.ofValue, AV.ofCell, AV.cells, AV.flat, AV.one, arep, aBin, aAppend, aConv]
        repeat refine And.intro (by omega) ?_
        refine fin _ _ [0, 3] (by decide) (by simp) hi hps _ _ ?_
        exact absTf (jn @List.append_assoc.{0} (jn @List.length_append.{0} (jn @List.length_cons.{0} @List.length_nil.{0})))
      have hst : pst (u, w) (L, d) (gp C i) = (L ++ [padd (gp C i) (u, w)], true) := by unfold pst; rw [if_pos (beq_iff_eq.1 hc)]
      rw [hst] at hps
      rcases hO with ⟨rfl, rfl, rfl⟩ | ⟨hL1, rfl, rfl⟩
      · simp -implicitDefEqProofs (disch := omega) only [hc, hb0, q1, q2, simprocAttr, amset, tyset, Function.comp_apply, one1, lenV, calleeOf, lateOk, belowV, aop, AV.ofValue, AV.ofCell, AV.cells, AV.flat, AV.one, arep, aBin, aAppend, aConv]
        repeat refine And.intro (by omega) ?_
        refine fin _ _ [0, 3] (by decide) (by simp) hi hps _ _ ?_
        exact absT
      simp -implicitDefEqProofs (disch := omega) only [hc, hb0, q1, q2, prs_snoc, hLt, simprocAttr, amset, tyset, Function.comp_apply, one1, lenV, calleeOf, lateOk, belowV, aop, AV.ofValue, AV.ofCell, AV.cells, AV.flat, AV.one, arep, aBin, aAppend, aConv]
      repeat refine And.intro (by omega) ?_
      refine fin _ _ [0, 3] (by decide) (by simp) hi hps _ _ ?_
      exact absTf (jn @List.append_assoc.{0} (jn @List.length_append.{0} (jn @List.length_cons.{0} @List.length_nil.{0})))
    have hnn : ¬ ((i : Int) < (n : Int)) := by omega
    obtain rfl : i = n := by omega
    rw [hend] at hQ
    clear hps hend fin
    generalize (C.take i).foldl (pst (u, w)) ([], false) = st at *
    obtain ⟨L, d⟩ := st
    simp only at hO hpl
    have hLt : List.take (L.length * 2) (prs L) = prs L := List.take_of_length_le (by rw [prs_len]; omega)
    cases d
    · rw [if_neg (by simp), retP_pos (by simp)] at hQ
      rcases hO with ⟨rfl, rfl, rfl⟩ | ⟨hL1, rfl, rfl⟩
      · simp -implicitDefEqProofs (disch := omega) only [hnn, simprocAttr, amset, tyset, Function.comp_apply, one1, lenV, calleeOf, lateOk, belowV, aop, AV.ofValue, AV.ofCell, AV.cells, AV.flat, AV.one, arep, aBin, aAppend, aConv]
        refine hQ _ _ (end_by (.inl rfl) hbel (x1 := .sl (some (H.length + 3, 0)) 1 none) (.sl (some (H.length, 0)) 1 none) (resT Try.results48) [3] (by decide) ⟨rfl, rfl⟩ ?_)
        exact absT
      simp -implicitDefEqProofs (disch := omega) only [hnn, prs_snoc, hLt, simprocAttr, amset, tyset, Function.comp_apply, one1, lenV, calleeOf, lateOk, belowV, aop, AV.ofValue, AV.ofCell, AV.cells, AV.flat, AV.one, arep, aBin, aAppend, aConv]
      repeat refine And.intro (by omega) ?_
      refine hQ _ _ (end_by (.inl rfl) hbel (x1 := .sl (some (H.length + 3, 0)) (L.length + 1) none) (.sl (some (H.length, 0)) (L.length + 1) none) (resT Try.results48) [3] (by decide) ⟨by simp, rfl⟩ ?_)
      exact absT
    rw [if_pos rfl] at hQ
    rcases hO with ⟨rfl, rfl, rfl⟩ | ⟨hL1, rfl, rfl⟩
    · rw [retP_nil] at hQ
      simp -implicitDefEqProofs (disch := omega) only [hnn, simprocAttr, amset, tyset, Function.comp_apply, one1, lenV, calleeOf, lateOk, belowV, aop, AV.ofValue, AV.ofCell, AV.cells, AV.flat, AV.one, arep, aBin, aAppend, aConv]
      exact hQ _ _ (end_plain (.inl rfl) hbel (x := .sl none 0 (some 0)) (resT Try.results48) rfl ⟨rfl, rfl⟩)
    rw [retP_pos hL1] at hQ
    simp -implicitDefEqProofs (disch := omega) only [hnn, simprocAttr, amset, tyset, Function.comp_apply, one1, lenV, calleeOf, lateOk, belowV, aop, AV.ofValue, AV.ofCell, AV.cells, AV.flat, AV.one, arep, aBin, aAppend, aConv]
    refine hQ _ _ (end_by (.inl rfl) hbel (x1 := .sl (some (H.length + 1, 0)) L.length none) (.sl (some (H.length, 0)) L.length none) (resT Try.results48) [1] (by decide) ⟨rfl, rfl⟩ ?_)
    exact absT
  simp -implicitDefEqProofs (disch := omega) only [hz1, hz2, simprocAttr, amset, tyset, Function.comp_apply, one1, lenV, calleeOf, lateOk, belowV, aop, AV.ofValue, AV.ofCell, AV.cells, AV.flat, AV.one, arep, aBin, aAppend, aConv]
  rw [if_pos (by rw [beq_iff_eq.1 hz1, beq_iff_eq.1 hz2])] at hQ
  refine hQ _ _ (end_by (l2 := []) (.inl rfl) hbel (x1 := .sl (some (b, 0)) n cap) (.sl (some (b, 0)) n cap) (resT Try.results48) [] (by decide) ⟨rfl, by simp⟩ ?_)
  exact absT
open Go.RowKit
theorem pst_bd {A B : Int} (hA : 0 ≤ A) (hB : 0 ≤ B) {g x : Pt} {st : List Pt × Bool} (h : ∀ e ∈ st.1, Bd (A + B) e) (hx : Bd A x) (hg : Bd B g) : ∀ e ∈ (pst g st x).1, Bd (A + B) e := by
  have hx' : Bd (A + B) x := by unfold Bd at *; omega
  have hg' : Bd (A + B) g := by unfold Bd at *; omega
  have hp : Bd (A + B) (padd x g) := by unfold Bd padd at *; simp only; omega
  unfold pst
  split
  · intro e he
    simp only [List.mem_append, List.mem_singleton] at he
    rcases he with he | rfl
    · exact h e he
    exact hp
  split
  · intro e he
    simp only [List.mem_append, List.mem_cons, List.not_mem_nil, or_false] at he
    rcases he with he | rfl | rfl
    · exact h e he
    · exact hg'
    exact hx'
  intro e he
  simp only [List.mem_append, List.mem_singleton] at he
  rcases he with he | rfl
  · exact h e he
  exact hx'
theorem putC_bd {A B : Int} (hA : 0 ≤ A) (hB : 0 ≤ B) {g : Pt} {C : List Pt} (hC : ∀ e ∈ C, Bd A e) (hg : Bd B g) : ∀ e ∈ putC C g, Bd (A + B) e := by
  have gen : ∀ (D : List Pt) (st : List Pt × Bool), (∀ e ∈ D, Bd A e) → (∀ e ∈ st.1, Bd (A + B) e) → ∀ e ∈ (D.foldl (pst g) st).1, Bd (A + B) e := fun D => by
    induction D with
    | nil => intro st _ h; exact h
    | cons d D ih =>
      intro st hD h
      rw [List.foldl_cons]
      exact ih _ (fun e he => hD e (by simp [he])) (pst_bd hA hB h (hD d (by simp)) hg)
  have h1 := gen C ([], false) hC (by simp)
  have hg' : Bd (A + B) g := by unfold Bd at *; omega
  unfold putC
  simp only
  split
  · exact h1
  intro e he
  simp only [List.mem_append, List.mem_singleton] at he
  rcases he with he | rfl
  · exact h1 e he
  exact hg'
theorem canonL_snoc (l : List Pt) (g : Pt) : canonL (l ++ [g]) = putL (canonL l) g := by unfold canonL; rw [List.foldl_append]; rfl
theorem canonL_bd {M : Int} (hM : 0 ≤ M) {l : List Pt} (h : ∀ e ∈ l, Bd M e) : ∀ e ∈ canonL l, Bd (l.length * M) e := by
  revert h
  refine snoc_ind (P := fun l => (∀ e ∈ l, Bd M e) → ∀ e ∈ canonL l, Bd (l.length * M) e) (fun _ => by simp [canonL]) (fun l g ih h => ?_) l
  have ih := ih fun e he => h e (by simp [he])
  have hg := nrm_bd (h g (by simp))
  have e1 : ((l ++ [g]).length : Int) * M = l.length * M + M := by
    rw [List.length_append, Int.natCast_add, Int.add_mul]; simp
  have e2 : 0 ≤ (l.length : Int) * M := Int.mul_nonneg (by omega) hM
  rw [canonL_snoc, e1]
  unfold putL
  split
  · intro e he
    have := ih e he
    unfold Bd at *; omega
  exact putC_bd e2 hM ih hg
theorem putC_len {C : List Pt} {g : Pt} (hg : up g) (hs : C.Pairwise fun a b => 0 < crs a b) (hu : ∀ e ∈ C, up e) : (putC C g).length ≤ C.length + 1 ∧ 0 < (putC C g).length := by
  rcases split_at hg C hs hu with ⟨A, B, rfl, h1, h2⟩ | ⟨A, e, B, rfl, h1, h0, h2⟩
  · rw [putC_none h1 h2]; simp; omega
  rw [putC_some h1 h0 h2]; simp; omega
theorem canonL_len (l : List Pt) : (canonL l).length ≤ l.length := by
  refine snoc_ind (P := fun l => (canonL l).length ≤ l.length) (by simp [canonL]) (fun l g h => ?_) l
  rw [canonL_snoc, List.length_append, List.length_singleton]
  unfold putL
  split
  · omega
  rename_i h0
  have hc := canonL_can l
  have := (putC_len (nrm_up h0) hc.sorted hc.ups).1
  omega
/-- One more generator, to a list that is none yet or a block of its own. -/
theorem put_c (H : AHeap) (s : AV) (C : List Pt) (hs : IsP H s C) (hl : C.length ≤ 40) (hC : ∀ e ∈ C, Bd 260000000 e) (g : Pt) (hg : Bd 4194304 g) :
    ACalls Try.prog 48 [s, pv g] H (fun v H' => v = (putV H s C g).1 ∧ H' = (putV H s C g).2) := by
  rcases hs with ⟨rfl, rfl⟩ | ⟨b, own, cap, rfl, hb⟩
  · exact put0_c H g.1 g.2 hg
  exact put1_c H b own cap C hb hl hC g.1 g.2 hg
theorem putV_zero {H : AHeap} {s : AV} {C : List Pt} {g : Pt} (h : nrm g = (0, 0)) : putV H s C g = (s, H) := by unfold putV; rw [if_pos h]
theorem putV_pos {H : AHeap} {s : AV} {C : List Pt} {g : Pt} (h : nrm g ≠ (0, 0)) (h0 : 0 < (putC C (nrm g)).length) : putV H s C g = (.sl (some (H.length, 0)) (putC C (nrm g)).length none, H ++ [.cells true 2 (prs (putC C (nrm g)))]) := by
  unfold putV; rw [if_neg h, retP_pos h0]
theorem rcanon_c (H : AHeap) (x y : Int) (b : Nat) (own : Bool) (cap : Option Nat) (l : List Pt) (hb : H[b]? = some (.cells own 2 (prs l))) (hl : l.length ≤ 40) (hB : ∀ e ∈ l, Bd 4194304 e) :
    ACalls Try.prog 30 [.agg [.int .i64 x, .int .i64 y, .sl (some (b, 0)) l.length cap]] H (fun v H' => v = .agg [.int .i64 x, .int .i64 y, (retP H (canonL l)).1] ∧ H' = (retP H (canonL l)).2) := by
  have hbl := getElem?_lt hb
  have hb0 := fun l => get_app (l := l) hb
  generalize hn : l.length = n at *
  (refine ACalls_run try_mixed Try.func30 false _ rfl (Nat.le_of_ble_eq_true (by kernel_rfl)) (by kernel_rfl) ?_; intro hbel Q hQ hQ' c hc; unfold Try.f30 at hc; simp only [Option.some.injEq] at hc; subst hc; clear hQ')
  simp -implicitDefEqProofs (disch := omega) only [simprocAttr, amset, tyset, Function.comp_apply, one1, lenV, calleeOf, lateOk, belowV, aop, AV.ofValue, AV.ofCell, AV.cells, AV.flat, AV.one, arep, aBin, aAppend, aConv]
  refine go_loop try_mixed (by kernel_rfl) (fun k F Hx => ∃ (i : Nat) (s : AV) (X : ABlk), i + k = n ∧ OutP (H.length + 3) s X (canonL (l.take i)) ∧
    F = [(1, .ptr (some (H.length, 0))), (2, .ptr (some (H.length + 1, 0))), (3, .ptr (some (H.length + 2, 0))), (4, .int .i64 (i : Nat))] ∧
    Hx = H ++ [.cells true 0 [.int .i64 x, .int .i64 y, .sl (some (b, 0)) n cap], .cells true 0 [.int .i64 0, .int .i64 0, .sl none 0 (some 0)], .cells true 0 [.int .i64 x, .int .i64 y, s], X]) n ?_ ?_
  · refine ⟨_, _, _, ⟨0, _, _, by omega, .inl ⟨rfl, rfl, rfl⟩, rfl, rfl⟩, Abs.by hbel [0, 1, 2, 3] (by decide) ?_⟩
    exact absT
  rintro k F Hx ⟨i, s, X, hik, hO, rfl, rfl⟩ J hJ
  by_cases hi : i < l.length
  · have hii : (i : Int) < (n : Int) := by omega
    have q0 := prs_load hi
    have hg : gp l i = l[i] := gp_eq hi
    have hgb := hB l[i] (List.getElem_mem hi)
    rw [← hg] at hgb
    have hst : canonL (l.take (i + 1)) = putL (canonL (l.take i)) (gp l i) := by rw [List.take_succ_eq_append_getElem hi, canonL_snoc, hg]
    have hml := canonL_len (l.take i)
    have hmb := canonL_bd (M := 4194304) (by decide) (l := l.take i) (fun e he => hB e (List.mem_of_mem_take he))
    have hcan := canonL_can (l.take i)
    have h40 : ((l.take i).length : Int) * 4194304 ≤ 40 * 4194304 := Int.mul_le_mul_of_nonneg_right (by rw [List.length_take]; omega) (by decide)
    have hmb2 : ∀ e ∈ canonL (l.take i), Bd 260000000 e := fun e he => by have := hmb e he; unfold Bd at *; omega
    rw [List.length_take] at hml
    generalize canonL (l.take i) = L at *
    rcases hO with ⟨rfl, rfl, rfl⟩ | ⟨hL1, rfl, rfl⟩
    · have hput := put_c (H ++ [.cells true 0 [.int .i64 x, .int .i64 y, .sl (some (b, 0)) n cap], .cells true 0 [.int .i64 0, .int .i64 0, .sl none 0 (some 0)], .cells true 0 [.int .i64 x, .int .i64 y, .sl none 0 (some 0)], .dead]) (.sl none 0 (some 0)) [] (.inl ⟨rfl, rfl⟩) (by simp) hmb2 (gp l i) hgb
      by_cases hz : nrm (gp l i) = (0, 0)
      · have hst2 : putL [] (gp l i) = [] := by unfold putL; rw [if_pos hz]
        rw [hst2] at hst
        rw [putV_zero hz] at hput
        simp -implicitDefEqProofs (disch := omega) only [hii, hb0, q0, simprocAttr, amset, tyset, Function.comp_apply, one1, lenV, calleeOf, lateOk, belowV, aop, AV.ofValue, AV.ofCell, AV.cells, AV.flat, AV.one, arep, aBin, aAppend, aConv]
        repeat refine And.intro (by omega) ?_
        refine call_d (by kernel_rfl) hput ?_
        simp -implicitDefEqProofs (disch := omega) only [simprocAttr, amset, tyset, Function.comp_apply, one1, lenV, calleeOf, lateOk, belowV, aop, AV.ofValue, AV.ofCell, AV.cells, AV.flat, AV.one, arep, aBin, aAppend, aConv]
        refine hJ _ _ ⟨k - 1, by omega, _, [(1, .ptr (some (H.length, 0))), (2, .ptr (some (H.length + 1, 0))), (3, .ptr (some (H.length + 2, 0))), (4, .int .i64 ((i + 1 : Nat) : Int))], H ++ [.cells true 0 [.int .i64 x, .int .i64 y, .sl (some (b, 0)) n cap], .cells true 0 [.int .i64 0, .int .i64 0, .sl none 0 (some 0)], .cells true 0 [.int .i64 x, .int .i64 y, .sl none 0 (some 0)], .dead], ⟨i + 1, .sl none 0 (some 0), .dead, by omega, by rw [hst]; exact .inl ⟨rfl, rfl, rfl⟩, rfl, rfl⟩, Abs.by hbel [0, 1, 2, 3] (by decide) ?_⟩
        exact absT
      have hst2 : putL [] (gp l i) = putC [] (nrm (gp l i)) := by unfold putL; rw [if_neg hz]
      rw [hst2] at hst
      have hpl := (putC_len (nrm_up hz) hcan.sorted hcan.ups).2
      rw [putV_pos hz hpl] at hput
      simp only [List.length_append, List.length_cons, List.length_nil, Nat.zero_add, Nat.reduceAdd] at hput
      generalize putC [] (nrm (gp l i)) = L2 at *
      simp -implicitDefEqProofs (disch := omega) only [hii, hb0, q0, simprocAttr, amset, tyset, Function.comp_apply, one1, lenV, calleeOf, lateOk, belowV, aop, AV.ofValue, AV.ofCell, AV.cells, AV.flat, AV.one, arep, aBin, aAppend, aConv]
      repeat refine And.intro (by omega) ?_
      refine call_x (by kernel_rfl) (by simp) hput ?_
      simp -implicitDefEqProofs (disch := omega) only [simprocAttr, amset, tyset, Function.comp_apply, one1, lenV, calleeOf, lateOk, belowV, aop, AV.ofValue, AV.ofCell, AV.cells, AV.flat, AV.one, arep, aBin, aAppend, aConv]
      refine hJ _ _ ⟨k - 1, by omega, _, [(1, .ptr (some (H.length, 0))), (2, .ptr (some (H.length + 1, 0))), (3, .ptr (some (H.length + 2, 0))), (4, .int .i64 ((i + 1 : Nat) : Int))], H ++ [.cells true 0 [.int .i64 x, .int .i64 y, .sl (some (b, 0)) n cap], .cells true 0 [.int .i64 0, .int .i64 0, .sl none 0 (some 0)], .cells true 0 [.int .i64 x, .int .i64 y, .sl (some (H.length + 3, 0)) L2.length none], .cells true 2 (prs L2)], ⟨i + 1, .sl (some (H.length + 3, 0)) L2.length none, .cells true 2 (prs L2), by omega, by rw [hst]; exact .inr ⟨hpl, rfl, rfl⟩, rfl, rfl⟩, Abs.by hbel [0, 1, 2, 4] (by decide) ?_⟩
      exact absT
    have hput := put_c (H ++ [.cells true 0 [.int .i64 x, .int .i64 y, .sl (some (b, 0)) n cap], .cells true 0 [.int .i64 0, .int .i64 0, .sl none 0 (some 0)], .cells true 0 [.int .i64 x, .int .i64 y, .sl (some (H.length + 3, 0)) L.length none], .cells true 2 (prs L)]) (.sl (some (H.length + 3, 0)) L.length none) L (.inr ⟨H.length + 3, true, none, rfl, by rw [get_newk]; rfl⟩) (by omega) hmb2 (gp l i) hgb
    by_cases hz : nrm (gp l i) = (0, 0)
    · have hst2 : putL L (gp l i) = L := by unfold putL; rw [if_pos hz]
      rw [hst2] at hst
      rw [putV_zero hz] at hput
      simp -implicitDefEqProofs (disch := omega) only [hii, hb0, q0, simprocAttr, amset, tyset, Function.comp_apply, one1, lenV, calleeOf, lateOk, belowV, aop, AV.ofValue, AV.ofCell, AV.cells, AV.flat, AV.one, arep, aBin, aAppend, aConv]
      repeat refine And.intro (by omega) ?_
      refine call_d (by kernel_rfl) hput ?_
      simp -implicitDefEqProofs (disch := omega) only [simprocAttr, amset, tyset, Function.comp_apply, one1, lenV, calleeOf, lateOk, belowV, aop, AV.ofValue, AV.ofCell, AV.cells, AV.flat, AV.one, arep, aBin, aAppend, aConv]
      refine hJ _ _ ⟨k - 1, by omega, _, [(1, .ptr (some (H.length, 0))), (2, .ptr (some (H.length + 1, 0))), (3, .ptr (some (H.length + 2, 0))), (4, .int .i64 ((i + 1 : Nat) : Int))], H ++ [.cells true 0 [.int .i64 x, .int .i64 y, .sl (some (b, 0)) n cap], .cells true 0 [.int .i64 0, .int .i64 0, .sl none 0 (some 0)], .cells true 0 [.int .i64 x, .int .i64 y, .sl (some (H.length + 3, 0)) L.length none], .cells true 2 (prs L)], ⟨i + 1, .sl (some (H.length + 3, 0)) L.length none, .cells true 2 (prs L), by omega, by rw [hst]; exact .inr ⟨hL1, rfl, rfl⟩, rfl, rfl⟩, Abs.by hbel [0, 1, 2, 3] (by decide) ?_⟩
      exact absT
    have hst2 : putL L (gp l i) = putC L (nrm (gp l i)) := by unfold putL; rw [if_neg hz]
    rw [hst2] at hst
    have hpl := (putC_len (nrm_up hz) hcan.sorted hcan.ups).2
    rw [putV_pos hz hpl] at hput
    simp only [List.length_append, List.length_cons, List.length_nil, Nat.zero_add, Nat.reduceAdd] at hput
    generalize putC L (nrm (gp l i)) = L2 at *
    simp -implicitDefEqProofs (disch := omega) only [hii, hb0, q0, simprocAttr, amset, tyset, Function.comp_apply, one1, lenV, calleeOf, lateOk, belowV, aop, AV.ofValue, AV.ofCell, AV.cells, AV.flat, AV.one, arep, aBin, aAppend, aConv]
    repeat refine And.intro (by omega) ?_
    refine call_x (by kernel_rfl) (by simp) hput ?_
    simp -implicitDefEqProofs (disch := omega) only [simprocAttr, amset, tyset, Function.comp_apply, one1, lenV, calleeOf, lateOk, belowV, aop, AV.ofValue, AV.ofCell, AV.cells, AV.flat, AV.one, arep, aBin, aAppend, aConv]
    refine hJ _ _ ⟨k - 1, by omega, _, [(1, .ptr (some (H.length, 0))), (2, .ptr (some (H.length + 1, 0))), (3, .ptr (some (H.length + 2, 0))), (4, .int .i64 ((i + 1 : Nat) : Int))], H ++ [.cells true 0 [.int .i64 x, .int .i64 y, .sl (some (b, 0)) n cap], .cells true 0 [.int .i64 0, .int .i64 0, .sl none 0 (some 0)], .cells true 0 [.int .i64 x, .int .i64 y, .sl (some (H.length + 3, 0)) L2.length none], .cells true 2 (prs L2)], ⟨i + 1, .sl (some (H.length + 3, 0)) L2.length none, .cells true 2 (prs L2), by omega, by rw [hst]; exact .inr ⟨hpl, rfl, rfl⟩, rfl, rfl⟩, Abs.by hbel [0, 1, 2, 4] (by decide) ?_⟩
    exact absT
  have hnn : ¬ ((i : Int) < (n : Int)) := by omega
  rw [List.take_of_length_le (by omega)] at hO
  rcases hO with ⟨h, rfl, rfl⟩ | ⟨h, rfl, rfl⟩
  · rw [h, retP_nil] at hQ
    simp -implicitDefEqProofs (disch := omega) only [hnn, simprocAttr, amset, tyset, Function.comp_apply, one1, lenV, calleeOf, lateOk, belowV, aop, AV.ofValue, AV.ofCell, AV.cells, AV.flat, AV.one, arep, aBin, aAppend, aConv]
    exact hQ _ _ (end_plain (.inl rfl) hbel (x := .agg [.int .i64 x, .int .i64 y, .sl none 0 (some 0)]) (resT Try.results30) rfl ⟨rfl, rfl⟩)
  rw [retP_pos h] at hQ
  simp -implicitDefEqProofs (disch := omega) only [hnn, simprocAttr, amset, tyset, Function.comp_apply, one1, lenV, calleeOf, lateOk, belowV, aop, AV.ofValue, AV.ofCell, AV.cells, AV.flat, AV.one, arep, aBin, aAppend, aConv]
  refine hQ _ _ (end_by (.inl rfl) hbel (x1 := .agg [.int .i64 x, .int .i64 y, .sl (some (H.length + 3, 0)) (canonL l).length none]) (.agg [.int .i64 x, .int .i64 y, .sl (some (H.length, 0)) (canonL l).length none]) (resT Try.results30) [3] (by decide) ⟨rfl, rfl⟩ ?_)
  exact absT
open Go.RowKit
theorem take_snoc {α : Type} {l : List α} {i : Nat} (h : i < l.length) : l.take (i + 1) = l.take i ++ [l[i]] := List.take_succ_eq_append_getElem h
theorem take_eq_step {l m : List (Int × Int)} {i : Nat} (h1 : i < l.length) (h2 : i < m.length) (h : l.take i = m.take i) (e1 : g1 l i = g1 m i) (e2 : g2 l i = g2 m i) : l.take (i + 1) = m.take (i + 1) := by
  rw [take_snoc h1, take_snoc h2, h, ← gp_eq h1, ← gp_eq h2, gp, gp, e1, e2]
set_option maxRecDepth 100000 in
theorem points_c (H : AHeap) (s1 s2 : AV) (l m : List (Int × Int)) (h1 : IsP H s1 l) (h2 : IsP H s2 m) (hl : l.length ≤ 1000000) (hm : m.length ≤ 1000000) :
    ACalls Try.prog 32 [s1, s2] H (fun v H' => v = .bool (decide (l = m)) ∧ H' = H) := by
  have hs1 : ∃ a c, s1 = .sl a l.length c := by
    rcases h1 with ⟨rfl, rfl⟩ | ⟨b, own, cap, rfl, hb⟩
    · exact ⟨_, _, rfl⟩
    exact ⟨_, _, rfl⟩
  have hs2 : ∃ a c, s2 = .sl a m.length c := by
    rcases h2 with ⟨rfl, rfl⟩ | ⟨b, own, cap, rfl, hb⟩
    · exact ⟨_, _, rfl⟩
    exact ⟨_, _, rfl⟩
  obtain ⟨a1, c1, rfl⟩ := hs1
  obtain ⟨a2, c2, rfl⟩ := hs2
  by_cases hlm : l.length = m.length
  · have hne : ((l.length : Int) != (m.length : Int)) = false := by simp [hlm]
    rcases Nat.eq_zero_or_pos l.length with h0 | h0
    · have e1 : l = [] := List.eq_nil_of_length_eq_zero h0
      have e2 : m = [] := List.eq_nil_of_length_eq_zero (by omega)
      subst e1 e2
      (refine ACalls_run try_mixed Try.func32 true _ rfl (Nat.le_of_ble_eq_true (by kernel_rfl)) (by kernel_rfl) ?_; intro hbel Q hQ hQ' c hc; unfold Try.f32 at hc; simp only [Option.some.injEq] at hc; subst hc; clear hQ')
      simp -implicitDefEqProofs (disch := omega) only [List.length_nil, simprocAttr, amset, tyset, Function.comp_apply, one1, lenV, calleeOf, lateOk, belowV, aop, AV.ofValue, AV.ofCell, AV.cells, AV.flat, AV.one, arep, aBin, aAppend, aConv]
      refine go_loop try_mixed (by kernel_rfl) (fun k F Hx => F = [(0, .sl a1 0 c1), (5, .int .i64 0)] ∧ Hx = H) 1 ?_ ?_
      · refine ⟨_, _, _, ⟨rfl, rfl⟩, Abs.by0 hbel ?_⟩
        rcases h1 with ⟨-, h⟩ | ⟨b, own, cap, h, hb⟩
        · injection h with h _ h'
          subst h h'
          exact absT
        injection h with h _ h'
        subst h h'
        have hbb := getElem?_lt ‹H[b]? = _›
        exact absT
      rintro k F Hx ⟨rfl, rfl⟩ J hJ
      simp -implicitDefEqProofs (disch := omega) only [Int.lt_irrefl, simprocAttr, amset, tyset, Function.comp_apply, one1, lenV, calleeOf, lateOk, belowV, aop, AV.ofValue, AV.ofCell, AV.cells, AV.flat, AV.one, arep, aBin, aAppend, aConv]
      exact hQ _ _ (end_plain0 (.inl rfl) hbel (x := .bool true) (resT Try.results32) rfl ⟨rfl, rfl⟩)
    obtain ⟨b, own, cap, e1, hb⟩ := h1.resolve_left (fun h => by rw [h.1] at h0; simp at h0)
    injection e1 with e1 _ e1'; subst e1 e1'
    obtain ⟨b', own', cap', e2, hb'⟩ := h2.resolve_left (fun h => by rw [h.1] at hlm; simp at hlm; rw [hlm] at h0; simp at h0)
    injection e2 with e2 _ e2'; subst e2 e2'
    have hbl := getElem?_lt hb
    have hbl' := getElem?_lt hb'
    (refine ACalls_run try_mixed Try.func32 true _ rfl (Nat.le_of_ble_eq_true (by kernel_rfl)) (by kernel_rfl) ?_; intro hbel Q hQ hQ' c hc; unfold Try.f32 at hc; simp only [Option.some.injEq] at hc; subst hc; clear hQ')
    simp -implicitDefEqProofs (disch := omega) only [hne, simprocAttr, amset, tyset, Function.comp_apply, one1, lenV, calleeOf, lateOk, belowV, aop, AV.ofValue, AV.ofCell, AV.cells, AV.flat, AV.one, arep, aBin, aAppend, aConv]
    refine go_loop try_mixed (by kernel_rfl) (fun k F Hx => ∃ i : Nat, i + k = l.length ∧ l.take i = m.take i ∧ F = [(0, .sl (some (b, 0)) l.length none), (1, .sl (some (b', 0)) m.length none), (5, .int .i64 (i : Nat))] ∧ Hx = H) l.length ?_ ?_
    · refine ⟨_, _, _, ⟨0, by omega, rfl, rfl, rfl⟩, Abs.by0 hbel ?_⟩
      exact absT
    rintro k F Hx ⟨i, hik, ht, rfl, rfl⟩ J hJ
    by_cases hi : i < l.length
    · have hii : (i : Int) < (l.length : Int) := by omega
      have q1 := prs_load hi
      have q2 := prs_load (l := m) (j := i) (by omega)
      cases p : (g1 l i == g1 m i && g2 l i == g2 m i)
      · simp -implicitDefEqProofs (disch := omega) only [hii, hb, hb', q1, q2, p, simprocAttr, amset, tyset, Function.comp_apply, one1, lenV, calleeOf, lateOk, belowV, aop, AV.ofValue, AV.ofCell, AV.cells, AV.flat, AV.one, arep, aBin, aAppend, aConv]
        repeat refine And.intro (by omega) ?_
        have hlm : l ≠ m := fun h => by subst h; simp at p
        exact hQ _ _ (end_plain0 (.inl rfl) hbel (x := .bool false) (resT Try.results32) rfl ⟨by simp [hlm], rfl⟩)
      simp -implicitDefEqProofs (disch := omega) only [hii, hb, hb', q1, q2, p, simprocAttr, amset, tyset, Function.comp_apply, one1, lenV, calleeOf, lateOk, belowV, aop, AV.ofValue, AV.ofCell, AV.cells, AV.flat, AV.one, arep, aBin, aAppend, aConv]
      repeat refine And.intro (by omega) ?_
      refine hJ _ _ ⟨k - 1, by omega, _, _, _, ⟨i + 1, by omega, ?_, rfl, rfl⟩, Abs.by0 hbel ?_⟩
      · simp at p
        exact take_eq_step hi (by omega) ht p.1 p.2
      exact absT
    have hnn : ¬ ((i : Int) < (l.length : Int)) := by omega
    simp -implicitDefEqProofs (disch := omega) only [hnn, simprocAttr, amset, tyset, Function.comp_apply, one1, lenV, calleeOf, lateOk, belowV, aop, AV.ofValue, AV.ofCell, AV.cells, AV.flat, AV.one, arep, aBin, aAppend, aConv]
    have : l = m := by rwa [List.take_of_length_le (by omega), List.take_of_length_le (by omega)] at ht
    exact hQ _ _ (end_plain0 (.inl rfl) hbel (x := .bool true) (resT Try.results32) rfl ⟨by simp [this], rfl⟩)
  have hne : ((l.length : Int) != (m.length : Int)) = true := by simp; omega
  (refine ACalls_run try_mixed Try.func32 true _ rfl (Nat.le_of_ble_eq_true (by kernel_rfl)) (by kernel_rfl) ?_; intro hbel Q hQ hQ' c hc; unfold Try.f32 at hc; simp only [Option.some.injEq] at hc; subst hc; clear hQ')
  simp -implicitDefEqProofs (disch := omega) only [hne, simprocAttr, amset, tyset, Function.comp_apply, one1, lenV, calleeOf, lateOk, belowV, aop, AV.ofValue, AV.ofCell, AV.cells, AV.flat, AV.one, arep, aBin, aAppend, aConv]
  exact hQ _ _ (end_plain0 (.inl rfl) hbel (x := .bool false) (resT Try.results32) rfl ⟨by simp; intro h; exact hlm (by rw [h]), rfl⟩)
set_option maxRecDepth 100000 in
theorem zonogons_c (H : AHeap) (x1 y1 x2 y2 : Int) (s1 s2 : AV) (l m : List Pt) (h1 : IsP H s1 l) (h2 : IsP H s2 m) (hl : l.length ≤ 1000000) (hm : m.length ≤ 1000000) :
    ACalls Try.prog 8 [.agg [.int .i64 x1, .int .i64 y1, s1], .agg [.int .i64 x2, .int .i64 y2, s2]] H (fun v H' => v = .bool (x1 == x2 && y1 == y2 && decide (l = m)) ∧ H' = H) := by
  have key := fun l' => points_c (H ++ l') s1 s2 l m (h1.app l') (h2.app l') hl hm
  obtain ⟨a1, c1, rfl⟩ := h1.parts
  obtain ⟨a2, c2, rfl⟩ := h2.parts
  (refine ACalls_run try_mixed Try.func8 true _ rfl (Nat.le_of_ble_eq_true (by kernel_rfl)) (by kernel_rfl) ?_; intro hbel Q hQ hQ' c hc; unfold Try.f8 at hc; simp only [Option.some.injEq] at hc; subst hc; clear hQ')
  cases e1 : (x1 == x2)
  · simp -implicitDefEqProofs (disch := omega) only [e1, simprocAttr, amset, tyset, Function.comp_apply, one1, lenV, calleeOf, lateOk, belowV, aop, AV.ofValue, AV.ofCell, AV.cells, AV.flat, AV.one, arep, aBin, aAppend, aConv]
    exact hQ _ _ (end_plain (.inl rfl) hbel (x := .bool false) (resT Try.results8) rfl ⟨by rw [e1]; rfl, rfl⟩)
  cases e2 : (y1 == y2)
  · simp -implicitDefEqProofs (disch := omega) only [e1, e2, simprocAttr, amset, tyset, Function.comp_apply, one1, lenV, calleeOf, lateOk, belowV, aop, AV.ofValue, AV.ofCell, AV.cells, AV.flat, AV.one, arep, aBin, aAppend, aConv]
    exact hQ _ _ (end_plain (.inl rfl) hbel (x := .bool false) (resT Try.results8) rfl ⟨by rw [e1, e2]; rfl, rfl⟩)
  simp -implicitDefEqProofs (disch := omega) only [e1, e2, simprocAttr, amset, tyset, Function.comp_apply, one1, lenV, calleeOf, lateOk, belowV, aop, AV.ofValue, AV.ofCell, AV.cells, AV.flat, AV.one, arep, aBin, aAppend, aConv]
  refine call_v (by kernel_rfl) (key _) ?_
  simp -implicitDefEqProofs (disch := omega) only [simprocAttr, amset, tyset, Function.comp_apply, one1, lenV, calleeOf, lateOk, belowV, aop, AV.ofValue, AV.ofCell, AV.cells, AV.flat, AV.one, arep, aBin, aAppend, aConv]
  exact hQ _ _ (end_plain (.inl rfl) hbel (x := .bool (decide (l = m))) (resT Try.results8) rfl ⟨by rw [e1, e2]; rfl, rfl⟩)
open Go.RowKit
theorem within_iff {x m : Int} : within x m = true ↔ -m ≤ x ∧ x ≤ m := by unfold within; simp
def far4 (a b c d : Int) : Bool := within a 2097152 && within b 2097152 && within c 2097152 && within d 2097152
theorem far4_any (a b c d : Int) : (!([a, b, c, d] : List Int).any farB) = far4 a b c d := by
  simp only [List.any_cons, List.any_nil, farB, nearB, far4]
  cases within a 2097152 <;> cases within b 2097152 <;> cases within c 2097152 <;> cases within d 2097152 <;> rfl
theorem far4_bd {a b c d : Int} (h : far4 a b c d = true) : (-2097152 ≤ a ∧ a ≤ 2097152) ∧ (-2097152 ≤ b ∧ b ≤ 2097152) ∧ (-2097152 ≤ c ∧ c ≤ 2097152) ∧ (-2097152 ≤ d ∧ d ≤ 2097152) := by
  unfold far4 at h
  simp only [Bool.and_eq_true, within_iff] at h
  exact ⟨h.1.1.1, h.1.1.2, h.1.2, h.2⟩
/-- A zonogon handed back. -/
def zR (H : AHeap) (x y : Int) (L : List Pt) : AV × AHeap := (.agg [.int .i64 x, .int .i64 y, (retP H L).1], (retP H L).2)
theorem zR_nil {H : AHeap} {x y : Int} : zR H x y [] = (.agg [.int .i64 x, .int .i64 y, .sl none 0 (some 0)], H) := rfl
theorem zR_pos {H : AHeap} {x y : Int} {L : List Pt} (h : 0 < L.length) : zR H x y L = (.agg [.int .i64 x, .int .i64 y, .sl (some (H.length, 0)) L.length none], H ++ [.cells true 2 (prs L)]) := by unfold zR; rw [retP_pos h]
set_option maxRecDepth 100000 in
theorem canonical0_c (H : AHeap) (x y : Int) : ACalls Try.prog 22 [.agg [.int .i64 x, .int .i64 y, .sl none 0 (some 0)]] H (fun v H' => v = .agg [.int .i64 x, .int .i64 y, .sl none 0 (some 0)] ∧ H' = H) := by
  (refine ACalls_run try_mixed Try.func22 true _ rfl (Nat.le_of_ble_eq_true (by kernel_rfl)) (by kernel_rfl) ?_; intro hbel Q hQ hQ' c hc; unfold Try.f22 at hc; simp only [Option.some.injEq] at hc; subst hc; clear hQ')
  simp -implicitDefEqProofs (disch := omega) only [simprocAttr, amset, tyset, Function.comp_apply, one1, lenV, calleeOf, lateOk, belowV, aop, AV.ofValue, AV.ofCell, AV.cells, AV.flat, AV.one, arep, aBin, aAppend, aConv]
  refine go_loop try_mixed (by kernel_rfl) (fun k F Hx => F = [(1, .ptr (some (H.length, 0))), (2, .ptr (some (H.length + 1, 0))), (3, .sl none 0 (some 0)), (12, .int .i64 0), (13, .int .i64 0)] ∧ Hx = H ++ [.cells true 0 [.int .i64 x, .int .i64 y, .sl none 0 (some 0)], .cells true 0 [.int .i64 0, .int .i64 0, .sl none 0 (some 0)]]) 1 ?_ ?_
  · refine ⟨_, _, _, ⟨rfl, rfl⟩, Abs.by hbel [0, 1] (by decide) ?_⟩
    exact absT
  rintro k F Hx ⟨rfl, rfl⟩ J hJ
  simp -implicitDefEqProofs (disch := omega) only [Int.lt_irrefl, simprocAttr, amset, tyset, Function.comp_apply, one1, lenV, calleeOf, lateOk, belowV, aop, AV.ofValue, AV.ofCell, AV.cells, AV.flat, AV.one, arep, aBin, aAppend, aConv]
  refine call_v (by kernel_rfl) (sortnil_c _) ?_
  simp -implicitDefEqProofs (disch := omega) only [simprocAttr, amset, tyset, Function.comp_apply, one1, lenV, calleeOf, lateOk, belowV, aop, AV.ofValue, AV.ofCell, AV.cells, AV.flat, AV.one, arep, aBin, aAppend, aConv]
  refine go_loop try_mixed (by kernel_rfl) (fun k F Hx => F = [(2, .ptr (some (H.length, 0))), (6, .ptr (some (H.length + 1, 0))), (53, .int .i64 0), (54, .int .i64 0)] ∧ Hx = H ++ [.cells true 0 [.int .i64 0, .int .i64 0, .sl none 0 (some 0)], .cells true 0 [.int .i64 x, .int .i64 y, .sl none 0 (some 0)]]) 1 ?_ ?_
  · refine ⟨_, _, _, ⟨rfl, rfl⟩, Abs.by hbel [1, 2] (by decide) ?_⟩
    exact absT
  rintro k F Hx ⟨rfl, rfl⟩ J hJ
  simp -implicitDefEqProofs (disch := omega) only [Int.lt_irrefl, simprocAttr, amset, tyset, Function.comp_apply, one1, lenV, calleeOf, lateOk, belowV, aop, AV.ofValue, AV.ofCell, AV.cells, AV.flat, AV.one, arep, aBin, aAppend, aConv]
  exact hQ _ _ (end_plain (.inl rfl) hbel (x := .agg [.int .i64 x, .int .i64 y, .sl none 0 (some 0)]) (resT Try.results22) rfl ⟨rfl, rfl⟩)
theorem rcanon0_c (H : AHeap) (x y : Int) : ACalls Try.prog 30 [.agg [.int .i64 x, .int .i64 y, .sl none 0 (some 0)]] H (fun v H' => v = .agg [.int .i64 x, .int .i64 y, .sl none 0 (some 0)] ∧ H' = H) := by
  (refine ACalls_run try_mixed Try.func30 false _ rfl (Nat.le_of_ble_eq_true (by kernel_rfl)) (by kernel_rfl) ?_; intro hbel Q hQ hQ' c hc; unfold Try.f30 at hc; simp only [Option.some.injEq] at hc; subst hc; clear hQ')
  simp -implicitDefEqProofs (disch := omega) only [simprocAttr, amset, tyset, Function.comp_apply, one1, lenV, calleeOf, lateOk, belowV, aop, AV.ofValue, AV.ofCell, AV.cells, AV.flat, AV.one, arep, aBin, aAppend, aConv]
  refine go_loop try_mixed (by kernel_rfl) (fun k F Hx => F = [(1, .ptr (some (H.length, 0))), (2, .ptr (some (H.length + 1, 0))), (3, .ptr (some (H.length + 2, 0))), (4, .int .i64 0)] ∧ Hx = H ++ [.cells true 0 [.int .i64 x, .int .i64 y, .sl none 0 (some 0)], .cells true 0 [.int .i64 0, .int .i64 0, .sl none 0 (some 0)], .cells true 0 [.int .i64 x, .int .i64 y, .sl none 0 (some 0)]]) 1 ?_ ?_
  · refine ⟨_, _, _, ⟨rfl, rfl⟩, Abs.by hbel [0, 1, 2] (by decide) ?_⟩
    exact absT
  rintro k F Hx ⟨rfl, rfl⟩ J hJ
  simp -implicitDefEqProofs (disch := omega) only [Int.lt_irrefl, simprocAttr, amset, tyset, Function.comp_apply, one1, lenV, calleeOf, lateOk, belowV, aop, AV.ofValue, AV.ofCell, AV.cells, AV.flat, AV.one, arep, aBin, aAppend, aConv]
  exact hQ _ _ (end_plain (.inl rfl) hbel (x := .agg [.int .i64 x, .int .i64 y, .sl none 0 (some 0)]) (resT Try.results30) rfl ⟨rfl, rfl⟩)
theorem canonical_a (H : AHeap) (x y : Int) (s : AV) (l : List Pt) (hs : IsP H s l) (hl : l.length ≤ 40) (hB : ∀ e ∈ l, Bd 4194304 e) :
    ACalls Try.prog 22 [.agg [.int .i64 x, .int .i64 y, s]] H (fun v H' => v = (zR H x y (canonL l)).1 ∧ H' = (zR H x y (canonL l)).2) := by
  rcases hs with ⟨rfl, rfl⟩ | ⟨b, own, cap, rfl, hb⟩
  · exact canonical0_c H x y
  exact canonical_c H x y b own cap l hb hl hB
theorem rcanon_a (H : AHeap) (x y : Int) (s : AV) (l : List Pt) (hs : IsP H s l) (hl : l.length ≤ 40) (hB : ∀ e ∈ l, Bd 4194304 e) :
    ACalls Try.prog 30 [.agg [.int .i64 x, .int .i64 y, s]] H (fun v H' => v = (zR H x y (canonL l)).1 ∧ H' = (zR H x y (canonL l)).2) := by
  rcases hs with ⟨rfl, rfl⟩ | ⟨b, own, cap, rfl, hb⟩
  · exact rcanon0_c H x y
  exact rcanon_c H x y b own cap l hb hl hB
set_option maxRecDepth 100000 in
theorem equal_c (H : AHeap) (s1 s2 : AV) (l m : List (Int × Int)) (h1 : IsP H s1 l) (h2 : IsP H s2 m) (hl : l.length ≤ 1000000) (hm : m.length ≤ 1000000) :
    ACalls Try.prog 40 [s1, s2] H (fun v H' => v = .bool (decide (l = m)) ∧ H' = H) := by
  have hs1 : ∃ a c, s1 = .sl a l.length c := by
    rcases h1 with ⟨rfl, rfl⟩ | ⟨b, own, cap, rfl, hb⟩
    · exact ⟨_, _, rfl⟩
    exact ⟨_, _, rfl⟩
  have hs2 : ∃ a c, s2 = .sl a m.length c := by
    rcases h2 with ⟨rfl, rfl⟩ | ⟨b, own, cap, rfl, hb⟩
    · exact ⟨_, _, rfl⟩
    exact ⟨_, _, rfl⟩
  obtain ⟨a1, c1, rfl⟩ := hs1
  obtain ⟨a2, c2, rfl⟩ := hs2
  by_cases hlm : l.length = m.length
  · have hne : ((l.length : Int) != (m.length : Int)) = false := by simp [hlm]
    rcases Nat.eq_zero_or_pos l.length with h0 | h0
    · have e1 : l = [] := List.eq_nil_of_length_eq_zero h0
      have e2 : m = [] := List.eq_nil_of_length_eq_zero (by omega)
      subst e1 e2
      (refine ACalls_run try_mixed Try.func40 true _ rfl (Nat.le_of_ble_eq_true (by kernel_rfl)) (by kernel_rfl) ?_; intro hbel Q hQ hQ' c hc; unfold Try.f40 at hc; simp only [Option.some.injEq] at hc; subst hc; clear hQ')
      simp -implicitDefEqProofs (disch := omega) only [List.length_nil, simprocAttr, amset, tyset, Function.comp_apply, one1, lenV, calleeOf, lateOk, belowV, aop, AV.ofValue, AV.ofCell, AV.cells, AV.flat, AV.one, arep, aBin, aAppend, aConv]
      refine go_loop try_mixed (by kernel_rfl) (fun k F Hx => F = [(0, .sl a1 0 c1), (12, .int .i64 0), (13, .int .i64 0)] ∧ Hx = H) 1 ?_ ?_
      · refine ⟨_, _, _, ⟨rfl, rfl⟩, Abs.by0 hbel ?_⟩
        rcases h1 with ⟨-, h⟩ | ⟨b, own, cap, h, hb⟩
        · injection h with h _ h'
          subst h h'
          exact absT
        injection h with h _ h'
        subst h h'
        have hbb := getElem?_lt ‹H[b]? = _›
        exact absT
      rintro k F Hx ⟨rfl, rfl⟩ J hJ
      simp -implicitDefEqProofs (disch := omega) only [Int.lt_irrefl, simprocAttr, amset, tyset, Function.comp_apply, one1, lenV, calleeOf, lateOk, belowV, aop, AV.ofValue, AV.ofCell, AV.cells, AV.flat, AV.one, arep, aBin, aAppend, aConv]
      exact hQ _ _ (end_plain0 (.inl rfl) hbel (x := .bool true) (resT Try.results40) rfl ⟨rfl, rfl⟩)
    obtain ⟨b, own, cap, e1, hb⟩ := h1.resolve_left (fun h => by rw [h.1] at h0; simp at h0)
    injection e1 with e1 _ e1'; subst e1 e1'
    obtain ⟨b', own', cap', e2, hb'⟩ := h2.resolve_left (fun h => by rw [h.1] at hlm; simp at hlm; rw [hlm] at h0; simp at h0)
    injection e2 with e2 _ e2'; subst e2 e2'
    have hbl := getElem?_lt hb
    have hbl' := getElem?_lt hb'
    (refine ACalls_run try_mixed Try.func40 true _ rfl (Nat.le_of_ble_eq_true (by kernel_rfl)) (by kernel_rfl) ?_; intro hbel Q hQ hQ' c hc; unfold Try.f40 at hc; simp only [Option.some.injEq] at hc; subst hc; clear hQ')
    simp -implicitDefEqProofs (disch := omega) only [hne, simprocAttr, amset, tyset, Function.comp_apply, one1, lenV, calleeOf, lateOk, belowV, aop, AV.ofValue, AV.ofCell, AV.cells, AV.flat, AV.one, arep, aBin, aAppend, aConv]
    refine go_loop try_mixed (by kernel_rfl) (fun k F Hx => ∃ i : Nat, i + k = l.length ∧ l.take i = m.take i ∧ F = [(0, .sl (some (b, 0)) l.length none), (1, .sl (some (b', 0)) m.length none), (12, .int .i64 l.length), (13, .int .i64 (i : Nat))] ∧ Hx = H) l.length ?_ ?_
    · refine ⟨_, _, _, ⟨0, by omega, rfl, rfl, rfl⟩, Abs.by0 hbel ?_⟩
      exact absT
    rintro k F Hx ⟨i, hik, ht, rfl, rfl⟩ J hJ
    by_cases hi : i < l.length
    · have hii : (i : Int) < (l.length : Int) := by omega
      have q1 := prs_load hi
      have q2 := prs_load (l := m) (j := i) (by omega)
      cases p : (g1 l i == g1 m i && g2 l i == g2 m i)
      · simp -implicitDefEqProofs (disch := omega) only [hii, hb, hb', q1, q2, p, simprocAttr, amset, tyset, Function.comp_apply, one1, lenV, calleeOf, lateOk, belowV, aop, AV.ofValue, AV.ofCell, AV.cells, AV.flat, AV.one, arep, aBin, aAppend, aConv]
        repeat refine And.intro (by omega) ?_
        have hlm : l ≠ m := fun h => by subst h; simp at p
        exact hQ _ _ (end_plain0 (.inl rfl) hbel (x := .bool false) (resT Try.results40) rfl ⟨by simp [hlm], rfl⟩)
      simp -implicitDefEqProofs (disch := omega) only [hii, hb, hb', q1, q2, p, simprocAttr, amset, tyset, Function.comp_apply, one1, lenV, calleeOf, lateOk, belowV, aop, AV.ofValue, AV.ofCell, AV.cells, AV.flat, AV.one, arep, aBin, aAppend, aConv]
      repeat refine And.intro (by omega) ?_
      refine hJ _ _ ⟨k - 1, by omega, _, _, _, ⟨i + 1, by omega, ?_, rfl, rfl⟩, Abs.by0 hbel ?_⟩
      · simp at p
        exact take_eq_step hi (by omega) ht p.1 p.2
      exact absT
    have hnn : ¬ ((i : Int) < (l.length : Int)) := by omega
    simp -implicitDefEqProofs (disch := omega) only [hnn, simprocAttr, amset, tyset, Function.comp_apply, one1, lenV, calleeOf, lateOk, belowV, aop, AV.ofValue, AV.ofCell, AV.cells, AV.flat, AV.one, arep, aBin, aAppend, aConv]
    have : l = m := by rwa [List.take_of_length_le (by omega), List.take_of_length_le (by omega)] at ht
    exact hQ _ _ (end_plain0 (.inl rfl) hbel (x := .bool true) (resT Try.results40) rfl ⟨by simp [this], rfl⟩)
  have hne : ((l.length : Int) != (m.length : Int)) = true := by simp; omega
  (refine ACalls_run try_mixed Try.func40 true _ rfl (Nat.le_of_ble_eq_true (by kernel_rfl)) (by kernel_rfl) ?_; intro hbel Q hQ hQ' c hc; unfold Try.f40 at hc; simp only [Option.some.injEq] at hc; subst hc; clear hQ')
  simp -implicitDefEqProofs (disch := omega) only [hne, simprocAttr, amset, tyset, Function.comp_apply, one1, lenV, calleeOf, lateOk, belowV, aop, AV.ofValue, AV.ofCell, AV.cells, AV.flat, AV.one, arep, aBin, aAppend, aConv]
  exact hQ _ _ (end_plain0 (.inl rfl) hbel (x := .bool false) (resT Try.results40) rfl ⟨by simp; intro h; exact hlm (by rw [h]), rfl⟩)

theorem valid_bd {x y : Int} {l : List Pt} (h : validB x y l = true) : l.length ≤ 16 ∧ ∀ e ∈ l, Bd 65536 e := by
  unfold validB at h
  simp only [Bool.and_eq_true, decide_eq_true_eq, Bool.not_eq_true'] at h
  refine ⟨h.1.2, fun e he => ?_⟩
  have := List.any_eq_false.1 h.2 e he
  simp only [wrongB, Bool.not_eq_true', Bool.not_eq_false, Bool.and_eq_true, within_iff] at this
  exact ⟨this.1.1, this.1.2, this.2.1, this.2.2⟩
open Go.RowKit
def dotP (n g : Pt) : Int := n.1 * g.1 + n.2 * g.2
def spr (n : Pt) : List Pt → Int
  | [] => 0
  | g :: l => absI (dotP n g) + spr n l
theorem spr_app (n : Pt) : ∀ l m : List Pt, spr n (l ++ m) = spr n l + spr n m
  | [], m => by simp [spr]
  | g :: l, m => by simp only [List.cons_append, spr, spr_app n l m]; omega
theorem absI_bd {x M : Int} (h : -M ≤ x ∧ x ≤ M) : 0 ≤ absI x ∧ absI x ≤ M := by unfold absI; split <;> omega
theorem dotP_bd {a b : Pt} {A B : Int} (h1 : Bd A a) (h2 : Bd B b) : (-(A * B) ≤ a.1 * b.1 ∧ a.1 * b.1 ≤ A * B) ∧ (-(A * B) ≤ a.2 * b.2 ∧ a.2 * b.2 ≤ A * B) :=
  ⟨mul_bd ⟨h1.1, h1.2.1⟩ ⟨h2.1, h2.2.1⟩, mul_bd ⟨h1.2.2.1, h1.2.2.2⟩ ⟨h2.2.2.1, h2.2.2.2⟩⟩
theorem spr_bd {n : Pt} (hn : Bd 268435456 n) : ∀ l : List Pt, (∀ e ∈ l, Bd 268435456 e) → 0 ≤ spr n l ∧ spr n l ≤ l.length * 144115188075855872
  | [], _ => by simp [spr]
  | g :: l, h => by
    have ih := spr_bd hn l fun e he => h e (by simp [he])
    have hd := dotP_bd hn (h g (by simp))
    have ha := absI_bd (x := dotP n g) (M := 144115188075855872) (by unfold dotP; omega)
    simp only [spr, List.length_cons, Int.natCast_add]
    omega
set_option maxRecDepth 100000 in
theorem spread_c (H : AHeap) (s : AV) (l : List Pt) (n : Pt) (hs : IsP H s l) (hl : l.length ≤ 40) (hB : ∀ e ∈ l, Bd 268435456 e) (hn : Bd 268435456 n) : ACalls Try.prog 35 [s, pv n] H (fun v H' => v = .int .i64 (spr n l) ∧ H' = H) := by
  rcases hs with ⟨rfl, rfl⟩ | ⟨b, own, cap, rfl, hb⟩
  · (refine ACalls_run try_mixed Try.func35 true _ rfl (Nat.le_of_ble_eq_true (by kernel_rfl)) (by kernel_rfl) ?_; intro hbel Q hQ hQ' c hc; unfold Try.f35 at hc; simp only [Option.some.injEq] at hc; subst hc; clear hQ')
    simp -implicitDefEqProofs (disch := omega) only [simprocAttr, amset, tyset, Function.comp_apply, one1, lenV, calleeOf, lateOk, belowV, aop, AV.ofValue, AV.ofCell, AV.cells, AV.flat, AV.one, arep, aBin, aAppend, aConv]
    refine go_loop try_mixed (by kernel_rfl) (fun k F Hx => F = [(5, .int .i64 0), (9, .int .i64 0), (10, .int .i64 0)] ∧ Hx = H) 1 ?_ ?_
    · refine ⟨_, _, _, ⟨rfl, (List.append_nil H).symm ▸ rfl⟩, Abs.by (l2 := []) hbel [] (by decide) ?_⟩
      exact absT
    rintro k F Hx ⟨rfl, rfl⟩ J hJ
    simp -implicitDefEqProofs (disch := omega) only [Int.lt_irrefl, simprocAttr, amset, tyset, Function.comp_apply, one1, lenV, calleeOf, lateOk, belowV, aop, AV.ofValue, AV.ofCell, AV.cells, AV.flat, AV.one, arep, aBin, aAppend, aConv]
    exact hQ _ _ (end_plain0 (.inl rfl) hbel (x := .int .i64 0) (resT Try.results35) rfl ⟨rfl, rfl⟩)
  have hbl := getElem?_lt hb
  have hb0 := fun l => get_app (l := l) hb
  generalize hm : l.length = m at *
  (refine ACalls_run try_mixed Try.func35 true _ rfl (Nat.le_of_ble_eq_true (by kernel_rfl)) (by kernel_rfl) ?_; intro hbel Q hQ hQ' c hc; unfold Try.f35 at hc; simp only [Option.some.injEq] at hc; subst hc; clear hQ')
  simp -implicitDefEqProofs (disch := omega) only [simprocAttr, amset, tyset, Function.comp_apply, one1, lenV, calleeOf, lateOk, belowV, aop, AV.ofValue, AV.ofCell, AV.cells, AV.flat, AV.one, arep, aBin, aAppend, aConv]
  refine go_loop try_mixed (by kernel_rfl) (fun k F Hx => ∃ i : Nat, i + k = m ∧ F = [(3, .ptr (some (H.length, 0))), (5, .int .i64 (spr n (l.take i))), (8, .sl (some (b, 0)) m none), (9, .int .i64 m), (10, .int .i64 (i : Nat))] ∧ Hx = H ++ [.cells true 0 [.int .i64 n.1, .int .i64 n.2]]) m ?_ ?_
  · refine ⟨_, _, _, ⟨0, by omega, rfl, rfl⟩, Abs.by hbel [0] (by decide) ?_⟩
    exact absT
  rintro k F Hx ⟨i, hik, rfl, rfl⟩ J hJ
  by_cases hi : i < l.length
  · have hii : (i : Int) < (m : Int) := by omega
    have q0 := prs_load hi
    have hg : gp l i = l[i] := gp_eq hi
    have hgb := hB l[i] (List.getElem_mem hi)
    rw [← hg] at hgb
    have hd := dotP_bd hn hgb
    have hsb := spr_bd hn (l.take i) fun e he => hB e (List.mem_of_mem_take he)
    have hsl : ((l.take i).length : Int) * 144115188075855872 ≤ 39 * 144115188075855872 := Int.mul_le_mul_of_nonneg_right (by rw [List.length_take]; omega) (by decide)
    have ha := absI_bd (x := dotP n (gp l i)) (M := 144115188075855872) (by unfold dotP; omega)
    have hst : spr n (l.take (i + 1)) = spr n (l.take i) + absI (dotP n (gp l i)) := by rw [List.take_succ_eq_append_getElem hi, spr_app, hg]; simp [spr]
    have hdd : n.1 * g1 l i + n.2 * g2 l i = dotP n (gp l i) := rfl
    have hd2 : (-(268435456 * 268435456) ≤ n.1 * g1 l i ∧ n.1 * g1 l i ≤ 268435456 * 268435456) ∧ (-(268435456 * 268435456) ≤ n.2 * g2 l i ∧ n.2 * g2 l i ≤ 268435456 * 268435456) := hd
    simp -implicitDefEqProofs (disch := omega) only [hii, hb0, q0, simprocAttr, amset, tyset, Function.comp_apply, one1, lenV, calleeOf, lateOk, belowV, aop, AV.ofValue, AV.ofCell, AV.cells, AV.flat, AV.one, arep, aBin, aAppend, aConv]
    repeat refine And.intro (by omega) ?_
    refine call_v (by kernel_rfl) (abs_c _ _ (by omega)) ?_
    rw [hdd]
    simp -implicitDefEqProofs (disch := omega) only [simprocAttr, amset, tyset, Function.comp_apply, one1, lenV, calleeOf, lateOk, belowV, aop, AV.ofValue, AV.ofCell, AV.cells, AV.flat, AV.one, arep, aBin, aAppend, aConv]
    repeat refine And.intro (by omega) ?_
    refine hJ _ _ ⟨k - 1, by omega, _, _, _, ⟨i + 1, by omega, rfl, rfl⟩, Abs.by hbel [0] (by decide) ?_⟩
    rw [hst]
    exact absT
  have hnn : ¬ ((i : Int) < (m : Int)) := by omega
  simp -implicitDefEqProofs (disch := omega) only [hnn, simprocAttr, amset, tyset, Function.comp_apply, one1, lenV, calleeOf, lateOk, belowV, aop, AV.ofValue, AV.ofCell, AV.cells, AV.flat, AV.one, arep, aBin, aAppend, aConv]
  exact hQ _ _ (end_plain (.inl rfl) hbel (x := .int .i64 (spr n (l.take i))) (resT Try.results35) rfl ⟨by rw [List.take_of_length_le (by omega)], rfl⟩)
set_option maxRecDepth 100000 in
theorem clone_c (H : AHeap) (s : AV) (l : List Pt) (hs : IsP H s l) (hl : l.length ≤ 1000000) (h0 : 0 < l.length) : ACalls Try.prog 24 [s] H (fun v H' => v = .sl (some (H.length, 0)) l.length none ∧ H' = H ++ [.cells true 2 (prs l)]) := by
  obtain ⟨b, own, cap, rfl, hb⟩ := hs.pos h0
  have hbl := getElem?_lt hb
  have hb0 := fun l => get_app (l := l) hb
  generalize hm : l.length = m at *
  (refine ACalls_run try_mixed Try.func24 true _ rfl (Nat.le_of_ble_eq_true (by kernel_rfl)) (by kernel_rfl) ?_; intro hbel Q hQ hQ' c hc; unfold Try.f24 at hc; simp only [Option.some.injEq] at hc; subst hc; clear hQ')
  have htk : List.take (m * 2) (prs l) = prs l := List.take_of_length_le (by rw [prs_len]; omega)
  have hm0 : (m == 0) = false := beq_eq_false_iff_ne.2 (by omega)
  have hm1 : (m != 0) = true := bne_iff_ne.2 (by omega)
  simp -implicitDefEqProofs (disch := omega) only [hb, hb0, Option.isNone_some, hm0, h0, htk, nilKnown, hm1, simprocAttr, amset, tyset, Function.comp_apply, one1, lenV, calleeOf, lateOk, belowV, aop, AV.ofValue, AV.ofCell, AV.cells, AV.flat, AV.one, arep, aBin, aAppend, aConv]
  repeat refine And.intro (by omega) ?_
  refine hQ _ _ (end_by (.inl rfl) hbel (x1 := .sl (some (H.length + 1, 0)) m none) (.sl (some (H.length, 0)) m none) (resT Try.results24) [1] (by decide) ⟨rfl, rfl⟩ ?_)
  exact absT
theorem clonenil_c (H : AHeap) : ACalls Try.prog 24 [.sl none 0 (some 0)] H (fun v H' => v = .sl none 0 (some 0) ∧ H' = H) := by
  (refine ACalls_run try_mixed Try.func24 true _ rfl (Nat.le_of_ble_eq_true (by kernel_rfl)) (by kernel_rfl) ?_; intro hbel Q hQ hQ' c hc; unfold Try.f24 at hc; simp only [Option.some.injEq] at hc; subst hc; clear hQ')
  simp -implicitDefEqProofs (disch := omega) only [Option.isNone_none, nilKnown, simprocAttr, amset, tyset, Function.comp_apply, one1, lenV, calleeOf, lateOk, belowV, aop, AV.ofValue, AV.ofCell, AV.cells, AV.flat, AV.one, arep, aBin, aAppend, aConv]
  exact hQ _ _ (end_plain0 (.inl rfl) hbel (x := .sl none 0 (some 0)) (resT Try.results24) rfl ⟨rfl, rfl⟩)
theorem clone0_c (H : AHeap) (b : Nat) (hb : H[b]? = some (.cells false 2 [])) : ACalls Try.prog 24 [.sl (some (b, 1)) 0 (some 0)] H (fun v H' => v = .sl (some (H.length, 0)) 0 (some 0) ∧ H' = H ++ [.cells true 2 []]) := by
  have hb0 := fun l => get_app (l := l) hb
  have hbl := getElem?_lt hb
  (refine ACalls_run try_mixed Try.func24 true _ rfl (Nat.le_of_ble_eq_true (by kernel_rfl)) (by kernel_rfl) ?_; intro hbel Q hQ hQ' c hc; unfold Try.f24 at hc; simp only [Option.some.injEq] at hc; subst hc; clear hQ')
  have hk : nilKnown (some (b, 1)) 0 (some 0) = true := rfl
  simp -implicitDefEqProofs (disch := omega) only [hb, hb0, Option.isNone_some, hk, simprocAttr, amset, tyset, Function.comp_apply, one1, lenV, calleeOf, lateOk, belowV, aop, AV.ofValue, AV.ofCell, AV.cells, AV.flat, AV.one, arep, aBin, aAppend, aConv]
  refine hQ _ _ (end_by (.inl rfl) hbel (x1 := .sl (some (H.length, 0)) 0 (some 0)) (.sl (some (H.length, 0)) 0 (some 0)) (resT Try.results24) [0] (by decide) ⟨rfl, rfl⟩ ?_)
  exact absT
theorem cloneempty_c (H : AHeap) (b : Nat) (cap : Option Nat) (own : Bool) (hb : H[b]? = some (.cells own 2 [])) : ACalls Try.prog 24 [.sl (some (b, 0)) 0 cap] H (fun v H' => v = .sl (some (H.length, 0)) 0 (some 0) ∧ H' = H ++ [.cells false 2 []]) := by
  have hb0 := fun l => get_app (l := l) hb
  have hbl := getElem?_lt hb
  refine ACalls.nilsplit (es := 2) (x := .sl (some (H.length + 1, 0)) 0 (some 0)) (l1 := [.cells false 2 [], .cells true 2 []]) ?_ (fun c hc => ?_) ?_ [] rfl [1] (by decide) ?_
  · refine (clonenil_c H).weak0 [.cells false 2 []] rfl [0] (by decide) _ _ ?_
    exact absT
  · have hc1 : (c != 0) = true := bne_iff_ne.2 (by omega)
    (refine ACalls_run try_mixed Try.func24 true _ rfl (Nat.le_of_ble_eq_true (by kernel_rfl)) (by kernel_rfl) ?_; intro hbel Q hQ hQ' c hc; unfold Try.f24 at hc; simp only [Option.some.injEq] at hc; subst hc; clear hQ')
    simp -implicitDefEqProofs (disch := omega) only [hb, hb0, Option.isNone_some, nilKnown, hc1, Nat.reduceBNe, simprocAttr, amset, tyset, Function.comp_apply, one1, lenV, calleeOf, lateOk, belowV, aop, AV.ofValue, AV.ofCell, AV.cells, AV.flat, AV.one, arep, aBin, aAppend, aConv]
    refine hQ _ _ (end_byG (.inl rfl) hbel (x1 := .sl (some (H.length, 0)) 0 (some 0)) (l2 := [.cells false 2 []]) (.sl (some (H.length, 0)) 0 (some 0)) (resT Try.results24) [] rfl [0] (by decide) ⟨rfl, rfl⟩ ?_)
    exact absT
  · have hh := clone0_c (H ++ [.cells false 2 []]) H.length (by rw [get_new0]; rfl)
    refine hh.mono fun y H1 ⟨h1, h2⟩ => ⟨by rw [h1]; simp, by rw [h2]; simp⟩
  exact absT
open Go.RowKit
theorem valid_bd3 {x y : Int} {l : List Pt} (h : validB x y l = true) : (-8388608 ≤ x ∧ x ≤ 8388608) ∧ -8388608 ≤ y ∧ y ≤ 8388608 := by
  unfold validB at h
  simp only [Bool.and_eq_true, within_iff] at h
  exact ⟨h.1.1.1, h.1.1.2⟩
theorem canonical_u (H : AHeap) (x y : Int) (s : AV) (l : List Pt) (hs : IsP H s l) (hl : l.length ≤ 40) (hB : ∀ e ∈ l, Bd 4194304 e) :
    ACalls Try.prog 22 [.agg [iV x, iV y, s]] H (fun v H' => v = .agg [iV x, iV y, .sl (some (H.length, 0)) (canonL l).length (capG (canonL l).length)] ∧ H' = H ++ [.cells (ownG (canonL l).length) 2 (prs (canonL l))]) := by
  have h := canonical_a H x y s l hs hl hB
  rcases Nat.eq_zero_or_pos (canonL l).length with h0 | h0
  · rw [List.eq_nil_of_length_eq_zero h0] at h ⊢
    simp only [zR_nil] at h
    refine ACalls.weak0 h [.cells false 2 []] rfl [0] (by decide) _ _ ?_
    exact absTf (jn @List.length_nil.{0} (jn @capG_0 (jn @ownG_0 @prs_nil)))
  rw [zR_pos h0] at h
  refine ACalls.weak h [] rfl [0] (by decide) _ _ ?_
  rw [capG_p h0, ownG_p h0]
  generalize canonL l = L
  exact absT
theorem rcanon_u (H : AHeap) (x y : Int) (s : AV) (l : List Pt) (hs : IsP H s l) (hl : l.length ≤ 40) (hB : ∀ e ∈ l, Bd 4194304 e) :
    ACalls Try.prog 30 [.agg [iV x, iV y, s]] H (fun v H' => v = .agg [iV x, iV y, .sl (some (H.length, 0)) (canonL l).length (capG (canonL l).length)] ∧ H' = H ++ [.cells (ownG (canonL l).length) 2 (prs (canonL l))]) := by
  have h := rcanon_a H x y s l hs hl hB
  rcases Nat.eq_zero_or_pos (canonL l).length with h0 | h0
  · rw [List.eq_nil_of_length_eq_zero h0] at h ⊢
    simp only [zR_nil] at h
    refine ACalls.weak0 h [.cells false 2 []] rfl [0] (by decide) _ _ ?_
    exact absTf (jn @List.length_nil.{0} (jn @capG_0 (jn @ownG_0 @prs_nil)))
  rw [zR_pos h0] at h
  refine ACalls.weak h [] rfl [0] (by decide) _ _ ?_
  rw [capG_p h0, ownG_p h0]
  generalize canonL l = L
  exact absT
theorem gpb {M : Int} {l : List Pt} (h : ∀ e ∈ l, Bd M e) {i : Nat} (hi : i < l.length) : -M ≤ g1 l i ∧ g1 l i ≤ M ∧ -M ≤ g2 l i ∧ g2 l i ≤ M := by
  have := h l[i] (List.getElem_mem hi)
  rw [← gp_eq hi] at this
  exact this
open Go.RowKit
/-- The directions that are tried. -/
def nrmls (L : List Pt) : List Pt := [(1, 0), (0, 1)] ++ L.flatMap fun g => [(0 - g.2, g.1), g]
/-- A direction in which d is beyond the sum. -/
def beyond (L : List Pt) (d n : Pt) : Bool := decide (spr n L < absI (dotP n d))
def apartB (x y : Int) (l : List Pt) (x0 y0 x1 y1 : Int) : Bool :=
  validB x y l && (far4 x0 y0 x1 y1 && decide (x0 ≤ x1 ∧ y0 ≤ y1) && (nrmls (canonL (l ++ [(x1 - x0, 0), (0, y1 - y0)]))).any (beyond (canonL (l ++ [(x1 - x0, 0), (0, y1 - y0)])) (x0 + x1 - x, y0 + y1 - y)))
theorem nrmls_step {L : List Pt} {i : Nat} (h : i < L.length) : nrmls (L.take (i + 1)) = nrmls (L.take i) ++ [(0 - g2 L i, g1 L i), (g1 L i, g2 L i)] := by
  unfold nrmls
  rw [List.take_succ_eq_append_getElem h, List.flatMap_append, ← gp_eq h, List.append_assoc]
  simp [gp]
theorem nrmls_len (L : List Pt) : (nrmls L).length = 2 + 2 * L.length := by
  unfold nrmls
  rw [List.length_append]
  have : ∀ l : List Pt, (l.flatMap fun g => [(0 - g.2, g.1), g]).length = 2 * l.length := fun l => by
    induction l with
    | nil => rfl
    | cons g l ih => rw [List.flatMap_cons, List.length_append, ih]; simp; omega
  rw [this]; rfl
theorem nrmls_bd {M : Int} (hM : 1 ≤ M) {L : List Pt} (h : ∀ e ∈ L, Bd M e) : ∀ e ∈ nrmls L, Bd M e := fun e he => by
  unfold nrmls at he
  simp only [List.mem_append, List.mem_cons, List.not_mem_nil, or_false, List.mem_flatMap] at he
  rcases he with (rfl | rfl) | ⟨g, hg, rfl | rfl⟩
  · unfold Bd; simp only; omega
  · unfold Bd; simp only; omega
  · have := h g hg; unfold Bd at *; simp only; omega
  exact h _ hg
theorem any_gp {p : Pt → Bool} {N : List Pt} {j : Nat} (hj : j < N.length) (h : p (gp N j) = true) : N.any p = true := List.any_eq_true.2 ⟨N[j], List.getElem_mem hj, by rw [← gp_eq hj]; exact h⟩
theorem nrmls_nil : nrmls [] = [(1, 0), (0, 1)] := rfl
theorem canon_bd16 {l : List Pt} (hl : l.length ≤ 16) (hB : ∀ e ∈ l, Bd 65536 e) : ∀ e ∈ canonL l, Bd 1048576 e := fun e he => by
  have := canonL_bd (M := 65536) (by decide) hB e he
  have h40 : ((l.length : Nat) : Int) * 65536 ≤ 16 * 65536 := Int.mul_le_mul_of_nonneg_right (by omega) (by decide)
  unfold Bd at *; omega
open Go.RowKit
/-- Whether a point is in a zonogon. -/
def hasB (x y : Int) (l : List Pt) (x2 y2 : Int) : Bool := validB x y l && (within x2 16777216 && (within y2 16777216 && !(nrmls (canonL l)).any (beyond (canonL l) (x2 - x, y2 - y))))
theorem has_c (H : AHeap) (x y : Int) (s : AV) (l : List (Int × Int)) (x2 y2 : Int) (hs : Sl H 2 s l.length (prs l)) : ACalls Try.prog 10 [.agg [iV x, iV y, s], iV x2, iV y2] H (fun v H' => v = .bool (hasB x y l x2 y2) ∧ H' = H) := by
  obtain ⟨bs, os, cs, rfl, hbs⟩ := hs
  have hbls := getElem?_lt hbs
  have hb0s := fun l => get_app (l := l) hbs
  refine AcT true Try.func10 ?_; intro hbel Q hQ
  have g'1 := (jn @hbs @hb0s)
  refine runTf g'1 ?_
  refine cvr g'1 (valid_c _ x y _ l (.inr ⟨_, _, _, rfl, by first | exact hb0s _ | exact hbs⟩)) ?_
  refine gd_split (fun h1 => ?_) (fun h1 => ?_)
  · have h1d := h1
    try simp only [Bool.not_eq_true', Bool.not_eq_false', decide_eq_true_eq, decide_eq_false_iff_not, beq_iff_eq, bne_iff_ne, ne_eq, Bool.not_eq_true, Bool.not_eq_false, beq_eq_false_iff_ne, bne_eq_false_iff_eq, Classical.not_not, Bool.and_eq_true, Bool.and_eq_false_imp] at h1d
    have g'2 := j2 h1 h1d g'1
    refine runTf g'2 ?_
    refine cvr g'2 (size_c _ _ _ (by decide)) ?_
    refine gd_split (fun h2 => ?_) (fun h2 => ?_)
    · have h2d := h2
      try simp only [Bool.not_eq_true', Bool.not_eq_false', decide_eq_true_eq, decide_eq_false_iff_not, beq_iff_eq, bne_iff_ne, ne_eq, Bool.not_eq_true, Bool.not_eq_false, beq_eq_false_iff_ne, bne_eq_false_iff_eq, Classical.not_not, Bool.and_eq_true, Bool.and_eq_false_imp] at h2d
      have g'3 := j2 h2 h2d g'2
      refine runTf g'3 ?_
      refine cvr g'3 (size_c _ _ _ (by decide)) ?_
      refine cond_split (fun h3 => ?_) (fun h3 => ?_)
      · have h3d := h3
        try simp only [Bool.not_eq_true', Bool.not_eq_false', decide_eq_true_eq, decide_eq_false_iff_not, beq_iff_eq, bne_iff_ne, ne_eq, Bool.not_eq_true, Bool.not_eq_false, beq_eq_false_iff_ne, bne_eq_false_iff_eq, Classical.not_not, Bool.and_eq_true, Bool.and_eq_false_imp] at h3d
        have g'4 := j2 h3 h3d g'3
        exact eR g'4 hQ hbel (.bool false) Try.results10 ⟨by simp [hasB, h1d, h2d, h3d], rfl⟩
      have h3d := h3
      try simp only [Bool.not_eq_true', Bool.not_eq_false', decide_eq_true_eq, decide_eq_false_iff_not, beq_iff_eq, bne_iff_ne, ne_eq, Bool.not_eq_true, Bool.not_eq_false, beq_eq_false_iff_ne, bne_eq_false_iff_eq, Classical.not_not, Bool.and_eq_true, Bool.and_eq_false_imp] at h3d
      have g'5 := j2 h3 h3d g'3
      refine runTf g'5 ?_
      obtain ⟨hl16, hlB⟩ := valid_bd h1d
      have hxy := valid_bd3 h1d
      have hB2 : ∀ e ∈ l, Bd 268435456 e := fun e he => by have := hlB e he; unfold Bd at *; omega
      have hB4 : ∀ e ∈ l, Bd 4194304 e := fun e he => by have := hlB e he; unfold Bd at *; omega
      have w2 := h2d
      have w3 := h3d
      simp only [within_iff] at w2 w3
      have hcb := canon_bd16 hl16 hlB
      have hcl := canonL_len l
      have hc28 : ∀ e ∈ canonL l, Bd 268435456 e := fun e he => by have := hcb e he; unfold Bd at *; omega
      have hNb := nrmls_bd (M := 1048576) (by decide) hcb
      have hNl := nrmls_len (canonL l)
      refine cvr g'5 (canonical_u _ x y _ l (.inr ⟨_, _, _, rfl, by first | exact hb0s _ | exact hbs⟩) (by first | omega | (simp only [List.length_cons, List.length_nil]; omega) | exact Nat.le_trans (mkL_len _ _) (by first | omega | simp) | exact Nat.le_trans (vL_len _ _) (by first | omega | simp) | exact Nat.le_trans corV_len (by omega) | exact Nat.le_trans (canonL_len _) (by first | omega | simp)) (by assumption)) ?_
      refine glp (fun k F Hx => ∃ i : Nat, i + k = (canonL l).length ∧ F = [(7, .sl (some (H.length, 0)) ((canonL l).length) (capG (canonL l).length)), (8, .ptr (some (H.length + 1, 0))), (9, .sl (some (H.length + 2, 0)) ((nrmls ((canonL l).take i)).length) (capG (nrmls ((canonL l).take i)).length)), (42, .sl (some (H.length, 0)) ((canonL l).length) (capG (canonL l).length)), (43, iV (((canonL l).length : Nat) : Int)), (44, iV ((i : Nat) : Int))] ∧ Hx = H ++ [.cells (ownG (canonL l).length) 2 (prs (canonL l)), .cells true 0 [iV (x2 - x), iV (y2 - y)], .cells (ownG (nrmls ((canonL l).take i)).length) 2 (prs (nrmls ((canonL l).take i)))]) ((canonL l).length) ?_ ?_
      · refine ⟨_, _, _, ⟨0, by omega, rfl, rfl⟩, bS hbel [1, 2, 3] (absRf (jn @List.take_zero.{0} @nrmls_nil))⟩
      rintro k0 F Hx ⟨i, hm0, rfl, rfl⟩ J0 hJ0
      have g'6 := (jn @prs_len (jn @prs_one g'5))
      refine runTf g'6 ?_
      refine cond_split (fun h4 => ?_) (fun h4 => ?_)
      · have h4d := h4
        try simp only [Bool.not_eq_true', Bool.not_eq_false', decide_eq_true_eq, decide_eq_false_iff_not, beq_iff_eq, bne_iff_ne, ne_eq, Bool.not_eq_true, Bool.not_eq_false, beq_eq_false_iff_ne, bne_eq_false_iff_eq, Classical.not_not, Bool.and_eq_true, Bool.and_eq_false_imp] at h4d
        have hgi := gpb (i := i) hcb (by omega)
        have hst := nrmls_step (L := canonL l) (i := i) (by omega)
        have hnl := nrmls_len ((canonL l).take i)
        rw [List.length_take] at hnl
        have q5 := prs_load (l := canonL l) (j := i) (by omega)
        have g'7 := (jn h4 (jn h4d (jn q5 (jn @capG_s g'6))))
        refine runTf g'7 ?_
        refine hJ0 _ _ ⟨k0 - 1, by omega, _, _, _, ⟨i + 1, by omega, rfl, rfl⟩, bS hbel [0, 1, 5] (absRf (jn @hst @Int.zero_sub))⟩
      have h4d := h4
      try simp only [Bool.not_eq_true', Bool.not_eq_false', decide_eq_true_eq, decide_eq_false_iff_not, beq_iff_eq, bne_iff_ne, ne_eq, Bool.not_eq_true, Bool.not_eq_false, beq_eq_false_iff_ne, bne_eq_false_iff_eq, Classical.not_not, Bool.and_eq_true, Bool.and_eq_false_imp] at h4d
      have hfinT : (canonL l).take i = canonL l := List.take_of_length_le (by omega)
      have g'8 := j2 h4 h4d g'6
      refine runTf g'8 ?_
      refine glp (fun k F Hx => ∃ j : Nat, j + k = (nrmls (canonL l)).length ∧ ((nrmls (canonL l)).take j).any (beyond (canonL l) (x2 - x, y2 - y)) = false ∧ F = [(7, .sl (some (H.length, 0)) ((canonL l).length) (capG (canonL l).length)), (8, .ptr (some (H.length + 1, 0))), (59, .sl (some (H.length + 2, 0)) ((nrmls (canonL l)).length) (capG (nrmls (canonL l)).length)), (60, iV (((nrmls (canonL l)).length : Nat) : Int)), (61, iV ((j : Nat) : Int))] ∧ Hx = H ++ [.cells (ownG (canonL l).length) 2 (prs (canonL l)), .cells true 0 [iV (x2 - x), iV (y2 - y)], .cells (ownG (nrmls (canonL l)).length) 2 (prs (nrmls (canonL l)))]) ((nrmls (canonL l)).length) ?_ ?_
      · refine ⟨_, _, _, ⟨0, by omega, by simp, rfl, rfl⟩, bS hbel [0, 1, 2] (absRf @hfinT)⟩
      rintro k1 F Hx ⟨j, hm1, ht, rfl, rfl⟩ J1 hJ1
      refine runTf g'8 ?_
      refine cond_split (fun h6 => ?_) (fun h6 => ?_)
      · have h6d := h6
        try simp only [Bool.not_eq_true', Bool.not_eq_false', decide_eq_true_eq, decide_eq_false_iff_not, beq_iff_eq, bne_iff_ne, ne_eq, Bool.not_eq_true, Bool.not_eq_false, beq_eq_false_iff_ne, bne_eq_false_iff_eq, Classical.not_not, Bool.and_eq_true, Bool.and_eq_false_imp] at h6d
        have hgj := gpb (i := j) hNb (by omega)
        have hst2 := any_take (p := beyond (canonL l) (x2 - x, y2 - y)) (l := nrmls (canonL l)) (i := j) (by omega)
        rw [← gp_eq (by omega)] at hst2
        have hp1 := mul_bd (a := g1 (nrmls (canonL l)) j) (b := x2 - x) (A := 1048576) (B := 33554432) (by omega) (by omega)
        have hp2 := mul_bd (a := g2 (nrmls (canonL l)) j) (b := y2 - y) (A := 1048576) (B := 33554432) (by omega) (by omega)
        have q7 := prs_load (l := nrmls (canonL l)) (j := j) (by omega)
        have g'9 := (jn h6 (jn h6d (jn q7 g'8)))
        refine runTf g'9 ?_
        refine cdr g'9 (abs_c _ _ (by omega)) ?_
        refine cdr g'9 (spread_c _ _ (canonL l) (g1 (nrmls (canonL l)) j, g2 (nrmls (canonL l)) j) (.inr ⟨_, _, _, by first | rfl | (rw [List.length_append]; rfl), by first | rfl | (rw [get_newk]; rfl) | (rw [get_new0]; rfl) | (rw [get_newk, prs_append]; rfl) | (rw [get_new0, prs_append]; rfl)⟩) (by omega) (by assumption) (by first | assumption | (unfold Bd; simp only; omega) | (unfold Bd at *; simp only at *; omega) | (unfold Bd; simp; omega) | (unfold Bd; simp))) ?_
        refine cond_split (fun h8 => ?_) (fun h8 => ?_)
        · have h8d := h8
          try simp only [Bool.not_eq_true', Bool.not_eq_false', decide_eq_true_eq, decide_eq_false_iff_not, beq_iff_eq, bne_iff_ne, ne_eq, Bool.not_eq_true, Bool.not_eq_false, beq_eq_false_iff_ne, bne_eq_false_iff_eq, Classical.not_not, Bool.and_eq_true, Bool.and_eq_false_imp] at h8d
          have hfinA : (nrmls (canonL l)).any (beyond (canonL l) (x2 - x, y2 - y)) = true := any_gp (j := j) (by omega) (decide_eq_true h8d)
          have g'10 := j2 h8 h8d g'9
          exact eR g'10 hQ hbel (.bool false) Try.results10 ⟨by simp [hasB, h1d, h2d, h3d, h4d, h6d, h8d, hfinT, hfinA], rfl⟩
        have h8d := h8
        try simp only [Bool.not_eq_true', Bool.not_eq_false', decide_eq_true_eq, decide_eq_false_iff_not, beq_iff_eq, bne_iff_ne, ne_eq, Bool.not_eq_true, Bool.not_eq_false, beq_eq_false_iff_ne, bne_eq_false_iff_eq, Classical.not_not, Bool.and_eq_true, Bool.and_eq_false_imp] at h8d
        have g'11 := j2 h8 h8d g'9
        refine runTf g'11 ?_
        refine hJ1 _ _ ⟨k1 - 1, by omega, _, _, _, ⟨j + 1, by omega, by rw [hst2, ht, Bool.false_or]; exact decide_eq_false h8d, rfl, rfl⟩, bS hbel [0, 1, 2] absR⟩
      have h6d := h6
      try simp only [Bool.not_eq_true', Bool.not_eq_false', decide_eq_true_eq, decide_eq_false_iff_not, beq_iff_eq, bne_iff_ne, ne_eq, Bool.not_eq_true, Bool.not_eq_false, beq_eq_false_iff_ne, bne_eq_false_iff_eq, Classical.not_not, Bool.and_eq_true, Bool.and_eq_false_imp] at h6d
      rw [List.take_of_length_le (by omega)] at ht
      have hfin := ht
      have g'12 := j2 h6 h6d g'8
      exact eR g'12 hQ hbel (.bool true) Try.results10 ⟨by simp [hasB, h1d, h2d, h3d, h4d, h6d, hfinT, hfin], rfl⟩
    have h2d := h2
    try simp only [Bool.not_eq_true', Bool.not_eq_false', decide_eq_true_eq, decide_eq_false_iff_not, beq_iff_eq, bne_iff_ne, ne_eq, Bool.not_eq_true, Bool.not_eq_false, beq_eq_false_iff_ne, bne_eq_false_iff_eq, Classical.not_not, Bool.and_eq_true, Bool.and_eq_false_imp] at h2d
    have g'13 := j2 h2 h2d g'2
    exact eR g'13 hQ hbel (.bool false) Try.results10 ⟨by simp [hasB, h1d, h2d], rfl⟩
  have h1d := h1
  try simp only [Bool.not_eq_true', Bool.not_eq_false', decide_eq_true_eq, decide_eq_false_iff_not, beq_iff_eq, bne_iff_ne, ne_eq, Bool.not_eq_true, Bool.not_eq_false, beq_eq_false_iff_ne, bne_eq_false_iff_eq, Classical.not_not, Bool.and_eq_true, Bool.and_eq_false_imp] at h1d
  have g'14 := j2 h1 h1d g'1
  exact eR g'14 hQ hbel (.bool false) Try.results10 ⟨by simp [hasB, h1d], rfl⟩
open Go.RowKit
/-- The first corner. -/
def cor0 (x y : Int) (l : List Pt) : Nat → Pt
  | 0 => (x, y)
  | i + 1 => ((cor0 x y l i).1 - g1 l i, (cor0 x y l i).2 - g2 l i)
/-- The reference's steps. -/
def stp (l : List Pt) (i : Nat) : Pt := if l.length ≤ i then (-g1 l (i % l.length), -g2 l (i % l.length)) else (g1 l (i % l.length), g2 l (i % l.length))
def rcp (l : List Pt) (p : Pt) : Nat → Pt
  | 0 => p
  | i + 1 => ((rcp l p i).1 + 2 * (stp l i).1, (rcp l p i).2 + 2 * (stp l i).2)
def rco (l : List Pt) (p : Pt) : Nat → List Pt
  | 0 => [p]
  | i + 1 => rco l p i ++ [((rcp l p i).1 + 2 * (stp l i).1, (rcp l p i).2 + 2 * (stp l i).2)]
/-- The corners, by the reference. -/
def corR (x y : Int) (l : List Pt) : List Pt := rco l (cor0 x y l l.length) (2 * l.length - 1)
theorem rco_len (l : List Pt) (p : Pt) : ∀ i, (rco l p i).length = i + 1
  | 0 => rfl
  | i + 1 => by simp [rco, rco_len l p i]
theorem cor0_bd {x y M A : Int} {l : List Pt} (hA : -A ≤ x ∧ x ≤ A ∧ -A ≤ y ∧ y ≤ A) (h : ∀ e ∈ l, Bd M e) : ∀ i, i ≤ l.length → Bd (A + i * M) (cor0 x y l i)
  | 0, _ => by unfold Bd cor0; simp only [Int.natCast_zero, Int.zero_mul]; omega
  | i + 1, hi => by
    have ih := cor0_bd hA h i (by omega)
    have hg := gpb h (i := i) (by omega)
    have e : (((i + 1 : Nat) : Int)) * M = i * M + M := by rw [Int.natCast_add, Int.add_mul]; simp
    unfold Bd at *
    simp only [cor0]
    rw [e]; omega
theorem stp_bd {M : Int} {l : List Pt} (h : ∀ e ∈ l, Bd M e) (h0 : 0 < l.length) (i : Nat) : Bd M (stp l i) := by
  have hg := gpb h (i := i % l.length) (Nat.mod_lt _ h0)
  unfold stp Bd
  split <;> (simp only; omega)
theorem rcp_bd {M A : Int} {l : List Pt} {p : Pt} (hA : Bd A p) (h : ∀ e ∈ l, Bd M e) (h0 : 0 < l.length) : ∀ i : Nat, Bd (A + (i : Int) * (2 * M)) (rcp l p i)
  | 0 => by unfold Bd rcp at *; simp only [Int.natCast_zero, Int.zero_mul]; omega
  | i + 1 => by
    have ih := rcp_bd hA h h0 i
    have hg := stp_bd h h0 i
    have e : (((i + 1 : Nat) : Int)) * (2 * M) = i * (2 * M) + 2 * M := by rw [Int.natCast_add, Int.add_mul]; simp
    unfold Bd at *
    simp only [rcp]
    rw [e]; omega
end Go.Proofs.Ytbmfgcccgonaeaa
