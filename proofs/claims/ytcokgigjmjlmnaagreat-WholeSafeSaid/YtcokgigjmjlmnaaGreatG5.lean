/- Parts of the proof: walks and plain facts. Conditions: as each theorem states. -/
import Derived.Test.YtcokgigjmjlmnaaGreatG4
import Derived.Test.YtcokgigjmjlmnaaGreatG3
namespace Go.Proofs.YtcokgigjmjlmnaaGreat
set_option linter.unusedSimpArgs false
set_option linter.unusedVariables false
open Go.RowKit
set_option maxRecDepth 100000 in
theorem idx_cell (H : AHeap) (s : AV) (l : List (Int × Int)) (hs : Sl H 2 s l.length (prs l)) (hl : l.length ≤ 1000000000) (g : FuncId) (caps : List AV) (hok : okFn Tryz.prog g = true) (hc : AV.bels H.length caps = true) (p : (Int × Int) → Bool) (hf : ∀ j, j < l.length → ACalls Tryz.prog g (.agg [.int .i64 (g1 l j), .int .i64 (g2 l j)] :: caps) H (fun v H' => v = .bool (p (g1 l j, g2 l j)) ∧ H' = H)) :
    ACalls Tryz.prog 172 [s, .fn g caps] H (fun v H' => v = .int .i64 (idxI p l) ∧ H' = H) := by
  obtain ⟨b, own, cap, rfl, hb⟩ := hs
  have hbl := getElem?_lt hb
  have hmv := fun m sel => mvs_caps (n := H.length) (m := m) (sel := sel) hc
  (refine ACalls_run try_mixed Tryz.func172 true _ rfl (Nat.le_of_ble_eq_true (by kernel_rfl)) (by kernel_rfl) ?_; intro hbel Q hQ hQ' c hc; unfold Tryz.f172 at hc; simp only [Option.some.injEq] at hc; subst hc; clear hQ')
  simp -implicitDefEqProofs (disch := omega) only [simprocAttr, amset, tyset, Function.comp_apply, one1, lenV, calleeOf, lateOk, belowV, aop, AV.ofValue, AV.ofCell, AV.cells, AV.flat, AV.one, arep, aBin, aAppend, aConv]
  refine go_loop try_mixed (by kernel_rfl) (fun k F Hx => ∃ i : Nat, i + k = l.length ∧ (l.take i).any p = false ∧ F = [(0, .sl (some (b, 0)) l.length none), (1, .fn g caps), (7, .int .i64 l.length), (8, .int .i64 (i : Nat))] ∧ Hx = H) l.length ?_ ?_
  · refine ⟨_, _, _, ⟨0, by omega, rfl, rfl, rfl⟩, Abs.by0 hbel ?_⟩
    exact absWf @hmv
  · rintro k F Hx ⟨i, hik, ht, rfl, rfl⟩ J hJ
    by_cases hi : i < l.length
    · have hii : (i : Int) < (l.length : Int) := by omega
      have q1 := prs_load hi
      have hg := pr_eq hi
      simp -implicitDefEqProofs (disch := omega) only [hii, hb, q1, prs_len, prs_one, simprocAttr, amset, tyset, Function.comp_apply, one1, lenV, calleeOf, lateOk, belowV, aop, AV.ofValue, AV.ofCell, AV.cells, AV.flat, AV.one, arep, aBin, aAppend, aConv]
      iterate 2 refine And.intro (by omega) ?_
      refine call_v hok (hf i hi) ?_
      have hst := any_step (p := p) hi
      rw [ht, Bool.false_or, ← hg] at hst
      cases h1 : p (g1 l i, g2 l i)
      · rw [h1] at hst
        simp -implicitDefEqProofs (disch := omega) only [h1, simprocAttr, amset, tyset, Function.comp_apply, one1, lenV, calleeOf, lateOk, belowV, aop, AV.ofValue, AV.ofCell, AV.cells, AV.flat, AV.one, arep, aBin, aAppend, aConv]
        refine hJ _ _ ⟨k - 1, by omega, _, _, _, ⟨i + 1, by omega, hst, rfl, rfl⟩, Abs.by0 hbel ?_⟩
        exact absWf @hmv
      · simp -implicitDefEqProofs (disch := omega) only [h1, simprocAttr, amset, tyset, Function.comp_apply, one1, lenV, calleeOf, lateOk, belowV, aop, AV.ofValue, AV.ofCell, AV.cells, AV.flat, AV.one, arep, aBin, aAppend, aConv]
        exact hQ _ _ (end_plain0 (.inl rfl) hbel (x := .int .i64 (i : Nat)) (resT Tryz.results172) rfl ⟨by rw [idxI_at hi ht (by rw [← hg]; exact h1)], rfl⟩)
    · have hnn : ¬ ((i : Int) < (l.length : Int)) := by omega
      simp -implicitDefEqProofs (disch := omega) only [hnn, simprocAttr, amset, tyset, Function.comp_apply, one1, lenV, calleeOf, lateOk, belowV, aop, AV.ofValue, AV.ofCell, AV.cells, AV.flat, AV.one, arep, aBin, aAppend, aConv]
      rw [List.take_of_length_le (by omega)] at ht
      exact hQ _ _ (end_plain0 (.inl rfl) hbel (x := .int .i64 (-1)) (resT Tryz.results172) rfl ⟨by rw [idxI_none ht], rfl⟩)
theorem has_cell (H : AHeap) (s : AV) (l : List (Int × Int)) (hs : Sl H 2 s l.length (prs l)) (hl : l.length ≤ 1000000000) (g : FuncId) (caps : List AV) (hok : okFn Tryz.prog g = true) (hc : AV.bels H.length caps = true) (p : (Int × Int) → Bool) (hf : ∀ j, j < l.length → ACalls Tryz.prog g (.agg [.int .i64 (g1 l j), .int .i64 (g2 l j)] :: caps) H (fun v H' => v = .bool (p (g1 l j, g2 l j)) ∧ H' = H)) :
    ACalls Tryz.prog 200 [s, .fn g caps] H (fun v H' => v = .bool (l.any p) ∧ H' = H) := by
  have key := idx_cell H s l hs hl g caps hok hc p hf
  obtain ⟨b, own, cap, rfl, hb⟩ := hs
  have hbl := getElem?_lt hb
  (refine ACalls_run try_mixed Tryz.func200 true _ rfl (Nat.le_of_ble_eq_true (by kernel_rfl)) (by kernel_rfl) ?_; intro hbel Q hQ hQ' c hc; unfold Tryz.f200 at hc; simp only [Option.some.injEq] at hc; subst hc; clear hQ')
  simp -implicitDefEqProofs (disch := omega) only [simprocAttr, amset, tyset, Function.comp_apply, one1, lenV, calleeOf, lateOk, belowV, aop, AV.ofValue, AV.ofCell, AV.cells, AV.flat, AV.one, arep, aBin, aAppend, aConv]
  refine call_v (by kernel_rfl) key ?_
  simp -implicitDefEqProofs (disch := omega) only [simprocAttr, amset, tyset, Function.comp_apply, one1, lenV, calleeOf, lateOk, belowV, aop, AV.ofValue, AV.ofCell, AV.cells, AV.flat, AV.one, arep, aBin, aAppend, aConv]
  exact hQ _ _ (end_plain0 (.inl rfl) hbel (x := .bool (decide (0 ≤ idxI p l))) (resT Tryz.results200) rfl ⟨by rw [idxI_any], rfl⟩)
open Go.RowKit
theorem prs_set2 {l : List (Int × Int)} {j : Nat} {a b : Int} (h : j < l.length) : ((prs l).set (j * 2) (.int .i64 a)).set (j * 2 + 1) (.int .i64 b) = prs (l.set j (a, b)) := by
  induction l generalizing j with
  | nil => simp at h
  | cons p l ih =>
    cases j with
    | zero => simp [prs_cons]
    | succ j =>
      have e1 : (j + 1) * 2 = (j * 2).succ.succ := by omega
      have e2 : (j + 1) * 2 + 1 = (j * 2 + 1).succ.succ := by omega
      rw [prs_cons, e2, e1]
      show _ :: _ :: ((prs l).set (j * 2) (.int .i64 a)).set (j * 2 + 1) (.int .i64 b) = _
      rw [ih (by simpa using h)]
      rfl
theorem prs_rep {m : Nat} : prs (List.replicate m (0, 0)) = (List.range (m * 2)).map fun j => ([.int .i64 0, .int .i64 0] : List AV).getD (j % 2) .any := by
  induction m with
  | zero => rfl
  | succ m ih =>
    have e : List.replicate (m + 1) ((0 : Int), (0 : Int)) = List.replicate m (0, 0) ++ [(0, 0)] := by rw [List.replicate_succ']
    rw [e, prs_append, ih, Nat.succ_mul, List.range_succ, List.range_succ, List.map_append, List.map_append]
    have e1 : m * 2 % 2 = 0 := by omega
    have e2 : (m * 2 + 1) % 2 = 1 := by omega
    simp [prs_cons, prs_nil, e1, e2]
theorem splice_tail : ∀ (ys xs : List AV) (o : Nat), o + ys.length = xs.length → splice xs o ys = xs.take o ++ ys
  | [], xs, o, h => by
    rw [splice, List.append_nil, List.take_of_length_le]
    simp at h; omega
  | y :: ys, xs, o, h => by
    rw [splice, splice_tail ys _ _ (by simp at h ⊢; omega)]
    simp only [List.length_cons] at h
    have ho : o < xs.length := by omega
    rw [List.take_succ_eq_append_getElem (by simpa using ho), List.getElem_set_self, List.take_set_of_le (Nat.le_refl _)]
    simp
theorem splice_prs {l ys : List (Int × Int)} {i : Nat} (h : i + ys.length = l.length) : splice (prs l) (i * 2) (prs ys) = prs (l.take i ++ ys) := by
  rw [splice_tail _ _ _ (by rw [prs_len, prs_len]; omega), prs_take, prs_append]
theorem ints_set1 {k : IntKind} {l : List Int} {j : Nat} {a : Int} : (ints k l).set j (.int k a) = ints k (l.set j a) := ints_set
open Go.RowKit
theorem bels_prs {n : Nat} : ∀ {l : List (Int × Int)}, AV.bels n (prs l) = true
  | [] => rfl
  | p :: l => by rw [prs_cons]; simp only [AV.bels, AV.bel, Bool.true_and]; exact bels_prs
theorem HBel.put {n : Nat} {H : AHeap} (h : HBel n H) (b : Nat) {x : ABlk} (hx : x.bel n = true) : HBel n (H.set b x) := fun c y hy => by
  rw [List.getElem?_set] at hy
  split at hy
  · split at hy
    · simp at hy; subst hy; exact hx
    · cases hy
  · exact h c y hy
theorem Abs.byS1 {H0 l1 : AHeap} {F1 F2 : Fr} {n : Nat} (hn : H0.length = n) (hsc : HBel n H0) (h : absF (n + l1.length) (sig n l1.length []) F1 F2) : Abs n (sig n l1.length []) F1 (H0 ++ l1) F2 H0 := by
  subst hn; exact Abs.byN hsc h
theorem Abs.by0e {H0 H2 : AHeap} {F1 F2 : Fr} (e : H2 = H0) (hsc : HBel H0.length H0) (h : absF H0.length (sig H0.length 0 []) F1 F2) : Abs H0.length (sig H0.length 0 []) F1 H0 F2 H2 := by
  subst e; exact Abs.by0 hsc h
theorem end_byS {P : Program} {fn : Func} {H0 : AHeap} {R : AV → AHeap → Prop} {F : Fr} {e : Exit} {n : Nat} (hn : H0.length = n) (he : e = .ret ∨ e = .normal) (hbel : HBel n H0) {x1 : AV} (x2 : AV) (hx : aResult P fn F H0 = some x1) (hR : R x2 H0) (h : W n x1 (x2.mv (sig n 0 []))) : AEnd P fn n R e F H0 := by
  subst hn
  exact end_byE (l2 := []) he hbel x2 hx [] rfl [] (by simp) (by rw [List.append_nil]; exact hR) ⟨h, trivial⟩
/-- What is left without the elements that have a property. -/
def delL {α : Type} (p : α → Bool) (l : List α) : List α := l.filter fun e => !p e
theorem delL_none {α : Type} {p : α → Bool} {l : List α} (h : l.any p = false) : delL p l = l := by
  unfold delL
  rw [List.filter_eq_self]
  intro a ha
  have := List.any_eq_false.1 h a ha
  simpa using this
theorem delL_step {α : Type} {p : α → Bool} {l : List α} {j : Nat} (h : j < l.length) : delL p (l.take (j + 1)) = delL p (l.take j) ++ (if p l[j] = true then [] else [l[j]]) := by
  unfold delL
  rw [List.take_succ_eq_append_getElem h, List.filter_append]
  congr 1
  cases hp : p l[j] <;> simp [hp]
theorem delL_le {α : Type} {p : α → Bool} {l : List α} : (delL p l).length ≤ l.length := List.length_filter_le _ _
def padL (n : Nat) (l : List (Int × Int)) : List (Int × Int) := l ++ List.replicate (n - l.length) (0, 0)
theorem prs_padL {n : Nat} {l : List (Int × Int)} : prs (padL n l) = prs l ++ prs (List.replicate (n - l.length) (0, 0)) := prs_append
set_option maxRecDepth 100000 in
theorem del_cell (H : AHeap) (b : Nat) (cap : Option Nat) (l : List (Int × Int)) (hb : H[b]? = some (.cells (ownG l.length) 2 (prs l))) (hl : l.length ≤ 1000000000) (g : FuncId) (caps : List AV) (hok : okFn Tryz.prog g = true) (hc : AV.bels H.length caps = true) (p : (Int × Int) → Bool)
    (hf : ∀ (X : List (Int × Int)) (e : Int × Int) (L : AHeap), e ∈ l → ACalls Tryz.prog g (.agg [.int .i64 e.1, .int .i64 e.2] :: caps) (H.set b (.cells (ownG l.length) 2 (prs X)) ++ L) (fun v H' => v = .bool (p e) ∧ H' = H.set b (.cells (ownG l.length) 2 (prs X)) ++ L)) :
    ACalls Tryz.prog 82 [.sl (some (b, 0)) l.length cap, .fn g caps] H (fun v H' => v = .sl (some (b, 0)) (delL p l).length none ∧ H' = H.set b (.cells (ownG l.length) 2 (prs (padL l.length (delL p l))))) := by
  have hbl := getElem?_lt hb
  have hset : ∀ X L, (H.set b X ++ L)[b]? = some X := fun X L => by rw [List.getElem?_append_left (by simpa using hbl), List.getElem?_set_self hbl]
  have hset0 : ∀ X, (H.set b X)[b]? = some X := fun X => List.getElem?_set_self hbl
  have hself : H.set b (.cells (ownG l.length) 2 (prs l)) = H := by
    refine List.ext_getElem? fun i => ?_
    rw [List.getElem?_set]
    split
    · rename_i e; subst e; first | exact hb.symm | (rw [if_pos hbl]; exact hb.symm)
    · rfl
  have hmv := fun m sel => mvs_caps (n := H.length) (m := m) (sel := sel) hc
  have key := idx_cell H (.sl (some (b, 0)) l.length cap) l ⟨b, _, cap, rfl, hb⟩ hl g caps hok hc p (fun j hj => by
    have := hf l (g1 l j, g2 l j) [] (by rw [pr_eq hj]; exact List.getElem_mem hj)
    rw [List.append_nil, hself] at this
    exact this)
  (refine ACalls_run try_mixed Tryz.func82 true _ rfl (Nat.le_of_ble_eq_true (by kernel_rfl)) (by kernel_rfl) ?_; intro hbel Q hQ hQ' c hc; unfold Tryz.f82 at hc; simp only [Option.some.injEq] at hc; subst hc; clear hQ')
  simp -implicitDefEqProofs (disch := omega) only [simprocAttr, amset, tyset, Function.comp_apply, one1, lenV, calleeOf, lateOk, belowV, aop, AV.ofValue, AV.ofCell, AV.cells, AV.flat, AV.one, arep, aBin, aAppend, aConv]
  refine call_v (by kernel_rfl) key ?_
  rcases idxI_cases p l with ⟨h1, h2⟩ | ⟨i, hi, h1, h2, h3⟩
  · rw [h1]
    simp -implicitDefEqProofs (disch := omega) only [simprocAttr, amset, tyset, Function.comp_apply, one1, lenV, calleeOf, lateOk, belowV, aop, AV.ofValue, AV.ofCell, AV.cells, AV.flat, AV.one, arep, aBin, aAppend, aConv]
    have e : H.set b (.cells (ownG l.length) 2 (prs (padL l.length (delL p l)))) = H := by rw [delL_none h2]; simp [padL, hself]
    exact hQ _ _ (end_byE (.inl rfl) hbel (x1 := .sl (some (b, 0)) l.length cap) (l2 := []) (.sl (some (b, 0)) (delL p l).length none) (resT Tryz.results82) [] rfl [] (by decide) ⟨rfl, by rw [List.append_nil, e]⟩ (by rw [delL_none h2]; exact absW))
  · rw [h1]
    have hne : ((i : Int) == -1) = false := beq_eq_false_iff_ne.2 (by omega)
    have hown : ownG l.length = true := ownG_p (by omega)
    rw [hown] at hb hf hself
    simp -implicitDefEqProofs (disch := omega) only [hne, simprocAttr, amset, tyset, Function.comp_apply, one1, lenV, calleeOf, lateOk, belowV, aop, AV.ofValue, AV.ofCell, AV.cells, AV.flat, AV.one, arep, aBin, aAppend, aConv]
    have hd0 : delL p (l.take (i + 1)) = l.take i := by rw [delL_step hi, if_pos h3, List.append_nil, delL_none h2]
    have hdi : (delL p (l.take (i + 1))).length = i := by rw [hd0, List.length_take]; omega
    refine go_loop try_mixed (by kernel_rfl) (fun k F Hx => ∃ (j : Nat) (X : List (Int × Int)), j + k = l.length ∧ (delL p (l.take j)).length < j ∧ X.length = l.length ∧ X.take (delL p (l.take j)).length = delL p (l.take j) ∧ X.drop j = l.drop j ∧ F = [(0, .sl (some (b, 0)) l.length cap), (1, .fn g caps), (5, .int .i64 (((delL p (l.take j)).length : Nat) : Int)), (6, .int .i64 ((j : Nat) : Int))] ∧ Hx = H.set b (.cells true 2 (prs X))) (l.length - (i + 1)) ?_ ?_
    · refine ⟨_, _, _, ⟨i + 1, l, by omega, by rw [hdi]; omega, rfl, by rw [hd0, List.length_take, Nat.min_eq_left (by omega)], rfl, rfl, rfl⟩, Abs.by0e hself hbel ?_⟩
      exact absWf (jn @hdi @hmv)
    · rintro k F Hx ⟨j, X, hjk, hij, hXl, hXt, hXd, rfl, rfl⟩ J hJ
      obtain ⟨G, hG⟩ : ∃ G, G = H.set b (.cells true 2 (prs X)) := ⟨_, rfl⟩
      have hGl : G.length = H.length := by rw [hG, List.length_set]
      have hG1 : ∀ L, (G ++ L)[b]? = some (.cells true 2 (prs X)) := fun L => by rw [hG]; exact hset _ _
      have hG0 : G[b]? = some (.cells true 2 (prs X)) := by rw [hG]; exact hset0 _
      have hbG : b < G.length := by omega
      have hGs : ∀ Y L, (G ++ L).set b Y = H.set b Y ++ L := fun Y L => by rw [List.set_append_left _ _ hbG, hG, List.set_set]
      have hcall := fun e L => hf X e L
      rw [← hG] at hcall ⊢
      have hbelG : HBel H.length G := by rw [hG]; exact HBel.put hbel b bels_prs
      obtain ⟨n, hn⟩ : ∃ n, n = (delL p (l.take j)).length := ⟨_, rfl⟩
      have hnj : n < j := by rw [hn]; exact hij
      rw [← hn] at hXt ⊢
      by_cases hj : j < l.length
      · have hjj : (j : Int) < (l.length : Int) := by omega
        have hXj : X[j]'(by omega) = l[j] := by
          have := congrArg (fun m => m[0]?) hXd
          simpa [hj, hXl] using this
        have q1 := prs_load (l := X) (j := j) (by omega)
        have hg := pr_eq (l := X) (j := j) (by omega)
        simp -implicitDefEqProofs (disch := omega) only [hjj, hG1, hG0, q1, prs_len, prs_one, simprocAttr, amset, tyset, Function.comp_apply, one1, lenV, calleeOf, lateOk, belowV, aop, AV.ofValue, AV.ofCell, AV.cells, AV.flat, AV.one, arep, aBin, aAppend, aConv]
        iterate 2 refine And.intro (by omega) ?_
        refine call_v hok (hcall (g1 X j, g2 X j) _ (by rw [hg, hXj]; exact List.getElem_mem hj)) ?_
        have hst := delL_step (p := p) hj
        rw [← hXj, ← hg] at hst
        cases h5 : p (g1 X j, g2 X j)
        · rw [h5, if_neg Bool.false_ne_true] at hst
          have hl5 : (delL p (l.take (j + 1))).length = n + 1 := by rw [hst, List.length_append, hn]; rfl
          have hnX : n < X.length := by omega
          have hp2 := prs_set2 (a := g1 X j) (b := g2 X j) hnX
          simp -implicitDefEqProofs (disch := omega) only [h5, hG1, hG0, hGs, hp2, prs_len, prs_one, simprocAttr, amset, tyset, Function.comp_apply, one1, lenV, calleeOf, lateOk, belowV, aop, AV.ofValue, AV.ofCell, AV.cells, AV.flat, AV.one, arep, aBin, aAppend, aConv]
          iterate 2 refine And.intro (by omega) ?_
          refine hJ _ _ ⟨k - 1, by omega, _, _, _, ⟨j + 1, X.set n (g1 X j, g2 X j), by omega, by rw [hl5]; omega, by rw [List.length_set]; exact hXl, ?_, ?_, rfl, rfl⟩, Abs.byS1 (by rw [List.length_set]) (HBel.put hbel b bels_prs) ?_⟩
          · rw [hl5, hst, List.take_succ_eq_append_getElem (by rw [List.length_set]; exact hnX), List.getElem_set_self, List.take_set_of_le (Nat.le_refl _), hXt]
          · rw [List.drop_set_of_lt (by omega), ← List.drop_drop, hXd, List.drop_drop]
          exact absWf (jn @hl5 (jn @hmv (jn @Int.natCast_add @Int.natCast_one)))
        · rw [h5, if_pos rfl, List.append_nil] at hst
          have hl5 : (delL p (l.take (j + 1))).length = n := by rw [hst, hn]
          simp -implicitDefEqProofs (disch := omega) only [h5, simprocAttr, amset, tyset, Function.comp_apply, one1, lenV, calleeOf, lateOk, belowV, aop, AV.ofValue, AV.ofCell, AV.cells, AV.flat, AV.one, arep, aBin, aAppend, aConv]
          refine hJ _ _ ⟨k - 1, by omega, _, _, _, ⟨j + 1, X, by omega, by rw [hl5]; omega, hXl, by rw [hst, ← hn]; exact hXt, by rw [← List.drop_drop, hXd, List.drop_drop], rfl, hG⟩, Abs.byS1 hGl hbelG ?_⟩
          exact absWf (jn @hl5 @hmv)
      · have hjj : ¬ ((j : Int) < (l.length : Int)) := by omega
        have hrep := (prs_rep (m := l.length - n)).symm
        have hne0 : (l.length - n == 0) = false := beq_eq_false_iff_ne.2 (by omega)
        have hspl := splice_prs (l := X) (ys := List.replicate (l.length - n) (0, 0)) (i := n) (by rw [List.length_replicate]; omega)
        have hGs0 : ∀ Y, G.set b Y = H.set b Y := fun Y => by rw [hG, List.set_set]
        rw [hXt] at hspl
        simp -implicitDefEqProofs (disch := omega) only [hjj, hG1, hG0, hrep, hne0, hspl, hGs0, prs_len, prs_one, List.length_replicate, hset0, simprocAttr, amset, tyset, Function.comp_apply, one1, lenV, calleeOf, lateOk, belowV, aop, AV.ofValue, AV.ofCell, AV.cells, AV.flat, AV.one, arep, aBin, aAppend, aConv]
        refine ⟨by omega, ⟨by omega, .inl (Nat.le_refl _)⟩, by omega, by omega, ⟨by omega, .inl (by omega)⟩, ?_⟩
        obtain rfl : j = l.length := by omega
        rw [List.take_length] at hn ⊢
        refine hQ _ _ (end_byS (by rw [List.length_set]) (.inl rfl) (HBel.put hbel b bels_prs) (x1 := .sl (some (b, 0)) (n - 0) (Option.map (fun x => x - 0) cap)) (.sl (some (b, 0)) (delL p l).length none) (resT Tryz.results82) ⟨rfl, by rw [hown, hn]; rfl⟩ ?_)
        exact absWf (jn @hn @Nat.sub_zero)
open Go.RowKit
/-- The zonogon is apart from the cell's square. -/
def apP (x y : Int) (l : List Pt) (c : Pt) : Bool := apartB x y l (c.1 * 64) (c.2 * 64) ((c.1 + 1) * 64) ((c.2 + 1) * 64)
/-- The cells that are asked, the error, the cells that are touched. -/
def touQ (x y : Int) (l : List Pt) : List Pt := cellsR ((ifv (validB x y l) (x - spr (1, 0) l)) / 2) ((ifv (validB x y l) (y - spr (0, 1) l)) / 2) (0 - ((0 - (ifv (validB x y l) (x + spr (1, 0) l))) / 2)) (0 - ((0 - (ifv (validB x y l) (y + spr (0, 1) l))) / 2))
def touF (x y : Int) (l : List Pt) : Int := cellsE ((ifv (validB x y l) (x - spr (1, 0) l)) / 2) ((ifv (validB x y l) (y - spr (0, 1) l)) / 2) (0 - ((0 - (ifv (validB x y l) (x + spr (1, 0) l))) / 2)) (0 - ((0 - (ifv (validB x y l) (y + spr (0, 1) l))) / 2))
def touC (x y : Int) (l : List Pt) : List Pt := if validB x y l = true then touQ x y l else []
def touE (x y : Int) (l : List Pt) : Int := if validB x y l = true then touF x y l else 1
theorem touQ_len (x y : Int) (l : List Pt) : (touQ x y l).length ≤ 8192 := cells_len _ _ _ _
theorem touQ_bd {x y : Int} {l : List Pt} : ∀ c ∈ touQ x y l, (-16386 ≤ c.1 ∧ c.1 ≤ 16384) ∧ (-16386 ≤ c.2 ∧ c.2 ≤ 16384) := cellsR_bd
def touL (x y : Int) (l : List Pt) : List Pt := if touE x y l = 0 then delL (apP x y l) (touC x y l) else []
theorem touC_len (x y : Int) (l : List Pt) : (touC x y l).length ≤ 8192 := by
  unfold touC; split
  · exact cells_len _ _ _ _
  · simp
theorem touL_len (x y : Int) (l : List Pt) : (touL x y l).length ≤ 8192 := by
  unfold touL; split
  · exact Nat.le_trans delL_le (touC_len x y l)
  · simp
theorem up2 (a : Int) : (a + 1) / 2 = 0 - (0 - a) / 2 := by omega
theorem ifv_t {b : Bool} {v : Int} (h : b = true) : ifv b v = v := by unfold ifv; rw [if_pos h]
/-- Bounds of a valid zonogon are small. -/
theorem bnd_bd {x y : Int} {l : List Pt} (h : validB x y l = true) : (-2400000000000000000 ≤ ifv (validB x y l) (x - spr (1, 0) l) ∧ ifv (validB x y l) (x - spr (1, 0) l) ≤ 2400000000000000000) ∧ (-2400000000000000000 ≤ ifv (validB x y l) (y - spr (0, 1) l) ∧ ifv (validB x y l) (y - spr (0, 1) l) ≤ 2400000000000000000) ∧ (-2400000000000000000 ≤ ifv (validB x y l) (x + spr (1, 0) l) ∧ ifv (validB x y l) (x + spr (1, 0) l) ≤ 2400000000000000000) ∧ (-2400000000000000000 ≤ ifv (validB x y l) (y + spr (0, 1) l) ∧ ifv (validB x y l) (y + spr (0, 1) l) ≤ 2400000000000000000) := by
  rw [ifv_t h, ifv_t h, ifv_t h, ifv_t h]
  obtain ⟨hl16, hlB⟩ := valid_bd h
  have hxy := valid_bd3 h
  have h1 := spr_bd (n := (1, 0)) (by unfold Bd; simp) l (fun e he => by have := hlB e he; unfold Bd at *; omega)
  have h2 := spr_bd (n := (0, 1)) (by unfold Bd; simp) l (fun e he => by have := hlB e he; unfold Bd at *; omega)
  omega
open Go.RowKit
/-- Whether an arc is valid. -/
def arcB (f c : Int) : Bool := decide (0 ≤ f) && (decide (f < 256) && (decide (1 ≤ c) && (decide (c ≤ 256) && (decide (f = 0) || decide (c < 256)))))
theorem arcB_iff {f c : Int} : arcB f c = true ↔ (0 ≤ f ∧ f < 256) ∧ (1 ≤ c ∧ c ≤ 256) ∧ (f = 0 ∨ c < 256) := by
  unfold arcB
  simp only [Bool.and_eq_true, Bool.or_eq_true, decide_eq_true_eq]
  omega
/-- The arc with a first mark and a number of marks. -/
def arcF (f c : Int) : Int := if 256 ≤ c then 0 else f % 256
def arcC (c : Int) : Int := if 256 ≤ c then 256 else c
theorem arcF_ok {f c : Int} (h : 1 ≤ c) : arcB (arcF f c) (arcC c) = true := by
  rw [arcB_iff]; unfold arcF arcC; split <;> omega
/-- The marks of an arc. -/
def mrkL (f : Int) (n : Nat) : List Int := (List.range n).map fun (i : Nat) => (f + (i : Int)) % 256
theorem mrkL_len (f : Int) (n : Nat) : (mrkL f n).length = n := by simp [mrkL]
theorem mrkL_succ (f : Int) (n : Nat) : mrkL f (n + 1) = mrkL f n ++ [(f + (n : Int)) % 256] := by
  unfold mrkL; rw [List.range_succ, List.map_append]; rfl
/-- The way from a mark to another one. -/
def delI (a b : Int) : Int := if 128 ≤ (b - a) % 256 then (b - a) % 256 - 256 else (b - a) % 256
/-- How many marks an arc from a mark on needs to have all of another one. -/
def covI (s f c : Int) : Int := (f - s) % 256 + c
/-- A mark is in an arc. -/
def inArc (f c m : Int) : Prop := (m - f) % 256 < c
instance (f c m : Int) : Decidable (inArc f c m) := by unfold inArc; exact inferInstance
/-- The hull of two arcs: its first mark and its number of marks (f2: the second begin that is tried). -/
def hullP (s n bf bn : Int) : Int × Int := if n < bn ∨ (n = bn ∧ n < 256 ∧ s < bf) then (s, n) else (bf, bn)
def hullA (f c f' c' : Int) : Int × Int :=
  let p := hullP f (max (covI f f c) (covI f f' c')) 0 256
  hullP f' (max (covI f' f c) (covI f' f' c')) p.1 p.2
open Go.RowKit
def offB (n : Int) : Bool := decide (n < -1048576) || decide (1048576 < n)
def bxB (x0 y0 x1 y1 f c : Int) : Bool := decide (x0 ≤ x1) && (decide (y0 ≤ y1) && ((!([x0, y0, x1, y1].any offB)) && arcB f c))
theorem bxB_iff {x0 y0 x1 y1 f c : Int} : bxB x0 y0 x1 y1 f c = true ↔ (-1048576 ≤ x0 ∧ x0 ≤ x1 ∧ x1 ≤ 1048576) ∧ (-1048576 ≤ y0 ∧ y0 ≤ y1 ∧ y1 ≤ 1048576) ∧ arcB f c = true := by
  unfold bxB offB
  simp only [Bool.and_eq_true, decide_eq_true_eq, List.any_cons, List.any_nil, Bool.or_false, Bool.not_eq_true', Bool.or_eq_false_iff, decide_eq_false_iff_not]
  constructor
  · rintro ⟨a, b, c, d⟩; exact ⟨by omega, by omega, d⟩
  · rintro ⟨a, b, d⟩; exact ⟨by omega, by omega, by omega, d⟩
/-- As the reference asks it. -/
def arcR (f c : Int) : Bool := decide (0 ≤ f) && (decide (f < 256) && (decide (1 ≤ c) && (decide (c ≤ 256) && (decide (c < 256) || f == 0))))
theorem arcR_eq (f c : Int) : arcR f c = arcB f c := by
  rw [Bool.eq_iff_iff, arcB_iff]; unfold arcR; simp only [Bool.and_eq_true, Bool.or_eq_true, decide_eq_true_eq, beq_iff_eq]; omega
def bxR (x0 y0 x1 y1 f c : Int) : Bool := decide (-1048576 ≤ x0) && (decide (x0 ≤ x1) && (decide (x1 ≤ 1048576) && (decide (-1048576 ≤ y0) && (decide (y0 ≤ y1) && (decide (y1 ≤ 1048576) && arcB f c)))))
theorem bxR_eq (x0 y0 x1 y1 f c : Int) : bxR x0 y0 x1 y1 f c = bxB x0 y0 x1 y1 f c := by
  rw [Bool.eq_iff_iff, bxB_iff]; unfold bxR; simp only [Bool.and_eq_true, decide_eq_true_eq]
  constructor
  · rintro ⟨a, b, c, d, e, f, g⟩; exact ⟨by omega, by omega, g⟩
  · rintro ⟨a, b, g⟩; exact ⟨by omega, by omega, by omega, by omega, by omega, by omega, g⟩
def boxB (b : T6) : Bool := bxB b.1 b.2.1 b.2.2.1 b.2.2.2.1 b.2.2.2.2.1 b.2.2.2.2.2
def setB (l : List T6) : Bool := decide (((l.length : Nat) : Int) ≤ 16) && !(l.any fun b => !boxB b)
theorem setB_iff {l : List T6} : setB l = true ↔ l.length ≤ 16 ∧ ∀ b ∈ l, boxB b = true := by
  unfold setB
  rw [Bool.and_eq_true, decide_eq_true_eq, Bool.not_eq_true', List.any_eq_false]
  constructor
  · rintro ⟨a, b⟩; exact ⟨by omega, fun x hx => by have := b x hx; simpa using this⟩
  · rintro ⟨a, b⟩; exact ⟨by omega, fun x hx => by simp [b x hx]⟩
def mnI (a b : Int) : Int := if b < a then b else a
def mxI (a b : Int) : Int := if a < b then b else a
/-- The hull of two boxes. -/
def hulB (a b : T6) : T6 := (mnI a.1 b.1, mnI a.2.1 b.2.1, mxI a.2.2.1 b.2.2.1, mxI a.2.2.2.1 b.2.2.2.1, (hullA a.2.2.2.2.1 a.2.2.2.2.2 b.2.2.2.2.1 b.2.2.2.2.2).1, (hullA a.2.2.2.2.1 a.2.2.2.2.2 b.2.2.2.2.1 b.2.2.2.2.2).2)
theorem hullP_ok {s n bf bn : Int} (hs : 0 ≤ s ∧ s < 256) (hn : 1 ≤ n) (hb : arcB bf bn = true) : arcB (hullP s n bf bn).1 (hullP s n bf bn).2 = true := by
  rw [arcB_iff] at hb ⊢
  unfold hullP
  split <;> simp only <;> omega
theorem hullA_ok {f c f' c' : Int} (h : arcB f c = true) (h' : arcB f' c' = true) : arcB (hullA f c f' c').1 (hullA f c f' c').2 = true := by
  have k := arcB_iff.1 h
  have k' := arcB_iff.1 h'
  unfold hullA
  refine hullP_ok k'.1 (by unfold covI; omega) (hullP_ok k.1 (by unfold covI; omega) (by decide))
theorem hulB_ok {a b : T6} (ha : boxB a = true) (hb : boxB b = true) : boxB (hulB a b) = true := by
  unfold boxB at *
  rw [bxB_iff] at *
  unfold hulB mnI mxI
  simp only
  refine ⟨by omega, by omega, hullA_ok ha.2.2 hb.2.2⟩
def hlS (f c f2 c2 : Int) : Nat → Int × Int
  | 0 => (0, 256)
  | 1 => hullP f (max (covI f f c) (covI f f2 c2)) 0 256
  | _ + 2 => hullA f c f2 c2
theorem hlS_2 (f c f2 c2 : Int) : hlS f c f2 c2 2 = hullP f2 (max (covI f2 f c) (covI f2 f2 c2)) (hlS f c f2 c2 1).1 (hlS f c f2 c2 1).2 := rfl
theorem max_i (a b : Int) : (if a < b then b else a) = max a b := by split <;> omega
/-- The hull of the first boxes of a list, and one more. -/
def estH (l : List T6) : Nat → T6
  | 0 => g6 l 0
  | n + 1 => hulB (estH l n) (g6 l (n + 1))
theorem g6_mem {l : List T6} {j : Nat} (h : j < l.length) : g6 l j ∈ l := by
  unfold g6; rw [List.getD_eq_getElem?_getD]; simp [h]
theorem estH_ok {l : List T6} (h : ∀ b ∈ l, boxB b = true) : ∀ n : Nat, n < l.length → boxB (estH l n) = true
  | 0, hn => h _ (g6_mem hn)
  | n + 1, hn => hulB_ok (estH_ok h n (by omega)) (h _ (g6_mem hn))
open Go.RowKit
def swX (x0 y0 x1 y1 h t f tu le sl ra : Int) : Int := mkX (sweE x0 y0 x1 y1 h t f tu le sl ra) (sweX x0 x1 h f le)
def swY (x0 y0 x1 y1 h t f tu le sl ra : Int) : Int := mkX (sweE x0 y0 x1 y1 h t f tu le sl ra) (sweY y0 y1 h f le)
def swL (x0 y0 x1 y1 h t f tu le sl ra : Int) : List Pt := mkL (sweE x0 y0 x1 y1 h t f tu le sl ra) (sweL x0 y0 x1 y1 h f le sl)
def stE (x0 y0 x1 y1 h t f tu le sl ra : Int) : Int := touE (swX x0 y0 x1 y1 h t f tu le sl ra) (swY x0 y0 x1 y1 h t f tu le sl ra) (swL x0 y0 x1 y1 h t f tu le sl ra)
def stL (x0 y0 x1 y1 h t f tu le sl ra : Int) : List Pt := touL (swX x0 y0 x1 y1 h t f tu le sl ra) (swY x0 y0 x1 y1 h t f tu le sl ra) (swL x0 y0 x1 y1 h t f tu le sl ra)
theorem stL_len {x0 y0 x1 y1 h t f tu le sl ra : Int} : (stL x0 y0 x1 y1 h t f tu le sl ra).length ≤ 8192 := touL_len _ _ _
/-- The way of a command from a rectangle with a heading is free. -/
def unhB (W Hh : Int) (xs : List Int) (x0 y0 x1 y1 h t f tu le sl ra : Int) : Bool := decide (sweE x0 y0 x1 y1 h t f tu le sl ra = 0) && (decide (stE x0 y0 x1 y1 h t f tu le sl ra = 0) && !((stL x0 y0 x1 y1 h t f tu le sl ra).any fun c => atI W Hh xs c.1 c.2 != 1))
def shF (bf bc t : Int) : Int := arcF (bf + (((t % 256).toNat : Nat) : Int)) bc
def grF (F C n : Int) : Int := arcF (F - n) (C + 2 * n)
def grC (C n : Int) : Int := arcC (C + 2 * n)
/-- The headings that a box may have after a turn. -/
def mrkA (bf bc t tu : Int) : List Int := mrkL (grF (shF bf bc t) (arcC bc) tu) (grC (arcC bc) tu).toNat
def boxOK (W Hh : Int) (xs : List Int) (t f tu le sl ra : Int) (b : T6) : Bool := (mrkA b.2.2.2.2.1 b.2.2.2.2.2 t tu).all fun h => unhB W Hh xs b.1 b.2.1 b.2.2.1 b.2.2.2.1 h t f tu le sl ra
def saE (W Hh : Int) (xs : List Int) (l : List T6) (t f tu le sl ra : Int) : Int := if (vldB W Hh xs && (setB l && (cmdB t f && bndB tu le sl ra))) = true then 0 else 1
def saB (W Hh : Int) (xs : List Int) (l : List T6) (t f tu le sl ra : Int) : Bool := decide (saE W Hh xs l t f tu le sl ra = 0) && (decide (f = 0) || l.all fun b => boxOK W Hh xs t f tu le sl ra b)
theorem saE_1 {W Hh : Int} {xs : List Int} {l : List T6} {t f tu le sl ra : Int} (h : ¬ (vldB W Hh xs = true ∧ setB l = true ∧ cmdB t f = true ∧ bndB tu le sl ra = true)) : saE W Hh xs l t f tu le sl ra = 1 ∧ saB W Hh xs l t f tu le sl ra = false := by
  have e : saE W Hh xs l t f tu le sl ra = 1 := if_neg (by simp only [Bool.and_eq_true]; exact h)
  exact ⟨e, by unfold saB; rw [e]; rfl⟩
theorem saE_0 {W Hh : Int} {xs : List Int} {l : List T6} {t f tu le sl ra : Int} (h1 : vldB W Hh xs = true) (h2 : setB l = true) (h3 : cmdB t f = true) (h4 : bndB tu le sl ra = true) : saE W Hh xs l t f tu le sl ra = 0 := if_pos (by rw [h1, h2, h3, h4]; rfl)
theorem saB_z {W Hh : Int} {xs : List Int} {l : List T6} {t f tu le sl ra : Int} (he : saE W Hh xs l t f tu le sl ra = 0) (hf : f = 0) : saB W Hh xs l t f tu le sl ra = true := by
  unfold saB; rw [he, decide_eq_true hf]; rfl
theorem boxOK_t {W Hh : Int} {xs : List Int} {t f tu le sl ra : Int} {b : T6} (h : ∀ m : Nat, m < (mrkA b.2.2.2.2.1 b.2.2.2.2.2 t tu).length → unhB W Hh xs b.1 b.2.1 b.2.2.1 b.2.2.2.1 (gi (mrkA b.2.2.2.2.1 b.2.2.2.2.2 t tu) m) t f tu le sl ra = true) : boxOK W Hh xs t f tu le sl ra b = true := by
  unfold boxOK
  rw [List.all_eq_true]
  intro e he
  obtain ⟨m, hm, rfl⟩ := List.mem_iff_getElem.1 he
  rw [← gi_eq hm]; exact h m hm
theorem boxOK_f {W Hh : Int} {xs : List Int} {t f tu le sl ra : Int} {b : T6} {m : Nat} (hm : m < (mrkA b.2.2.2.2.1 b.2.2.2.2.2 t tu).length) (h : unhB W Hh xs b.1 b.2.1 b.2.2.1 b.2.2.2.1 (gi (mrkA b.2.2.2.2.1 b.2.2.2.2.2 t tu) m) t f tu le sl ra = false) : boxOK W Hh xs t f tu le sl ra b = false := by
  rw [← Bool.not_eq_true]
  intro hh
  unfold boxOK at hh
  rw [List.all_eq_true] at hh
  have := hh _ (List.getElem_mem hm)
  rw [← gi_eq hm, h] at this; cases this
theorem saB_t {W Hh : Int} {xs : List Int} {l : List T6} {t f tu le sl ra : Int} (he : saE W Hh xs l t f tu le sl ra = 0) (h : ∀ j : Nat, j < l.length → boxOK W Hh xs t f tu le sl ra (g6 l j) = true) : saB W Hh xs l t f tu le sl ra = true := by
  unfold saB
  rw [he]
  have e : (l.all fun b => boxOK W Hh xs t f tu le sl ra b) = true := by
    rw [List.all_eq_true]
    intro b hb
    obtain ⟨j, hj, rfl⟩ := List.mem_iff_getElem.1 hb
    have := h j hj
    rw [show g6 l j = l[j] from g6_eq hj] at this; exact this
  rw [e]; simp
theorem saB_f {W Hh : Int} {xs : List Int} {l : List T6} {t f tu le sl ra : Int} {j : Nat} (hf : ¬ f = 0) (hj : j < l.length) (h : boxOK W Hh xs t f tu le sl ra (g6 l j) = false) : saB W Hh xs l t f tu le sl ra = false := by
  unfold saB
  have e : (l.all fun b => boxOK W Hh xs t f tu le sl ra b) = false := by
    rw [← Bool.not_eq_true]; intro hh
    rw [List.all_eq_true] at hh
    have := hh _ (g6_mem hj)
    rw [h] at this; cases this
  rw [e, decide_eq_false hf]; simp
theorem mrkA_len {bf bc t tu : Int} (h : arcB bf bc = true) (ht : 0 ≤ tu ∧ tu ≤ 8) : (mrkA bf bc t tu).length ≤ 256 := by
  have := arcB_iff.1 h
  unfold mrkA; rw [mrkL_len]; unfold grC arcC; split <;> split <;> omega
/-- The longest safe step. -/
def choN (p : Int → Bool) : Nat → Nat
  | 0 => 0
  | n + 1 => if p ((n + 1 : Nat) : Int) = true then n + 1 else choN p n
theorem choN_le (p : Int → Bool) : ∀ n : Nat, choN p n ≤ n
  | 0 => Nat.le_refl _
  | n + 1 => by
    rw [choN]; split
    · exact Nat.le_refl _
    · have := choN_le p n; omega
theorem choN_ok {p : Int → Bool} (h0 : p 0 = true) : ∀ n : Nat, p ((choN p n : Nat) : Int) = true
  | 0 => h0
  | n + 1 => by
    rw [choN]; split
    · assumption
    · exact choN_ok h0 n
theorem choN_t {p : Int → Bool} {n : Nat} (h : p (n : Int) = true) : choN p n = n := by
  cases n with
  | zero => rfl
  | succ n => rw [choN, if_pos h]
theorem choN_f {p : Int → Bool} {n : Nat} (hn : 0 < n) (h : p (n : Int) = false) : choN p n = choN p (n - 1) := by
  cases n with
  | zero => omega
  | succ n => rw [choN, if_neg (by rw [h]; decide), Nat.add_sub_cancel]
open Go.RowKit
set_option maxRecDepth 100000 in
theorem idx_int (H : AHeap) (s : AV) (l : List Int) (hs : Sl H 1 s l.length (ints .i64 l)) (hl : l.length ≤ 1000000000) (g : FuncId) (caps : List AV) (hok : okFn Tryz.prog g = true) (hc : AV.bels H.length caps = true) (p : Int → Bool) (hf : ∀ j, j < l.length → ACalls Tryz.prog g (.int .i64 (gi l j) :: caps) H (fun v H' => v = .bool (p (gi l j)) ∧ H' = H)) :
    ACalls Tryz.prog 291 [s, .fn g caps] H (fun v H' => v = .int .i64 (idxI p l) ∧ H' = H) := by
  obtain ⟨b, own, cap, rfl, hb⟩ := hs
  have hbl := getElem?_lt hb
  have hmv := fun m sel => mvs_caps (n := H.length) (m := m) (sel := sel) hc
  (refine ACalls_run try_mixed Tryz.func291 true _ rfl (Nat.le_of_ble_eq_true (by kernel_rfl)) (by kernel_rfl) ?_; intro hbel Q hQ hQ' c hc; unfold Tryz.f291 at hc; simp only [Option.some.injEq] at hc; subst hc; clear hQ')
  simp -implicitDefEqProofs (disch := omega) only [simprocAttr, amset, tyset, Function.comp_apply, one1, lenV, calleeOf, lateOk, belowV, aop, AV.ofValue, AV.ofCell, AV.cells, AV.flat, AV.one, arep, aBin, aAppend, aConv]
  refine go_loop try_mixed (by kernel_rfl) (fun k F Hx => ∃ i : Nat, i + k = l.length ∧ (l.take i).any p = false ∧ F = [(0, .sl (some (b, 0)) l.length none), (1, .fn g caps), (7, .int .i64 l.length), (8, .int .i64 (i : Nat))] ∧ Hx = H) l.length ?_ ?_
  · refine ⟨_, _, _, ⟨0, by omega, rfl, rfl, rfl⟩, Abs.by0 hbel ?_⟩
    exact absWf @hmv
  · rintro k F Hx ⟨i, hik, ht, rfl, rfl⟩ J hJ
    by_cases hi : i < l.length
    · have hii : (i : Int) < (l.length : Int) := by omega
      have q1 := ints_get (k := .i64) hi
      have hg := gi_eq hi
      simp -implicitDefEqProofs (disch := omega) only [hii, hb, q1, ints_len, ints_ones, simprocAttr, amset, tyset, Function.comp_apply, one1, lenV, calleeOf, lateOk, belowV, aop, AV.ofValue, AV.ofCell, AV.cells, AV.flat, AV.one, arep, aBin, aAppend, aConv]
      refine And.intro (by omega) ?_
      refine call_v hok (hf i hi) ?_
      have hst := any_step (p := p) hi
      rw [ht, Bool.false_or, ← hg] at hst
      cases h1 : p (gi l i)
      · rw [h1] at hst
        simp -implicitDefEqProofs (disch := omega) only [h1, simprocAttr, amset, tyset, Function.comp_apply, one1, lenV, calleeOf, lateOk, belowV, aop, AV.ofValue, AV.ofCell, AV.cells, AV.flat, AV.one, arep, aBin, aAppend, aConv]
        refine hJ _ _ ⟨k - 1, by omega, _, _, _, ⟨i + 1, by omega, hst, rfl, rfl⟩, Abs.by0 hbel ?_⟩
        exact absWf @hmv
      · simp -implicitDefEqProofs (disch := omega) only [h1, simprocAttr, amset, tyset, Function.comp_apply, one1, lenV, calleeOf, lateOk, belowV, aop, AV.ofValue, AV.ofCell, AV.cells, AV.flat, AV.one, arep, aBin, aAppend, aConv]
        exact hQ _ _ (end_plain0 (.inl rfl) hbel (x := .int .i64 (i : Nat)) (resT Tryz.results291) rfl ⟨by rw [idxI_at hi ht (by rw [← hg]; exact h1)], rfl⟩)
    · have hnn : ¬ ((i : Int) < (l.length : Int)) := by omega
      simp -implicitDefEqProofs (disch := omega) only [hnn, simprocAttr, amset, tyset, Function.comp_apply, one1, lenV, calleeOf, lateOk, belowV, aop, AV.ofValue, AV.ofCell, AV.cells, AV.flat, AV.one, arep, aBin, aAppend, aConv]
      rw [List.take_of_length_le (by omega)] at ht
      exact hQ _ _ (end_plain0 (.inl rfl) hbel (x := .int .i64 (-1)) (resT Tryz.results291) rfl ⟨by rw [idxI_none ht], rfl⟩)
theorem has_int (H : AHeap) (s : AV) (l : List Int) (hs : Sl H 1 s l.length (ints .i64 l)) (hl : l.length ≤ 1000000000) (g : FuncId) (caps : List AV) (hok : okFn Tryz.prog g = true) (hc : AV.bels H.length caps = true) (p : Int → Bool) (hf : ∀ j, j < l.length → ACalls Tryz.prog g (.int .i64 (gi l j) :: caps) H (fun v H' => v = .bool (p (gi l j)) ∧ H' = H)) :
    ACalls Tryz.prog 223 [s, .fn g caps] H (fun v H' => v = .bool (l.any p) ∧ H' = H) := by
  have key := idx_int H s l hs hl g caps hok hc p hf
  obtain ⟨b, own, cap, rfl, hb⟩ := hs
  have hbl := getElem?_lt hb
  (refine ACalls_run try_mixed Tryz.func223 true _ rfl (Nat.le_of_ble_eq_true (by kernel_rfl)) (by kernel_rfl) ?_; intro hbel Q hQ hQ' c hc; unfold Tryz.f223 at hc; simp only [Option.some.injEq] at hc; subst hc; clear hQ')
  simp -implicitDefEqProofs (disch := omega) only [simprocAttr, amset, tyset, Function.comp_apply, one1, lenV, calleeOf, lateOk, belowV, aop, AV.ofValue, AV.ofCell, AV.cells, AV.flat, AV.one, arep, aBin, aAppend, aConv]
  refine call_v (by kernel_rfl) key ?_
  simp -implicitDefEqProofs (disch := omega) only [simprocAttr, amset, tyset, Function.comp_apply, one1, lenV, calleeOf, lateOk, belowV, aop, AV.ofValue, AV.ofCell, AV.cells, AV.flat, AV.one, arep, aBin, aAppend, aConv]
  exact hQ _ _ (end_plain0 (.inl rfl) hbel (x := .bool (decide (0 ≤ idxI p l))) (resT Tryz.results223) rfl ⟨by rw [idxI_any], rfl⟩)
open Go.RowKit
set_option maxRecDepth 100000 in
theorem idx_box (H : AHeap) (s : AV) (l : List T6) (hs : Sl H 6 s l.length (r6 l)) (hl : l.length ≤ 1000000000) (g : FuncId) (caps : List AV) (hok : okFn Tryz.prog g = true) (hc : AV.bels H.length caps = true) (p : T6 → Bool) (hf : ∀ j, j < l.length → ACalls Tryz.prog g (.agg [.int .i64 (g61 l j), .int .i64 (g62 l j), .int .i64 (g63 l j), .int .i64 (g64 l j), .int .i64 (g65 l j), .int .i64 (g66 l j)] :: caps) H (fun v H' => v = .bool (p (g61 l j, g62 l j, g63 l j, g64 l j, g65 l j, g66 l j)) ∧ H' = H)) :
    ACalls Tryz.prog 178 [s, .fn g caps] H (fun v H' => v = .int .i64 (idxI p l) ∧ H' = H) := by
  obtain ⟨b, own, cap, rfl, hb⟩ := hs
  have hbl := getElem?_lt hb
  have hmv := fun m sel => mvs_caps (n := H.length) (m := m) (sel := sel) hc
  (refine ACalls_run try_mixed Tryz.func178 true _ rfl (Nat.le_of_ble_eq_true (by kernel_rfl)) (by kernel_rfl) ?_; intro hbel Q hQ hQ' c hc; unfold Tryz.f178 at hc; simp only [Option.some.injEq] at hc; subst hc; clear hQ')
  simp -implicitDefEqProofs (disch := omega) only [simprocAttr, amset, tyset, Function.comp_apply, one1, lenV, calleeOf, lateOk, belowV, aop, AV.ofValue, AV.ofCell, AV.cells, AV.flat, AV.one, arep, aBin, aAppend, aConv]
  refine go_loop try_mixed (by kernel_rfl) (fun k F Hx => ∃ i : Nat, i + k = l.length ∧ (l.take i).any p = false ∧ F = [(0, .sl (some (b, 0)) l.length none), (1, .fn g caps), (7, .int .i64 l.length), (8, .int .i64 (i : Nat))] ∧ Hx = H) l.length ?_ ?_
  · refine ⟨_, _, _, ⟨0, by omega, rfl, rfl, rfl⟩, Abs.by0 hbel ?_⟩
    exact absWf @hmv
  · rintro k F Hx ⟨i, hik, ht, rfl, rfl⟩ J hJ
    by_cases hi : i < l.length
    · have hii : (i : Int) < (l.length : Int) := by omega
      have q1 := r6_load hi
      have hg := g6_eq hi
      simp -implicitDefEqProofs (disch := omega) only [hii, hb, q1, r6_len, r6_one, simprocAttr, amset, tyset, Function.comp_apply, one1, lenV, calleeOf, lateOk, belowV, aop, AV.ofValue, AV.ofCell, AV.cells, AV.flat, AV.one, arep, aBin, aAppend, aConv]
      iterate 2 refine And.intro (by omega) ?_
      refine call_v hok (hf i hi) ?_
      have hst := any_step (p := p) hi
      rw [ht, Bool.false_or, ← hg] at hst
      cases h1 : p (g61 l i, g62 l i, g63 l i, g64 l i, g65 l i, g66 l i)
      · rw [h1] at hst
        simp -implicitDefEqProofs (disch := omega) only [h1, simprocAttr, amset, tyset, Function.comp_apply, one1, lenV, calleeOf, lateOk, belowV, aop, AV.ofValue, AV.ofCell, AV.cells, AV.flat, AV.one, arep, aBin, aAppend, aConv]
        refine hJ _ _ ⟨k - 1, by omega, _, _, _, ⟨i + 1, by omega, hst, rfl, rfl⟩, Abs.by0 hbel ?_⟩
        exact absWf @hmv
      · simp -implicitDefEqProofs (disch := omega) only [h1, simprocAttr, amset, tyset, Function.comp_apply, one1, lenV, calleeOf, lateOk, belowV, aop, AV.ofValue, AV.ofCell, AV.cells, AV.flat, AV.one, arep, aBin, aAppend, aConv]
        exact hQ _ _ (end_plain0 (.inl rfl) hbel (x := .int .i64 (i : Nat)) (resT Tryz.results178) rfl ⟨by rw [idxI_at hi ht (by rw [← hg]; exact h1)], rfl⟩)
    · have hnn : ¬ ((i : Int) < (l.length : Int)) := by omega
      simp -implicitDefEqProofs (disch := omega) only [hnn, simprocAttr, amset, tyset, Function.comp_apply, one1, lenV, calleeOf, lateOk, belowV, aop, AV.ofValue, AV.ofCell, AV.cells, AV.flat, AV.one, arep, aBin, aAppend, aConv]
      rw [List.take_of_length_le (by omega)] at ht
      exact hQ _ _ (end_plain0 (.inl rfl) hbel (x := .int .i64 (-1)) (resT Tryz.results178) rfl ⟨by rw [idxI_none ht], rfl⟩)
theorem has_box (H : AHeap) (s : AV) (l : List T6) (hs : Sl H 6 s l.length (r6 l)) (hl : l.length ≤ 1000000000) (g : FuncId) (caps : List AV) (hok : okFn Tryz.prog g = true) (hc : AV.bels H.length caps = true) (p : T6 → Bool) (hf : ∀ j, j < l.length → ACalls Tryz.prog g (.agg [.int .i64 (g61 l j), .int .i64 (g62 l j), .int .i64 (g63 l j), .int .i64 (g64 l j), .int .i64 (g65 l j), .int .i64 (g66 l j)] :: caps) H (fun v H' => v = .bool (p (g61 l j, g62 l j, g63 l j, g64 l j, g65 l j, g66 l j)) ∧ H' = H)) :
    ACalls Tryz.prog 92 [s, .fn g caps] H (fun v H' => v = .bool (l.any p) ∧ H' = H) := by
  have key := idx_box H s l hs hl g caps hok hc p hf
  obtain ⟨b, own, cap, rfl, hb⟩ := hs
  have hbl := getElem?_lt hb
  (refine ACalls_run try_mixed Tryz.func92 true _ rfl (Nat.le_of_ble_eq_true (by kernel_rfl)) (by kernel_rfl) ?_; intro hbel Q hQ hQ' c hc; unfold Tryz.f92 at hc; simp only [Option.some.injEq] at hc; subst hc; clear hQ')
  simp -implicitDefEqProofs (disch := omega) only [simprocAttr, amset, tyset, Function.comp_apply, one1, lenV, calleeOf, lateOk, belowV, aop, AV.ofValue, AV.ofCell, AV.cells, AV.flat, AV.one, arep, aBin, aAppend, aConv]
  refine call_v (by kernel_rfl) key ?_
  simp -implicitDefEqProofs (disch := omega) only [simprocAttr, amset, tyset, Function.comp_apply, one1, lenV, calleeOf, lateOk, belowV, aop, AV.ofValue, AV.ofCell, AV.cells, AV.flat, AV.one, arep, aBin, aAppend, aConv]
  exact hQ _ _ (end_plain0 (.inl rfl) hbel (x := .bool (decide (0 ≤ idxI p l))) (resT Tryz.results92) rfl ⟨by rw [idxI_any], rfl⟩)
open Go.RowKit
set_option maxHeartbeats 4000000
set_option maxRecDepth 100000
theorem small1_c (H : AHeap) (n : Int) : ACalls Tryz.prog 262 [.int .i64 n] H (fun v H' => v = .bool (offB n) ∧ H' = H) := by
  refine AcT true Tryz.func262 ?_; intro hbel Q hQ
  refine runT ?_
  refine gd_split (fun h1 => ?_) (fun h1 => ?_)
  · have h1d := bsT h1
    have g'1 := (jn @h1 @h1d)
    refine runTf g'1 ?_
    exact hQ _ _ (end_plain0 (.inl rfl) hbel (x := .bool (decide (1048576 < n))) (resT Tryz.results262) rfl ⟨by simp [offB, h1d], rfl⟩)
  · have h1d := bsT h1
    have g'2 := (jn @h1 @h1d)
    refine runTf g'2 ?_
    exact hQ _ _ (end_plain0 (.inl rfl) hbel (x := .bool true) (resT Tryz.results262) rfl ⟨by simp [offB, h1d], rfl⟩)
theorem small_c (H : AHeap) (s : AV) (l : List Int) (hs : Sl H 1 s l.length (ints .i64 l)) (hl : l.length ≤ 1000000) : ACalls Tryz.prog 182 [s] H (fun v H' => v = .bool (!(l.any offB)) ∧ H' = H) := by
  obtain ⟨bs, os, cs, rfl, hbs⟩ := hs
  have hbls := getElem?_lt hbs
  have hb0s := fun l => get_app (l := l) hbs
  refine AcT true Tryz.func182 ?_; intro hbel Q hQ
  have g'3 := (jn @hbs @hb0s)
  refine runTf g'3 ?_
  refine call_v (by kernel_rfl) (has_int _ _ l ⟨_, _, _, rfl, by first | exact hb0s _ | exact hbs⟩ (by omega) _ [] (by kernel_rfl) rfl offB (fun j hj => small1_c _ _)) ?_
  refine runTf g'3 ?_
  exact hQ _ _ (end_plain0 (.inl rfl) hbel (x := .bool (!(l.any offB))) (resT Tryz.results182) rfl ⟨rfl, rfl⟩)
theorem varc_c (H : AHeap) (f : Int) (c : Int) : ACalls Tryz.prog 183 [.agg [.int .i64 f, .int .i64 c]] H (fun v H' => v = .bool (arcB f c) ∧ H' = H) := by
  refine AcT true Tryz.func183 ?_; intro hbel Q hQ
  refine runT ?_
  refine gd_split (fun h1 => ?_) (fun h1 => ?_)
  · have h1d := bsT h1
    have g'4 := (jn @h1 @h1d)
    refine runTf g'4 ?_
    refine gd_split (fun h2 => ?_) (fun h2 => ?_)
    · have h2d := bsT h2
      have g'5 := (jn @h2 (jn @h2d g'4))
      refine runTf g'5 ?_
      refine gd_split (fun h3 => ?_) (fun h3 => ?_)
      · have h3d := bsT h3
        have g'6 := (jn @h3 (jn @h3d g'5))
        refine runTf g'6 ?_
        refine gd_split (fun h4 => ?_) (fun h4 => ?_)
        · have h4d := bsT h4
          have g'7 := (jn @h4 (jn @h4d g'6))
          refine runTf g'7 ?_
          refine gd_split (fun h5 => ?_) (fun h5 => ?_)
          · have h5d := bsT h5
            have h5n := bnT h5
            have g'8 := (jn @h5 (jn @h5n (jn @int_bne (jn @int_beq g'7))))
            refine runTf g'8 ?_
            exact hQ _ _ (end_plain (.inl rfl) hbel (x := .bool (decide (c < 256))) (resT Tryz.results183) rfl ⟨by first | (simp [arcB, h1d, h2d, h3d, h4d, h5d]; done) | (simp [arcB, h1d, h2d, h3d, h4d, h5d]; omega), rfl⟩)
          · have h5d := bsT h5
            have h5n := bnT h5
            have g'9 := (jn @h5 (jn @h5n (jn @int_bne (jn @int_beq g'7))))
            refine runTf g'9 ?_
            exact hQ _ _ (end_plain (.inl rfl) hbel (x := .bool true) (resT Tryz.results183) rfl ⟨by first | (simp [arcB, h1d, h2d, h3d, h4d, h5d]; done) | (simp [arcB, h1d, h2d, h3d, h4d, h5d]; omega), rfl⟩)
        · have h4d := bsT h4
          have g'10 := (jn @h4 (jn @h4d g'6))
          refine runTf g'10 ?_
          exact hQ _ _ (end_plain (.inl rfl) hbel (x := .bool false) (resT Tryz.results183) rfl ⟨by first | (simp [arcB, h1d, h2d, h3d, h4d]; done) | (simp [arcB, h1d, h2d, h3d, h4d]; omega), rfl⟩)
      · have h3d := bsT h3
        have g'11 := (jn @h3 (jn @h3d g'5))
        refine runTf g'11 ?_
        exact hQ _ _ (end_plain (.inl rfl) hbel (x := .bool false) (resT Tryz.results183) rfl ⟨by first | (simp [arcB, h1d, h2d, h3d]; done) | (simp [arcB, h1d, h2d, h3d]; omega), rfl⟩)
    · have h2d := bsT h2
      have g'12 := (jn @h2 (jn @h2d g'4))
      refine runTf g'12 ?_
      exact hQ _ _ (end_plain (.inl rfl) hbel (x := .bool false) (resT Tryz.results183) rfl ⟨by first | (simp [arcB, h1d, h2d]; done) | (simp [arcB, h1d, h2d]; omega), rfl⟩)
  · have h1d := bsT h1
    have g'13 := (jn @h1 @h1d)
    refine runTf g'13 ?_
    exact hQ _ _ (end_plain (.inl rfl) hbel (x := .bool false) (resT Tryz.results183) rfl ⟨by first | (simp [arcB, h1d]; done) | (simp [arcB, h1d]; omega), rfl⟩)
theorem barc_c (H : AHeap) (f : Int) (c : Int) : ACalls Tryz.prog 177 [.agg [.int .i64 f, .int .i64 c]] H (fun v H' => v = .bool (arcB f c) ∧ H' = H) := by
  refine AcT true Tryz.func177 ?_; intro hbel Q hQ
  refine runT ?_
  refine gd_split (fun h1 => ?_) (fun h1 => ?_)
  · have h1d := bsT h1
    have g'14 := (jn @h1 @h1d)
    refine runTf g'14 ?_
    refine gd_split (fun h2 => ?_) (fun h2 => ?_)
    · have h2d := bsT h2
      have g'15 := (jn @h2 (jn @h2d g'14))
      refine runTf g'15 ?_
      refine gd_split (fun h3 => ?_) (fun h3 => ?_)
      · have h3d := bsT h3
        have g'16 := (jn @h3 (jn @h3d g'15))
        refine runTf g'16 ?_
        refine gd_split (fun h4 => ?_) (fun h4 => ?_)
        · have h4d := bsT h4
          have g'17 := (jn @h4 (jn @h4d g'16))
          refine runTf g'17 ?_
          refine gd_split (fun h5 => ?_) (fun h5 => ?_)
          · have h5d := bsT h5
            have g'18 := (jn @h5 (jn @h5d g'17))
            refine runTf g'18 ?_
            exact hQ _ _ (end_plain (.inl rfl) hbel (x := .bool (f == 0)) (resT Tryz.results177) rfl ⟨by rw [← arcR_eq]; first | (simp [arcR, h1d, h2d, h3d, h4d, h5d]; done) | (simp [arcR, h1d, h2d, h3d, h4d, h5d]; omega), rfl⟩)
          · have h5d := bsT h5
            have g'19 := (jn @h5 (jn @h5d g'17))
            refine runTf g'19 ?_
            exact hQ _ _ (end_plain (.inl rfl) hbel (x := .bool true) (resT Tryz.results177) rfl ⟨by rw [← arcR_eq]; first | (simp [arcR, h1d, h2d, h3d, h4d, h5d]; done) | (simp [arcR, h1d, h2d, h3d, h4d, h5d]; omega), rfl⟩)
        · have h4d := bsT h4
          have g'20 := (jn @h4 (jn @h4d g'16))
          refine runTf g'20 ?_
          exact hQ _ _ (end_plain (.inl rfl) hbel (x := .bool false) (resT Tryz.results177) rfl ⟨by rw [← arcR_eq]; first | (simp [arcR, h1d, h2d, h3d, h4d]; done) | (simp [arcR, h1d, h2d, h3d, h4d]; omega), rfl⟩)
      · have h3d := bsT h3
        have g'21 := (jn @h3 (jn @h3d g'15))
        refine runTf g'21 ?_
        exact hQ _ _ (end_plain (.inl rfl) hbel (x := .bool false) (resT Tryz.results177) rfl ⟨by rw [← arcR_eq]; first | (simp [arcR, h1d, h2d, h3d]; done) | (simp [arcR, h1d, h2d, h3d]; omega), rfl⟩)
    · have h2d := bsT h2
      have g'22 := (jn @h2 (jn @h2d g'14))
      refine runTf g'22 ?_
      exact hQ _ _ (end_plain (.inl rfl) hbel (x := .bool false) (resT Tryz.results177) rfl ⟨by rw [← arcR_eq]; first | (simp [arcR, h1d, h2d]; done) | (simp [arcR, h1d, h2d]; omega), rfl⟩)
  · have h1d := bsT h1
    have g'23 := (jn @h1 @h1d)
    refine runTf g'23 ?_
    exact hQ _ _ (end_plain (.inl rfl) hbel (x := .bool false) (resT Tryz.results177) rfl ⟨by rw [← arcR_eq]; first | (simp [arcR, h1d]; done) | (simp [arcR, h1d]; omega), rfl⟩)
theorem xarc_c (H : AHeap) (x0 : Int) (y0 : Int) (x1 : Int) (y1 : Int) (f : Int) (c : Int) : ACalls Tryz.prog 180 [.agg [.int .i64 x0, .int .i64 y0, .int .i64 x1, .int .i64 y1, .int .i64 f, .int .i64 c]] H (fun v H' => v = .agg [.int .i64 f, .int .i64 c] ∧ H' = H) := by
  refine AcT true Tryz.func180 ?_; intro hbel Q hQ
  refine runT ?_
  exact hQ _ _ (end_plain (.inl rfl) hbel (x := .agg [.int .i64 f, .int .i64 c]) (resT Tryz.results180) rfl ⟨rfl, rfl⟩)
theorem bxv_c (H : AHeap) (x0 : Int) (y0 : Int) (x1 : Int) (y1 : Int) (f : Int) (c : Int) : ACalls Tryz.prog 96 [.agg [.int .i64 x0, .int .i64 y0, .int .i64 x1, .int .i64 y1, .int .i64 f, .int .i64 c]] H (fun v H' => v = .bool (bxB x0 y0 x1 y1 f c) ∧ H' = H) := by
  refine AcT true Tryz.func96 ?_; intro hbel Q hQ
  refine runT ?_
  refine gd_split (fun h1 => ?_) (fun h1 => ?_)
  · have h1d := bsT h1
    have g'24 := (jn @h1 @h1d)
    refine runTf g'24 ?_
    refine gd_split (fun h2 => ?_) (fun h2 => ?_)
    · have h2d := bsT h2
      have g'25 := (jn @h2 (jn @h2d g'24))
      refine runTf g'25 ?_
      refine call_v (by kernel_rfl) (small_c _ _ [x0, y0, x1, y1] ⟨_, _, _, by first | rfl | (rw [List.length_append]; done) | (rw [List.length_append]; rfl), by first | rfl | (rw [get_newk]; rfl) | (rw [get_new0]; rfl) | (rw [get_newk, prs_append]; rfl) | (rw [get_new0, prs_append]; rfl)⟩ (by first | decide | omega | simp)) ?_
      refine runTf g'25 ?_
      refine gd_split (fun h3 => ?_) (fun h3 => ?_)
      · have h3d := bsT h3
        have g'26 := (jn @h3 (jn @h3d g'25))
        refine runTf g'26 ?_
        refine call_v (by kernel_rfl) (xarc_c _ x0 y0 x1 y1 f c) ?_
        refine runTf g'26 ?_
        refine call_v (by kernel_rfl) (varc_c _ f c) ?_
        refine runTf g'26 ?_
        exact hQ _ _ (end_plain (.inl rfl) hbel (x := .bool (arcB f c)) (resT Tryz.results96) rfl ⟨by first | (simp [bxB, h1d, h2d, h3d]; done) | (unfold bxB; simp only [h1d, h2d, h3d]; rfl), rfl⟩)
      · have h3d := bsT h3
        have g'27 := (jn @h3 (jn @h3d g'25))
        refine runTf g'27 ?_
        exact hQ _ _ (end_plain (.inl rfl) hbel (x := .bool false) (resT Tryz.results96) rfl ⟨by first | (simp [bxB, h1d, h2d, h3d]; done) | (unfold bxB; simp only [h1d, h2d, h3d]; rfl), rfl⟩)
    · have h2d := bsT h2
      have g'28 := (jn @h2 (jn @h2d g'24))
      refine runTf g'28 ?_
      exact hQ _ _ (end_plain (.inl rfl) hbel (x := .bool false) (resT Tryz.results96) rfl ⟨by first | (simp [bxB, h1d, h2d]; done) | (unfold bxB; simp only [h1d, h2d]; rfl), rfl⟩)
  · have h1d := bsT h1
    have g'29 := (jn @h1 @h1d)
    refine runTf g'29 ?_
    exact hQ _ _ (end_plain (.inl rfl) hbel (x := .bool false) (resT Tryz.results96) rfl ⟨by first | (simp [bxB, h1d]; done) | (unfold bxB; simp only [h1d]; rfl), rfl⟩)
theorem bbx_c (H : AHeap) (x0 : Int) (y0 : Int) (x1 : Int) (y1 : Int) (f : Int) (c : Int) : ACalls Tryz.prog 91 [.agg [.int .i64 x0, .int .i64 y0, .int .i64 x1, .int .i64 y1, .int .i64 f, .int .i64 c]] H (fun v H' => v = .bool (bxB x0 y0 x1 y1 f c) ∧ H' = H) := by
  refine AcT true Tryz.func91 ?_; intro hbel Q hQ
  refine runT ?_
  refine gd_split (fun h1 => ?_) (fun h1 => ?_)
  · have h1d := bsT h1
    have g'30 := (jn @h1 @h1d)
    refine runTf g'30 ?_
    refine gd_split (fun h2 => ?_) (fun h2 => ?_)
    · have h2d := bsT h2
      have g'31 := (jn @h2 (jn @h2d g'30))
      refine runTf g'31 ?_
      refine gd_split (fun h3 => ?_) (fun h3 => ?_)
      · have h3d := bsT h3
        have g'32 := (jn @h3 (jn @h3d g'31))
        refine runTf g'32 ?_
        refine gd_split (fun h4 => ?_) (fun h4 => ?_)
        · have h4d := bsT h4
          have g'33 := (jn @h4 (jn @h4d g'32))
          refine runTf g'33 ?_
          refine gd_split (fun h5 => ?_) (fun h5 => ?_)
          · have h5d := bsT h5
            have g'34 := (jn @h5 (jn @h5d g'33))
            refine runTf g'34 ?_
            refine gd_split (fun h6 => ?_) (fun h6 => ?_)
            · have h6d := bsT h6
              have g'35 := (jn @h6 (jn @h6d g'34))
              refine runTf g'35 ?_
              refine call_v (by kernel_rfl) (barc_c _ f c) ?_
              refine runTf g'35 ?_
              exact hQ _ _ (end_plain (.inl rfl) hbel (x := .bool (arcB f c)) (resT Tryz.results91) rfl ⟨by rw [← bxR_eq]; simp [bxR, h1d, h2d, h3d, h4d, h5d, h6d], rfl⟩)
            · have h6d := bsT h6
              have g'36 := (jn @h6 (jn @h6d g'34))
              refine runTf g'36 ?_
              exact hQ _ _ (end_plain (.inl rfl) hbel (x := .bool false) (resT Tryz.results91) rfl ⟨by rw [← bxR_eq]; simp [bxR, h1d, h2d, h3d, h4d, h5d, h6d], rfl⟩)
          · have h5d := bsT h5
            have g'37 := (jn @h5 (jn @h5d g'33))
            refine runTf g'37 ?_
            exact hQ _ _ (end_plain (.inl rfl) hbel (x := .bool false) (resT Tryz.results91) rfl ⟨by rw [← bxR_eq]; simp [bxR, h1d, h2d, h3d, h4d, h5d], rfl⟩)
        · have h4d := bsT h4
          have g'38 := (jn @h4 (jn @h4d g'32))
          refine runTf g'38 ?_
          exact hQ _ _ (end_plain (.inl rfl) hbel (x := .bool false) (resT Tryz.results91) rfl ⟨by rw [← bxR_eq]; simp [bxR, h1d, h2d, h3d, h4d], rfl⟩)
      · have h3d := bsT h3
        have g'39 := (jn @h3 (jn @h3d g'31))
        refine runTf g'39 ?_
        exact hQ _ _ (end_plain (.inl rfl) hbel (x := .bool false) (resT Tryz.results91) rfl ⟨by rw [← bxR_eq]; simp [bxR, h1d, h2d, h3d], rfl⟩)
    · have h2d := bsT h2
      have g'40 := (jn @h2 (jn @h2d g'30))
      refine runTf g'40 ?_
      exact hQ _ _ (end_plain (.inl rfl) hbel (x := .bool false) (resT Tryz.results91) rfl ⟨by rw [← bxR_eq]; simp [bxR, h1d, h2d], rfl⟩)
  · have h1d := bsT h1
    have g'41 := (jn @h1 @h1d)
    refine runTf g'41 ?_
    exact hQ _ _ (end_plain (.inl rfl) hbel (x := .bool false) (resT Tryz.results91) rfl ⟨by rw [← bxR_eq]; simp [bxR, h1d], rfl⟩)
theorem vset1_c (H : AHeap) (x0 : Int) (y0 : Int) (x1 : Int) (y1 : Int) (f : Int) (c : Int) : ACalls Tryz.prog 195 [.agg [.int .i64 x0, .int .i64 y0, .int .i64 x1, .int .i64 y1, .int .i64 f, .int .i64 c]] H (fun v H' => v = .bool (!(bxB x0 y0 x1 y1 f c)) ∧ H' = H) := by
  refine AcT true Tryz.func195 ?_; intro hbel Q hQ
  refine runT ?_
  refine call_v (by kernel_rfl) (bxv_c _ x0 y0 x1 y1 f c) ?_
  refine runT ?_
  exact hQ _ _ (end_plain (.inl rfl) hbel (x := .bool (!(bxB x0 y0 x1 y1 f c))) (resT Tryz.results195) rfl ⟨rfl, rfl⟩)
theorem vset_c (H : AHeap) (s : AV) (l : List T6) (hs : Sl H 6 s l.length (r6 l)) (hl : l.length ≤ 1000000000) : ACalls Tryz.prog 109 [s] H (fun v H' => v = .bool (setB l) ∧ H' = H) := by
  obtain ⟨bs, os, cs, rfl, hbs⟩ := hs
  have hbls := getElem?_lt hbs
  have hb0s := fun l => get_app (l := l) hbs
  refine AcT true Tryz.func109 ?_; intro hbel Q hQ
  have g'42 := (jn @hbs @hb0s)
  refine runTf g'42 ?_
  refine gd_split (fun h1 => ?_) (fun h1 => ?_)
  · have h1d := bsT h1
    have g'43 := (jn @h1 (jn @h1d g'42))
    refine runTf g'43 ?_
    refine call_v (by kernel_rfl) (has_box _ _ l ⟨_, _, _, rfl, by first | exact hb0s _ | exact hbs⟩ (by omega) _ [] (by kernel_rfl) rfl (fun b => !boxB b) (fun j hj => vset1_c _ _ _ _ _ _ _)) ?_
    refine runTf g'43 ?_
    exact hQ _ _ (end_plain0 (.inl rfl) hbel (x := .bool (!(l.any (fun b => !boxB b)))) (resT Tryz.results109) rfl ⟨by first | (simp [setB, h1d]; done) | (unfold setB; simp only [h1]; rfl), rfl⟩)
  · have h1d := bsT h1
    have g'44 := (jn @h1 (jn @h1d g'42))
    refine runTf g'44 ?_
    exact hQ _ _ (end_plain0 (.inl rfl) hbel (x := .bool false) (resT Tryz.results109) rfl ⟨by first | (simp [setB, h1d]; done) | (unfold setB; simp only [h1]; rfl), rfl⟩)
theorem bset_c (H : AHeap) (s : AV) (l : List T6) (hs : Sl H 6 s l.length (r6 l)) (hl : l.length ≤ 1000000000) : ACalls Tryz.prog 28 [s] H (fun v H' => v = .bool (setB l) ∧ H' = H) := by
  obtain ⟨bs, os, cs, rfl, hbs⟩ := hs
  have hbls := getElem?_lt hbs
  have hb0s := fun l => get_app (l := l) hbs
  refine AcT true Tryz.func28 ?_; intro hbel Q hQ
  have g'45 := (jn @hbs @hb0s)
  refine runTf g'45 ?_
  refine cond_split (fun h1 => ?_) (fun h1 => ?_)
  · have h1d := bsT h1
    have hfinS : setB l = false := by unfold setB; rw [decide_eq_false (by omega)]; rfl
    have g'46 := (jn @h1 (jn @h1d g'45))
    refine runTf g'46 ?_
    exact hQ _ _ (end_plain0 (.inl rfl) hbel (x := .bool false) (resT Tryz.results28) rfl ⟨by first | (rw [hfinS]; done) | (simp [setB, h1d, hfinS]; done), rfl⟩)
  · have h1d := bsT h1
    have g'47 := (jn @h1 (jn @h1d g'45))
    refine runTf g'47 ?_
    refine go_loop try_mixed (by kernel_rfl) (fun k F Hx => ∃ i : Nat, i + k = l.length ∧ (∀ j : Nat, j < i → boxB (g6 l j) = true) ∧ F = [(0, .sl (some (bs, 0)) l.length cs), (3, .int .i64 ((i : Nat) : Int))] ∧ H = Hx) (l.length) ?_ ?_
    · refine ⟨_, _, _, ⟨0, by omega, fun j h => by omega, rfl, rfl⟩, Abs.by0 hbel ?_⟩
      exact absW
    · rintro k0 F Hx ⟨i, hm0, hal, rfl, rfl⟩ J0 hJ0
      refine runTf g'47 ?_
      refine cond_split (fun h2 => ?_) (fun h2 => ?_)
      · have h2d := bsT h2
        have q3 := r6_load (l := l) (j := i) (by omega)
        have g'48 := (jn @h2 (jn @h2d (jn @r6_len (jn @q3 g'47))))
        refine runTf g'48 ?_
        refine call_v (by kernel_rfl) (bbx_c _ (g61 l i) (g62 l i) (g63 l i) (g64 l i) (g65 l i) (g66 l i)) ?_
        refine runTf g'48 ?_
        refine cond_split (fun h4 => ?_) (fun h4 => ?_)
        · have h4d := bsT h4
          have hfinS : setB l = false := by
            rw [← Bool.not_eq_true, setB_iff]; intro hh
            have := hh.2 (g6 l i) (g6_mem (by omega))
            exact absurd (this.symm.trans h4d) (by decide)
          have g'49 := (jn @h4 (jn @h4d g'48))
          refine runTf g'49 ?_
          exact hQ _ _ (end_plain0 (.inl rfl) hbel (x := .bool false) (resT Tryz.results28) rfl ⟨by first | (rw [hfinS]; done) | (simp [setB, h1d, h2d, h4d, hfinS]; done), rfl⟩)
        · have h4d := bsT h4
          have hbi : boxB (g6 l i) = true := h4d
          have g'50 := (jn @h4 (jn @h4d g'48))
          refine runTf g'50 ?_
          refine hJ0 _ _ ⟨k0 - 1, by omega, _, _, _, ⟨i + 1, by omega, fun j hj => by
                      rcases Nat.lt_or_ge j i with h | h
                      · exact hal j h
                      · rw [show j = i by omega]; exact hbi, rfl, rfl⟩, Abs.by0 hbel ?_⟩
          exact absW
      · have h2d := bsT h2
        have hfinS : setB l = true := setB_iff.2 ⟨by omega, fun b hb => by
          obtain ⟨j, hj, e⟩ := List.mem_iff_getElem.1 hb
          rw [← e, ← g6_eq hj]; exact hal j (by omega)⟩
        have g'51 := (jn @h2 (jn @h2d g'47))
        refine runTf g'51 ?_
        exact hQ _ _ (end_plain0 (.inl rfl) hbel (x := .bool true) (resT Tryz.results28) rfl ⟨by first | (rw [hfinS]; done) | (simp [setB, h1d, h2d, hfinS]; done), rfl⟩)
theorem covers_c (H : AHeap) (s : Int) (f : Int) (c : Int) (k1 : 0 ≤ s ∧ s ≤ 255) (k2 : 0 ≤ f ∧ f ≤ 255) (k3 : 0 ≤ c ∧ c ≤ 256) : ACalls Tryz.prog 334 [.int .i64 s, .agg [.int .i64 f, .int .i64 c]] H (fun v H' => v = .int .i64 (covI s f c) ∧ H' = H) := by
  refine AcT true Tryz.func334 ?_; intro hbel Q hQ
  refine runT ?_
  refine call_d (by kernel_rfl) (mark_c _ (f - s)) ?_
  refine runT ?_
  exact hQ _ _ (end_plain (.inl rfl) hbel (x := .int .i64 (((((f - s) % 256).toNat : Nat) : Int) + c)) (resT Tryz.results334) rfl ⟨congrArg (AV.int .i64) (by unfold covI; omega), rfl⟩)
theorem hhull_c (H : AHeap) (f : Int) (c : Int) (f2 : Int) (c2 : Int) (ha : arcB f c = true) (hb : arcB f2 c2 = true) : ACalls Tryz.prog 265 [.agg [.int .i64 f, .int .i64 c], .agg [.int .i64 f2, .int .i64 c2]] H (fun v H' => v = .tup [.agg [.int .i64 ((hullA f c f2 c2).1), .int .i64 ((hullA f c f2 c2).2)], .int .i64 0] ∧ H' = H) := by
  have ka := arcB_iff.1 ha
  have kb := arcB_iff.1 hb
  have hm1 := max_i (covI f f c) (covI f f2 c2)
  have hm2 := max_i (covI f2 f c) (covI f2 f2 c2)
  have hz0 : (hlS f c f2 c2 0).2 = 256 ∧ (hlS f c f2 c2 0).1 = 0 := ⟨rfl, rfl⟩
  have hc1 : covI f f c = c := by unfold covI; omega
  have hc2 : covI f2 f2 c2 = c2 := by unfold covI; omega
  have hc3 : 1 ≤ covI f f2 c2 ∧ covI f f2 c2 ≤ 511 := by unfold covI; omega
  have hc4 : 1 ≤ covI f2 f c ∧ covI f2 f c ≤ 511 := by unfold covI; omega
  refine AcT true Tryz.func265 ?_; intro hbel Q hQ
  have g'52 := (jn @hm1 (jn @hm2 (jn @ha @hb)))
  refine runTf g'52 ?_
  refine call_v (by kernel_rfl) (varc_c _ f c) ?_
  refine runTf g'52 ?_
  refine call_v (by kernel_rfl) (varc_c _ f2 c2) ?_
  refine runTf g'52 ?_
  refine go_loop try_mixed (by kernel_rfl) (fun k F Hx => ∃ j : Nat, j + k = 2 ∧ F = [(2, .ptr (some (H.length, 0))), (3, .ptr (some (H.length + 1, 0))), (4, .ptr (some (H.length + 2, 0))), (6, .ptr (some (H.length + 3, 0))), (24, .agg [.int .i64 f, .int .i64 f2]), (25, .int .i64 ((j : Nat) : Int))] ∧ Hx = H ++ [.cells true 0 [.int .i64 f, .int .i64 c], .cells true 0 [.int .i64 f2, .int .i64 c2], .cells true 0 [.int .i64 0, .int .i64 0], .cells true 0 [.int .i64 ((hlS f c f2 c2 j).1), .int .i64 ((hlS f c f2 c2 j).2)]]) (2) ?_ ?_
  · refine ⟨_, _, _, ⟨0, by omega, rfl, rfl⟩, Abs.byG hbel [] rfl [0, 1, 2, 3] (by decide) ?_⟩
    exact absWf (jn @hlS.eq_1 @Int.natCast_zero)
  · rintro k0 F Hx ⟨j, hm0, rfl, rfl⟩ J0 hJ0
    refine runTf g'52 ?_
    refine cond_split (fun h1 => ?_) (fun h1 => ?_)
    · have h1d := bsT h1
      obtain rfl | rfl := (by omega : j = 0 ∨ j = 1)
      · skip
        have g'53 := (jn @h1 (jn @h1d g'52))
        refine runTf g'53 ?_
        refine call_d (by kernel_rfl) (covers_c _ f f c (by omega) (by omega) (by omega)) ?_
        refine runTf g'53 ?_
        refine call_d (by kernel_rfl) (covers_c _ f f2 c2 (by omega) (by omega) (by omega)) ?_
        refine runTf g'53 ?_
        refine gd_split (fun h2 => ?_) (fun h2 => ?_)
        · have h2d := bsT h2
          have g'54 := (jn @h2 (jn @h2d g'53))
          refine runTf g'54 ?_
          refine gd_split (fun h3 => ?_) (fun h3 => ?_)
          · have h3d := bsT h3
            have h3n := bnT h3
            have he0 : max (covI f f c) (covI f f2 c2) = (hlS f c f2 c2 0).2 := by simpa using h3d
            have g'55 := (jn @h3 (jn @h3n (jn @int_bne (jn @int_beq g'54))))
            refine runTf g'55 ?_
            refine gd_split (fun h4 => ?_) (fun h4 => ?_)
            · have h4d := bsT h4
              omega
            · have h4d := bsT h4
              have g'56 := (jn @h4 (jn @h4d g'55))
              refine runTf g'56 ?_
              first | (have hst : hlS f c f2 c2 (0 + 1) = (f, max (covI f f c) (covI f f2 c2)) := if_pos (by omega)) | (have hst : hlS f c f2 c2 (0 + 1) = (0, 256) := if_neg (by omega)) | (have hst : hlS f c f2 c2 (1 + 1) = (f2, max (covI f2 f c) (covI f2 f2 c2)) := (hlS_2 f c f2 c2).trans (if_pos (by omega))) | (have hst : hlS f c f2 c2 (1 + 1) = hlS f c f2 c2 1 := (hlS_2 f c f2 c2).trans (if_neg (by omega)))
              refine hJ0 _ _ ⟨k0 - 1, by omega, _, _, _, ⟨0 + 1, by omega, rfl, rfl⟩, Abs.byG hbel [] rfl [0, 1, 2, 3] (by decide) ?_⟩
              exact absWf @hst
          · have h3d := bsT h3
            have h3n := bnT h3
            have g'57 := (jn @h3 (jn @h3n (jn @int_bne (jn @int_beq g'54))))
            refine runTf g'57 ?_
            first | (have hst : hlS f c f2 c2 (0 + 1) = (f, max (covI f f c) (covI f f2 c2)) := if_pos (by omega)) | (have hst : hlS f c f2 c2 (0 + 1) = (0, 256) := if_neg (by omega)) | (have hst : hlS f c f2 c2 (1 + 1) = (f2, max (covI f2 f c) (covI f2 f2 c2)) := (hlS_2 f c f2 c2).trans (if_pos (by omega))) | (have hst : hlS f c f2 c2 (1 + 1) = hlS f c f2 c2 1 := (hlS_2 f c f2 c2).trans (if_neg (by omega)))
            refine hJ0 _ _ ⟨k0 - 1, by omega, _, _, _, ⟨0 + 1, by omega, rfl, rfl⟩, Abs.byG hbel [] rfl [0, 1, 2, 3] (by decide) ?_⟩
            exact absWf @hst
        · have h2d := bsT h2
          have g'58 := (jn @h2 (jn @h2d g'53))
          refine runTf g'58 ?_
          first | (have hst : hlS f c f2 c2 (0 + 1) = (f, max (covI f f c) (covI f f2 c2)) := if_pos (by omega)) | (have hst : hlS f c f2 c2 (0 + 1) = (0, 256) := if_neg (by omega)) | (have hst : hlS f c f2 c2 (1 + 1) = (f2, max (covI f2 f c) (covI f2 f2 c2)) := (hlS_2 f c f2 c2).trans (if_pos (by omega))) | (have hst : hlS f c f2 c2 (1 + 1) = hlS f c f2 c2 1 := (hlS_2 f c f2 c2).trans (if_neg (by omega)))
          refine hJ0 _ _ ⟨k0 - 1, by omega, _, _, _, ⟨0 + 1, by omega, rfl, rfl⟩, Abs.byG hbel [] rfl [0, 1, 2, 3] (by decide) ?_⟩
          exact absWf @hst
      · skip
        have g'59 := (jn @h1 (jn @h1d g'52))
        refine runTf g'59 ?_
        refine call_d (by kernel_rfl) (covers_c _ f2 f c (by omega) (by omega) (by omega)) ?_
        refine runTf g'59 ?_
        refine call_d (by kernel_rfl) (covers_c _ f2 f2 c2 (by omega) (by omega) (by omega)) ?_
        refine runTf g'59 ?_
        refine gd_split (fun h5 => ?_) (fun h5 => ?_)
        · have h5d := bsT h5
          have g'60 := (jn @h5 (jn @h5d g'59))
          refine runTf g'60 ?_
          refine gd_split (fun h6 => ?_) (fun h6 => ?_)
          · have h6d := bsT h6
            have h6n := bnT h6
            have he1 : max (covI f2 f c) (covI f2 f2 c2) = (hlS f c f2 c2 1).2 := by simpa using h6d
            have g'61 := (jn @h6 (jn @h6n (jn @int_bne (jn @int_beq g'60))))
            refine runTf g'61 ?_
            refine gd_split (fun h7 => ?_) (fun h7 => ?_)
            · have h7d := bsT h7
              have g'62 := (jn @h7 (jn @h7d g'61))
              refine runTf g'62 ?_
              refine cond_split (fun h8 => ?_) (fun h8 => ?_)
              · have h8d := bsT h8
                have g'63 := (jn @h8 (jn @h8d g'62))
                refine runTf g'63 ?_
                first | (have hst : hlS f c f2 c2 (0 + 1) = (f, max (covI f f c) (covI f f2 c2)) := if_pos (by omega)) | (have hst : hlS f c f2 c2 (0 + 1) = (0, 256) := if_neg (by omega)) | (have hst : hlS f c f2 c2 (1 + 1) = (f2, max (covI f2 f c) (covI f2 f2 c2)) := (hlS_2 f c f2 c2).trans (if_pos (by omega))) | (have hst : hlS f c f2 c2 (1 + 1) = hlS f c f2 c2 1 := (hlS_2 f c f2 c2).trans (if_neg (by omega)))
                refine hJ0 _ _ ⟨k0 - 1, by omega, _, _, _, ⟨1 + 1, by omega, rfl, rfl⟩, Abs.byG hbel [] rfl [0, 1, 2, 3] (by decide) ?_⟩
                exact absWf @hst
              · have h8d := bsT h8
                have g'64 := (jn @h8 (jn @h8d g'62))
                refine runTf g'64 ?_
                first | (have hst : hlS f c f2 c2 (0 + 1) = (f, max (covI f f c) (covI f f2 c2)) := if_pos (by omega)) | (have hst : hlS f c f2 c2 (0 + 1) = (0, 256) := if_neg (by omega)) | (have hst : hlS f c f2 c2 (1 + 1) = (f2, max (covI f2 f c) (covI f2 f2 c2)) := (hlS_2 f c f2 c2).trans (if_pos (by omega))) | (have hst : hlS f c f2 c2 (1 + 1) = hlS f c f2 c2 1 := (hlS_2 f c f2 c2).trans (if_neg (by omega)))
                refine hJ0 _ _ ⟨k0 - 1, by omega, _, _, _, ⟨1 + 1, by omega, rfl, rfl⟩, Abs.byG hbel [] rfl [0, 1, 2, 3] (by decide) ?_⟩
                exact absWf @hst
            · have h7d := bsT h7
              have g'65 := (jn @h7 (jn @h7d g'61))
              refine runTf g'65 ?_
              first | (have hst : hlS f c f2 c2 (0 + 1) = (f, max (covI f f c) (covI f f2 c2)) := if_pos (by omega)) | (have hst : hlS f c f2 c2 (0 + 1) = (0, 256) := if_neg (by omega)) | (have hst : hlS f c f2 c2 (1 + 1) = (f2, max (covI f2 f c) (covI f2 f2 c2)) := (hlS_2 f c f2 c2).trans (if_pos (by omega))) | (have hst : hlS f c f2 c2 (1 + 1) = hlS f c f2 c2 1 := (hlS_2 f c f2 c2).trans (if_neg (by omega)))
              refine hJ0 _ _ ⟨k0 - 1, by omega, _, _, _, ⟨1 + 1, by omega, rfl, rfl⟩, Abs.byG hbel [] rfl [0, 1, 2, 3] (by decide) ?_⟩
              exact absWf @hst
          · have h6d := bsT h6
            have h6n := bnT h6
            have he1 : ¬ max (covI f2 f c) (covI f2 f2 c2) = (hlS f c f2 c2 1).2 := by simpa using h6d
            have g'66 := (jn @h6 (jn @h6n (jn @int_bne (jn @int_beq g'60))))
            refine runTf g'66 ?_
            first | (have hst : hlS f c f2 c2 (0 + 1) = (f, max (covI f f c) (covI f f2 c2)) := if_pos (by omega)) | (have hst : hlS f c f2 c2 (0 + 1) = (0, 256) := if_neg (by omega)) | (have hst : hlS f c f2 c2 (1 + 1) = (f2, max (covI f2 f c) (covI f2 f2 c2)) := (hlS_2 f c f2 c2).trans (if_pos (by omega))) | (have hst : hlS f c f2 c2 (1 + 1) = hlS f c f2 c2 1 := (hlS_2 f c f2 c2).trans (if_neg (by omega)))
            refine hJ0 _ _ ⟨k0 - 1, by omega, _, _, _, ⟨1 + 1, by omega, rfl, rfl⟩, Abs.byG hbel [] rfl [0, 1, 2, 3] (by decide) ?_⟩
            exact absWf @hst
        · have h5d := bsT h5
          have g'67 := (jn @h5 (jn @h5d g'59))
          refine runTf g'67 ?_
          first | (have hst : hlS f c f2 c2 (0 + 1) = (f, max (covI f f c) (covI f f2 c2)) := if_pos (by omega)) | (have hst : hlS f c f2 c2 (0 + 1) = (0, 256) := if_neg (by omega)) | (have hst : hlS f c f2 c2 (1 + 1) = (f2, max (covI f2 f c) (covI f2 f2 c2)) := (hlS_2 f c f2 c2).trans (if_pos (by omega))) | (have hst : hlS f c f2 c2 (1 + 1) = hlS f c f2 c2 1 := (hlS_2 f c f2 c2).trans (if_neg (by omega)))
          refine hJ0 _ _ ⟨k0 - 1, by omega, _, _, _, ⟨1 + 1, by omega, rfl, rfl⟩, Abs.byG hbel [] rfl [0, 1, 2, 3] (by decide) ?_⟩
          exact absWf @hst
    · have h1d := bsT h1
      obtain rfl : j = 2 := by omega
      have g'68 := (jn @h1 (jn @h1d g'52))
      refine runTf g'68 ?_
      exact hQ _ _ (end_plain (.inl rfl) hbel (x := .tup [.agg [.int .i64 ((hlS f c f2 c2 2).1), .int .i64 ((hlS f c f2 c2 2).2)], .int .i64 0]) (resT Tryz.results265) rfl ⟨rfl, rfl⟩)
open Go.RowKit
theorem pinside_c (H : AHeap) (W : Int) (Hh : Int) (pp : AV) (xs : List Int) (x : Int) (y : Int) (hpp : Sl H 1 pp xs.length (ints .u8 xs)) : ACalls Tryz.prog 175 [.agg [.int .i64 W, .int .i64 Hh, pp], .agg [.int .i64 x, .int .i64 y]] H (fun v H' => v = .bool (inB W Hh x y) ∧ H' = H) := by
  obtain ⟨bpp, opp, cpp, rfl, hbpp⟩ := hpp
  have hblpp := getElem?_lt hbpp
  have hb0pp := fun l => get_app (l := l) hbpp
  refine AcT true Tryz.func175 ?_; intro hbel Q hQ
  have g'1 := (jn @hbpp @hb0pp)
  refine runTf g'1 ?_
  refine gd_split (fun h1 => ?_) (fun h1 => ?_)
  · have h1d := bsT h1
    have g'2 := (jn @h1 (jn @h1d g'1))
    refine runTf g'2 ?_
    refine gd_split (fun h2 => ?_) (fun h2 => ?_)
    · have h2d := bsT h2
      have g'3 := (jn @h2 (jn @h2d g'2))
      refine runTf g'3 ?_
      refine gd_split (fun h3 => ?_) (fun h3 => ?_)
      · have h3d := bsT h3
        have g'4 := (jn @h3 (jn @h3d g'3))
        refine runTf g'4 ?_
        exact hQ _ _ (end_plain (.inl rfl) hbel (x := .bool (decide (y < Hh))) (resT Tryz.results175) rfl ⟨by first | (simp [inB, h1d, h2d, h3d]; done) | (simp [inB, h1d, h2d, h3d]; omega), rfl⟩)
      · have h3d := bsT h3
        have g'5 := (jn @h3 (jn @h3d g'3))
        refine runTf g'5 ?_
        exact hQ _ _ (end_plain (.inl rfl) hbel (x := .bool false) (resT Tryz.results175) rfl ⟨by first | (simp [inB, h1d, h2d, h3d]; done) | (simp [inB, h1d, h2d, h3d]; omega), rfl⟩)
    · have h2d := bsT h2
      have g'6 := (jn @h2 (jn @h2d g'2))
      refine runTf g'6 ?_
      exact hQ _ _ (end_plain (.inl rfl) hbel (x := .bool false) (resT Tryz.results175) rfl ⟨by first | (simp [inB, h1d, h2d]; done) | (simp [inB, h1d, h2d]; omega), rfl⟩)
  · have h1d := bsT h1
    have g'7 := (jn @h1 (jn @h1d g'1))
    refine runTf g'7 ?_
    exact hQ _ _ (end_plain (.inl rfl) hbel (x := .bool false) (resT Tryz.results175) rfl ⟨by first | (simp [inB, h1d]; done) | (simp [inB, h1d]; omega), rfl⟩)
theorem pat_c (H : AHeap) (W : Int) (Hh : Int) (pp : AV) (xs : List Int) (x : Int) (y : Int) (hpp : Sl H 1 pp xs.length (ints .u8 xs)) (hV : vldB W Hh xs = true) : ACalls Tryz.prog 85 [.agg [.int .i64 W, .int .i64 Hh, pp], .agg [.int .i64 x, .int .i64 y]] H (fun v H' => v = .int .u8 (atI W Hh xs x y) ∧ H' = H) := by
  obtain ⟨bpp, opp, cpp, rfl, hbpp⟩ := hpp
  have hblpp := getElem?_lt hbpp
  have hb0pp := fun l => get_app (l := l) hbpp
  have hVl := vld_iff.1 hV
  have hll := hVl.len
  have hpp2 := hVl.pos
  refine AcT true Tryz.func85 ?_; intro hbel Q hQ
  have g'8 := (jn @hbpp (jn @hb0pp @hV))
  refine runTf g'8 ?_
  refine call_v (by kernel_rfl) (valid_a _ W Hh _ xs (.inr ⟨_, _, _, rfl, by first | exact hb0pp _ | exact hbpp⟩)) ?_
  refine runTf g'8 ?_
  refine call_v (by kernel_rfl) (pinside_c _ W Hh _ xs x y ⟨_, _, _, rfl, by first | exact hb0pp _ | exact hbpp⟩) ?_
  refine runTf g'8 ?_
  refine cond_split (fun h1 => ?_) (fun h1 => ?_)
  · have h1d := bsT h1
    have g'9 := (jn @h1 (jn @h1d g'8))
    refine runTf g'9 ?_
    exact hQ _ _ (end_plain (.inl rfl) hbel (x := .int .u8 2) (resT Tryz.results85) rfl ⟨by simp [atI, h1d], rfl⟩)
  · have h1d := bsT h1
    have hin := h1d
    obtain ⟨i1, i2, i3, i4, i5, -⟩ := hVl.idx hin
    have q2 := ints_get (k := .u8) (xs := xs) (j := ((y * W) + x).toNat) (by omega)
    have g'10 := (jn @h1 (jn @h1d (jn @q2 g'8)))
    refine runTf g'10 ?_
    exact hQ _ _ (end_plain (.inl rfl) hbel (x := .int .u8 (gi xs (((y * W) + x).toNat))) (resT Tryz.results85) rfl ⟨by simp [atI, h1d], rfl⟩)
theorem unh1_c (H : AHeap) (c1 : Int) (c2 : Int) (W : Int) (Hh : Int) (pp : AV) (xs : List Int) (bz : Nat) (hpp : Sl H 1 pp xs.length (ints .u8 xs)) (hz : ∃ o, H[bz]? = some (.cells o 0 [.int .i64 W, .int .i64 Hh, pp])) (hV : vldB W Hh xs = true) : ACalls Tryz.prog 201 [.agg [.int .i64 c1, .int .i64 c2], .ptr (some (bz, 0))] H (fun v H' => v = .bool ((atI W Hh xs c1 c2) != 1) ∧ H' = H) := by
  obtain ⟨bpp, opp, cpp, rfl, hbpp⟩ := hpp
  have hblpp := getElem?_lt hbpp
  have hb0pp := fun l => get_app (l := l) hbpp
  obtain ⟨oz, hbz⟩ := hz
  have hblz := getElem?_lt hbz
  have hb0z := fun l => get_app (l := l) hbz
  refine AcT true Tryz.func201 ?_; intro hbel Q hQ
  have g'11 := (jn @hbpp (jn @hb0pp (jn @hbz @hb0z)))
  refine runTf g'11 ?_
  refine call_v (by kernel_rfl) (pat_c _ W Hh _ xs c1 c2 ⟨_, _, _, rfl, by first | exact hb0pp _ | exact hbpp⟩ hV) ?_
  refine runTf g'11 ?_
  exact hQ _ _ (end_plain (.inl rfl) hbel (x := .bool ((atI W Hh xs c1 c2) != 1)) (resT Tryz.results201) rfl ⟨rfl, rfl⟩)
open Go.RowKit
theorem pwithin_c (H : AHeap) (x : Int) (m : Int) (h : 0 ≤ m ∧ m ≤ 4611686018427387904) : ACalls Tryz.prog 209 [.int .i64 x, .int .i64 m] H (fun v H' => v = .bool (within x m) ∧ H' = H) := by
  refine AcT true Tryz.func209 ?_; intro hbel Q hQ
  refine runT ?_
  refine gd_split (fun h1 => ?_) (fun h1 => ?_)
  · have h1d := bsT h1
    have g'1 := (jn @h1 @h1d)
    refine runTf g'1 ?_
    exact hQ _ _ (end_plain0 (.inl rfl) hbel (x := .bool (decide (x ≤ m))) (resT Tryz.results209) rfl ⟨by first | (simp [within, h1d]; done) | (simp [within, h1d]; omega), rfl⟩)
  · have h1d := bsT h1
    have g'2 := (jn @h1 @h1d)
    refine runTf g'2 ?_
    exact hQ _ _ (end_plain0 (.inl rfl) hbel (x := .bool false) (resT Tryz.results209) rfl ⟨by first | (simp [within, h1d]; done) | (simp [within, h1d]; omega), rfl⟩)
theorem pvpt_c (H : AHeap) (x : Int) (y : Int) : ACalls Tryz.prog 206 [.agg [.int .i64 x, .int .i64 y]] H (fun v H' => v = .bool (ptB x y) ∧ H' = H) := by
  refine AcT true Tryz.func206 ?_; intro hbel Q hQ
  refine runT ?_
  refine call_v (by kernel_rfl) (pwithin_c _ x 1048576 (by decide)) ?_
  refine runT ?_
  refine gd_split (fun h1 => ?_) (fun h1 => ?_)
  · have h1d := bsT h1
    have g'3 := (jn @h1 @h1d)
    refine runTf g'3 ?_
    refine call_v (by kernel_rfl) (pwithin_c _ y 1048576 (by decide)) ?_
    refine runTf g'3 ?_
    exact hQ _ _ (end_plain (.inl rfl) hbel (x := .bool (within y 1048576)) (resT Tryz.results206) rfl ⟨by simp [ptB, h1d], rfl⟩)
  · have h1d := bsT h1
    have g'4 := (jn @h1 @h1d)
    refine runTf g'4 ?_
    exact hQ _ _ (end_plain (.inl rfl) hbel (x := .bool false) (resT Tryz.results206) rfl ⟨by simp [ptB, h1d], rfl⟩)
theorem pvrc_c (H : AHeap) (x0 : Int) (y0 : Int) (x1 : Int) (y1 : Int) : ACalls Tryz.prog 258 [.agg [.int .i64 x0, .int .i64 y0, .int .i64 x1, .int .i64 y1]] H (fun v H' => v = .bool (rctB x0 y0 x1 y1) ∧ H' = H) := by
  refine AcT true Tryz.func258 ?_; intro hbel Q hQ
  refine runT ?_
  refine gd_split (fun h1 => ?_) (fun h1 => ?_)
  · have h1d := bsT h1
    have g'5 := (jn @h1 @h1d)
    refine runTf g'5 ?_
    refine gd_split (fun h2 => ?_) (fun h2 => ?_)
    · have h2d := bsT h2
      have g'6 := (jn @h2 (jn @h2d g'5))
      refine runTf g'6 ?_
      refine call_v (by kernel_rfl) (pvpt_c _ x0 y0) ?_
      refine runTf g'6 ?_
      refine gd_split (fun h3 => ?_) (fun h3 => ?_)
      · have h3d := bsT h3
        have g'7 := (jn @h3 (jn @h3d g'6))
        refine runTf g'7 ?_
        refine call_v (by kernel_rfl) (pvpt_c _ x1 y1) ?_
        refine runTf g'7 ?_
        exact hQ _ _ (end_plain (.inl rfl) hbel (x := .bool (ptB x1 y1)) (resT Tryz.results258) rfl ⟨by simp [rctB, h1d, h2d, h3d], rfl⟩)
      · have h3d := bsT h3
        have g'8 := (jn @h3 (jn @h3d g'6))
        refine runTf g'8 ?_
        exact hQ _ _ (end_plain (.inl rfl) hbel (x := .bool false) (resT Tryz.results258) rfl ⟨by simp [rctB, h1d, h2d, h3d], rfl⟩)
    · have h2d := bsT h2
      have g'9 := (jn @h2 (jn @h2d g'5))
      refine runTf g'9 ?_
      exact hQ _ _ (end_plain (.inl rfl) hbel (x := .bool false) (resT Tryz.results258) rfl ⟨by simp [rctB, h1d, h2d], rfl⟩)
  · have h1d := bsT h1
    have g'10 := (jn @h1 @h1d)
    refine runTf g'10 ?_
    exact hQ _ _ (end_plain (.inl rfl) hbel (x := .bool false) (resT Tryz.results258) rfl ⟨by simp [rctB, h1d], rfl⟩)
theorem span_c (H : AHeap) (a : Int) (b : Int) (kba : -2097152 ≤ a ∧ a ≤ 2097152) (kbb : -2097152 ≤ b ∧ b ≤ 2097152) : ACalls Tryz.prog 329 [.int .i64 a, .int .i64 b] H (fun v H' => v = .tup [.int .i64 (spl a), .int .i64 (sph b)] ∧ H' = H) := by
  refine AcT true Tryz.func329 ?_; intro hbel Q hQ
  refine runT ?_
  refine call_v (by kernel_rfl) (pdown_c _ (0 - a) 64 (by omega) (by omega)) ?_
  refine runT ?_
  refine call_v (by kernel_rfl) (pdown_c _ b 64 (by omega) (by omega)) ?_
  refine runT ?_
  exact hQ _ _ (end_plain0 (.inl rfl) hbel (x := .tup [.int .i64 ((0 - ((0 - a) / 64)) - 1), .int .i64 (b / 64)]) (resT Tryz.results329) rfl ⟨rfl, rfl⟩)
theorem cells_c (H : AHeap) (x0 : Int) (y0 : Int) (x1 : Int) (y1 : Int) : ACalls Tryz.prog 273 [.agg [.int .i64 x0, .int .i64 y0, .int .i64 x1, .int .i64 y1]] H (fun v H' => v = .tup [.sl (some (H.length, 0)) ((cellsR x0 y0 x1 y1).length) (capG (cellsR x0 y0 x1 y1).length), .int .i64 (cellsE x0 y0 x1 y1)] ∧ H' = H ++ [.cells (ownG (cellsR x0 y0 x1 y1).length) 2 (prs (cellsR x0 y0 x1 y1))]) := by
  refine AcT true Tryz.func273 ?_; intro hbel Q hQ
  refine runT ?_
  refine call_v (by kernel_rfl) (pvrc_c _ x0 y0 x1 y1) ?_
  refine runT ?_
  refine cond_split (fun h1 => ?_) (fun h1 => ?_)
  · have h1d := bsT h1
    have hfinE : cellsE x0 y0 x1 y1 = 1 := if_neg (by simp [h1d])
    have hfinR : cellsR x0 y0 x1 y1 = [] := if_neg (by rw [hfinE]; decide)
    have g'21 := (jn @h1 @h1d)
    refine runTf g'21 ?_
    refine hQ _ _ (end_byG (.inl rfl) hbel (x1 := .tup [.sl none 0 (some 0), .int .i64 1]) (l2 := [.cells false 2 []]) (.tup [.sl (some (H.length, 0)) 0 (some 0), .int .i64 1]) (resT Tryz.results273) [.cells false 2 []] rfl [1] (by decide) ⟨by first | (rw [hfinR, hfinE]; done) | (rw [hfinR, hfinE]; rfl) | (rw [hfinR]; done) | (rw [hfinR]; rfl), by first | (rw [hfinR, hfinE]; done) | (rw [hfinR, hfinE]; rfl) | (rw [hfinR]; done) | (rw [hfinR]; rfl)⟩ ?_)
    exact absW
  · have h1d := bsT h1
    have hok := h1d
    have hrc := rctB_iff.1 h1d
    have hc1 := cel_bd hrc.1
    have hc2 := cel_bd hrc.2
    have hmm := mul_bd (a := sph x1 - spl x0 + 1) (b := sph y1 - spl y0 + 1) (A := 65536) (B := 65536) (by omega) (by omega)
    have g'22 := (jn @h1 @h1d)
    refine runTf g'22 ?_
    refine call_v (by kernel_rfl) (span_c _ x0 x1 (by omega) (by omega)) ?_
    refine runTf g'22 ?_
    refine call_v (by kernel_rfl) (span_c _ y0 y1 (by omega) (by omega)) ?_
    refine runTf g'22 ?_
    refine cond_split (fun h2 => ?_) (fun h2 => ?_)
    · have h2d := bsT h2
      have hfinE : cellsE x0 y0 x1 y1 = 6 := by unfold cellsE; rw [if_pos hok, if_pos h2d]
      have hfinR : cellsR x0 y0 x1 y1 = [] := if_neg (by rw [hfinE]; decide)
      have g'23 := (jn @h2 (jn @h2d g'22))
      refine runTf g'23 ?_
      refine hQ _ _ (end_byG (.inl rfl) hbel (x1 := .tup [.sl none 0 (some 0), .int .i64 6]) (l2 := [.cells false 2 []]) (.tup [.sl (some (H.length, 0)) 0 (some 0), .int .i64 6]) (resT Tryz.results273) [.cells false 2 []] rfl [1] (by decide) ⟨by first | (rw [hfinR, hfinE]; done) | (rw [hfinR, hfinE]; rfl) | (rw [hfinR]; done) | (rw [hfinR]; rfl), by first | (rw [hfinR, hfinE]; done) | (rw [hfinR, hfinE]; rfl) | (rw [hfinR]; done) | (rw [hfinR]; rfl)⟩ ?_)
      exact absW
    · have h2d := bsT h2
      have hfinE : cellsE x0 y0 x1 y1 = 0 := by unfold cellsE; rw [if_pos hok, if_neg (by omega)]
      have hfinR : cellsR x0 y0 x1 y1 = cellsG x0 y0 x1 y1 := if_pos hfinE
      have g'24 := (jn @h2 (jn @h2d g'22))
      refine runTf g'24 ?_
      refine go_loop try_mixed (by kernel_rfl) (fun k F Hx => ∃ n : Nat, n + k = celN y0 y1 ∧ F = [(4, .int .i64 (spl x0)), (5, .int .i64 (sph x1)), (7, .int .i64 (sph y1)), (8, .sl (some (H.length, 0)) ((gridR tt2 (spl x0) (celN x0 x1) (spl y0) n).length) (capG (gridR tt2 (spl x0) (celN x0 x1) (spl y0) n).length)), (9, .int .i64 (spl y0 + ((n : Nat) : Int)))] ∧ Hx = H ++ [.cells (ownG (gridR tt2 (spl x0) (celN x0 x1) (spl y0) n).length) 2 (prs (gridR tt2 (spl x0) (celN x0 x1) (spl y0) n))]) (celN y0 y1) ?_ ?_
      · refine ⟨_, _, _, ⟨0, by omega, rfl, rfl⟩, Abs.byG hbel [.cells false 2 []] rfl [1] (by decide) ?_⟩
        exact absRf (jn @gridR_0 (jn @Int.natCast_zero @Int.add_zero))
      · rintro k0 F Hx ⟨n, hm0, rfl, rfl⟩ J0 hJ0
        have g'25 := (jn @prs_len (jn @prs_one g'24))
        refine runTf g'25 ?_
        refine cond_split (fun h3 => ?_) (fun h3 => ?_)
        · have h3d := bsT h3
          have g'26 := (jn @h3 (jn @h3d g'25))
          refine runTf g'26 ?_
          refine go_loop try_mixed (by kernel_rfl) (fun k F Hx => ∃ m : Nat, m + k = celN x0 x1 ∧ F = [(4, .int .i64 (spl x0)), (5, .int .i64 (sph x1)), (7, .int .i64 (sph y1)), (8, .sl (some (H.length, 0)) ((gridR tt2 (spl x0) (celN x0 x1) (spl y0) n ++ rowR tt2 (spl x0) (spl y0 + ((n : Nat) : Int)) m).length) (capG (gridR tt2 (spl x0) (celN x0 x1) (spl y0) n ++ rowR tt2 (spl x0) (spl y0 + ((n : Nat) : Int)) m).length)), (9, .int .i64 (spl y0 + ((n : Nat) : Int))), (10, .int .i64 (spl x0 + ((m : Nat) : Int)))] ∧ Hx = H ++ [.cells (ownG (gridR tt2 (spl x0) (celN x0 x1) (spl y0) n ++ rowR tt2 (spl x0) (spl y0 + ((n : Nat) : Int)) m).length) 2 (prs (gridR tt2 (spl x0) (celN x0 x1) (spl y0) n ++ rowR tt2 (spl x0) (spl y0 + ((n : Nat) : Int)) m))]) (celN x0 x1) ?_ ?_
          · refine ⟨_, _, _, ⟨0, by omega, rfl, rfl⟩, Abs.byG hbel [] rfl [0] (by decide) ?_⟩
            exact absRf (jn @rowR_0 (jn @List.append_nil.{0} (jn @Int.natCast_zero @Int.add_zero)))
          · rintro k1 F Hx ⟨m, hm1, rfl, rfl⟩ J1 hJ1
            refine runTf g'26 ?_
            refine cond_split (fun h4 => ?_) (fun h4 => ?_)
            · have h4d := bsT h4
              have hgb := grid_bd (p := tt2) (x0 := spl x0) (y0 := spl y0) (y := spl y0 + ((n : Nat) : Int)) (w := celN x0 x1) (n := n) (m := m) (by omega) (by omega) (by omega)
              have g'27 := (jn @h4 (jn @h4d (jn @capG_s g'26)))
              refine runTf g'27 ?_
              refine hJ1 _ _ ⟨k1 - 1, by omega, _, _, _, ⟨m + 1, by omega, rfl, rfl⟩, Abs.byG hbel [] rfl [2] (by decide) ?_⟩
              exact absRf (jn @rowR_t (jn @List.append_assoc.{0} (jn @Int.natCast_add (jn @Int.natCast_one @Int.add_assoc))))
            · have h4d := bsT h4
              obtain rfl : m = celN x0 x1 := by omega
              have g'28 := (jn @h4 (jn @h4d g'26))
              refine runTf g'28 ?_
              refine hJ0 _ _ ⟨k0 - 1, by omega, _, _, _, ⟨n + 1, by omega, rfl, rfl⟩, Abs.byG hbel [] rfl [0] (by decide) ?_⟩
              exact absRf (jn @gridR_s (jn @Int.natCast_add (jn @Int.natCast_one @Int.add_assoc)))
        · have h3d := bsT h3
          obtain rfl : n = celN y0 y1 := by omega
          have g'29 := (jn @h3 (jn @h3d g'25))
          refine runTf g'29 ?_
          refine hQ _ _ (end_byG (.inl rfl) hbel (x1 := .tup [.sl (some (H.length, 0)) ((gridR tt2 (spl x0) (celN x0 x1) (spl y0) (celN y0 y1)).length) (capG (gridR tt2 (spl x0) (celN x0 x1) (spl y0) (celN y0 y1)).length), .int .i64 0]) (l2 := [.cells (ownG (gridR tt2 (spl x0) (celN x0 x1) (spl y0) (celN y0 y1)).length) 2 (prs (gridR tt2 (spl x0) (celN x0 x1) (spl y0) (celN y0 y1)))]) (.tup [.sl (some (H.length, 0)) ((gridR tt2 (spl x0) (celN x0 x1) (spl y0) (celN y0 y1)).length) (capG (gridR tt2 (spl x0) (celN x0 x1) (spl y0) (celN y0 y1)).length), .int .i64 0]) (resT Tryz.results273) [] rfl [0] (by decide) ⟨by first | (rw [hfinR, hfinE]; done) | (rw [hfinR, hfinE]; rfl) | (rw [hfinR]; done) | (rw [hfinR]; rfl), by first | (rw [hfinR, hfinE]; done) | (rw [hfinR, hfinE]; rfl) | (rw [hfinR]; done) | (rw [hfinR]; rfl)⟩ ?_)
          exact absW
open Go.RowKit
theorem cellsq_c (H : AHeap) (x y : Int) (l : List Pt) : ACalls Tryz.prog 273 [.agg [.int .i64 ((ifv (validB x y l) (x - spr (1, 0) l)) / 2), .int .i64 ((ifv (validB x y l) (y - spr (0, 1) l)) / 2), .int .i64 (0 - ((0 - (ifv (validB x y l) (x + spr (1, 0) l))) / 2)), .int .i64 (0 - ((0 - (ifv (validB x y l) (y + spr (0, 1) l))) / 2))]] H (fun v H' => v = .tup [.sl (some (H.length, 0)) (touQ x y l).length (capG (touQ x y l).length), .int .i64 (touF x y l)] ∧ H' = H ++ [.cells (ownG (touQ x y l).length) 2 (prs (touQ x y l))]) := cells_c _ _ _ _ _
theorem touch1_c (H : AHeap) (c1 : Int) (c2 : Int) (x : Int) (y : Int) (s : AV) (l : List (Int × Int)) (bz : Nat) (hs : Sl H 2 s l.length (prs l)) (hz : ∃ o, H[bz]? = some (.cells o 0 [.int .i64 x, .int .i64 y, s])) (kbc1 : -2097152 ≤ c1 ∧ c1 ≤ 2097152) (kbc2 : -2097152 ≤ c2 ∧ c2 ≤ 2097152) : ACalls Tryz.prog 274 [.agg [.int .i64 c1, .int .i64 c2], .ptr (some (bz, 0))] H (fun v H' => v = .bool (apP x y l (c1, c2)) ∧ H' = H) := by
  obtain ⟨bs, os, cs, rfl, hbs⟩ := hs
  have hbls := getElem?_lt hbs
  have hb0s := fun l => get_app (l := l) hbs
  obtain ⟨oz, hbz⟩ := hz
  have hblz := getElem?_lt hbz
  have hb0z := fun l => get_app (l := l) hbz
  refine AcT true Tryz.func274 ?_; intro hbel Q hQ
  have g'1 := (jn @hbs (jn @hb0s (jn @hbz @hb0z)))
  refine runTf g'1 ?_
  refine call_v (by kernel_rfl) (apart_c _ x y _ l (c1 * 64) (c2 * 64) ((c1 + 1) * 64) ((c2 + 1) * 64) ⟨_, _, _, rfl, by first | exact hb0s _ | exact hbs⟩) ?_
  refine runTf g'1 ?_
  exact hQ _ _ (end_plain (.inl rfl) hbel (x := .bool (apartB x y l (c1 * 64) (c2 * 64) ((c1 + 1) * 64) ((c2 + 1) * 64))) (resT Tryz.results274) rfl ⟨rfl, rfl⟩)
theorem touched_c (H : AHeap) (x : Int) (y : Int) (s : AV) (l : List (Int × Int)) (hs : Sl H 2 s l.length (prs l)) : ACalls Tryz.prog 199 [.agg [.int .i64 x, .int .i64 y, s]] H (fun v H' => v = .tup [.sl (some (H.length, 0)) ((touL x y l).length) none, .int .i64 (touE x y l)] ∧ H' = H ++ [.cells (ownG (touC x y l).length) 2 (prs (touL x y l))]) := by
  obtain ⟨bs, os, cs, rfl, hbs⟩ := hs
  have hbls := getElem?_lt hbs
  have hb0s := fun l => get_app (l := l) hbs
  refine AcT false Tryz.func199 ?_; intro hbel Q hQ
  have g'2 := (jn @hbs @hb0s)
  refine runTf g'2 ?_
  refine call_v (by kernel_rfl) (Bounds_c _ x y _ l ⟨_, _, _, rfl, by first | exact hb0s _ | exact hbs⟩) ?_
  refine runTf g'2 ?_
  refine cond_split (fun h1 => ?_) (fun h1 => ?_)
  · have h1d := bsT h1
    have hv0 : ¬ validB x y l = true := by intro hv; simp [hv] at h1d
    have hfinE : touE x y l = 1 := if_neg hv0
    have hfinC : touC x y l = [] := if_neg hv0
    have hfinL : touL x y l = [] := if_neg (by rw [hfinE]; decide)
    have g'3 := (jn @h1 (jn @h1d (jn @int_bne (jn @int_beq g'2))))
    refine runTf g'3 ?_
    refine hQ _ _ (end_byG (.inl rfl) hbel (x1 := .tup [.sl none 0 (some 0), .int .i64 (if (validB x y l) = true then 0 else 1)]) (l2 := [.cells false 2 []]) (.tup [.sl (some (H.length, 0)) 0 none, .int .i64 (if (validB x y l) = true then 0 else 1)]) (resT Tryz.results199) [.cells false 2 []] rfl [2] (by decide) ⟨by first | (rw [hfinL, hfinE, if_neg hv0]; rfl) | (rw [hfinL, hfinE]; rfl) | (rw [hfinL, hfinE, hfinC]; done) | (rw [hfinL, hfinE, hfinC2]; done), by first | (rw [hfinL, hfinC2]; rfl) | (rw [hfinL, hfinC]; done) | (rw [hfinL, hfinC]; rfl) | (rw [hfinL, hfinC2]; rfl)⟩ ?_)
    exact absWf @prs_padL
  · have h1d := bsT h1
    have hv0 : validB x y l = true := by simpa using h1d
    have hbb := bnd_bd hv0
    have hfinC : touC x y l = touQ x y l := if_pos hv0
    have hEE : touE x y l = touF x y l := if_pos hv0
    have g'4 := (jn @h1 (jn @h1d (jn @int_bne (jn @int_beq g'2))))
    refine runTf g'4 ?_
    refine call_d (by kernel_rfl) (mfloor_c _ (ifv (validB x y l) (x - spr (1, 0) l)) 2 (by omega) (by omega)) ?_
    refine runTf g'4 ?_
    refine call_d (by kernel_rfl) (mfloor_c _ (ifv (validB x y l) (y - spr (0, 1) l)) 2 (by omega) (by omega)) ?_
    refine runTf g'4 ?_
    refine call_d (by kernel_rfl) (mfloor_c _ (0 - (ifv (validB x y l) (x + spr (1, 0) l))) 2 (by omega) (by omega)) ?_
    refine runTf g'4 ?_
    refine call_d (by kernel_rfl) (mfloor_c _ (0 - (ifv (validB x y l) (y + spr (0, 1) l))) 2 (by omega) (by omega)) ?_
    refine runTf g'4 ?_
    refine call_x (by kernel_rfl) (by simp) (cellsq_c _ x y l) ?_
    refine runTf g'4 ?_
    refine cond_split (fun h2 => ?_) (fun h2 => ?_)
    · have h2d := bsT h2
      have hne : ¬ touE x y l = 0 := by rw [hEE]; simpa using h2d
      have hfinE := hEE
      have hfinC2 : touC x y l = [] := by rw [hfinC]; exact if_neg (show ¬ touF x y l = 0 by rw [← hEE]; exact hne)
      have hfinL : touL x y l = [] := if_neg hne
      have g'5 := (jn @h2 (jn @h2d g'4))
      refine runTf g'5 ?_
      refine hQ _ _ (end_byG (.inl rfl) hbel (x1 := .tup [.sl none 0 (some 0), .int .i64 (touF x y l)]) (l2 := [.cells false 2 []]) (.tup [.sl (some (H.length, 0)) 0 none, .int .i64 (touF x y l)]) (resT Tryz.results199) [.cells false 2 []] rfl [3] (by decide) ⟨by first | (rw [hfinL, hfinE, if_neg hv0]; rfl) | (rw [hfinL, hfinE]; rfl) | (rw [hfinL, hfinE, hfinC]; done) | (rw [hfinL, hfinE, hfinC2]; done), by first | (rw [hfinL, hfinC2]; rfl) | (rw [hfinL, hfinC]; done) | (rw [hfinL, hfinC]; rfl) | (rw [hfinL, hfinC2]; rfl)⟩ ?_)
      exact absWf @prs_padL
    · have h2d := bsT h2
      have hfinE : touE x y l = 0 := by rw [hEE]; simpa using h2d
      have hfinL : touL x y l = delL (apP x y l) (touC x y l) := if_pos hfinE
      have g'6 := (jn @h2 (jn @h2d g'4))
      refine runTf g'6 ?_
      refine call_v (by kernel_rfl) (del_cell _ _ _ (touQ x y l) (by rw [get_newk]; rfl) (Nat.le_trans (touQ_len _ _ _) (by decide)) _ _ (by kernel_rfl) (by simp [AV.bels, AV.bel]) (apP x y l) (fun X e L he => touch1_c _ e.1 e.2 x y _ l _ ⟨_, _, _, rfl, by rw [set_newk, List.append_assoc]; exact hb0s _⟩ ⟨_, by rw [set_newk, List.append_assoc, get_new0]; rfl⟩ (by have := touQ_bd e he; omega) (by have := touQ_bd e he; omega))) ?_
      refine runTf g'6 ?_
      refine hQ _ _ (end_byG (.inl rfl) hbel (x1 := .tup [.sl (some (H.length + 2, 0)) ((delL (apP x y l) (touQ x y l)).length) none, .int .i64 0]) (l2 := [.cells (ownG (touQ x y l).length) 2 (prs (delL (apP x y l) (touQ x y l)))]) (.tup [.sl (some (H.length, 0)) ((delL (apP x y l) (touQ x y l)).length) none, .int .i64 0]) (resT Tryz.results199) [] rfl [2] (by decide) ⟨by first | (rw [hfinL, hfinE, if_neg hv0]; rfl) | (rw [hfinL, hfinE]; rfl) | (rw [hfinL, hfinE, hfinC]; done) | (rw [hfinL, hfinE, hfinC2]; done), by first | (rw [hfinL, hfinC2]; rfl) | (rw [hfinL, hfinC]; done) | (rw [hfinL, hfinC]; rfl) | (rw [hfinL, hfinC2]; rfl)⟩ ?_)
      exact absWf @prs_padL
open Go.RowKit
theorem ofrect_0 (H : AHeap) (x0 y0 x1 y1 : Int) (h : rectE x0 y0 x1 y1 = 0) : ACalls Tryz.prog 268 [.agg [.int .i64 x0, .int .i64 y0, .int .i64 x1, .int .i64 y1]] H (fun v H' => v = .tup [.agg [.int .i64 (x0 + x1), .int .i64 (y0 + y1), .sl (some (H.length, 0)) (canonL (recL x0 y0 x1 y1)).length (capG (canonL (recL x0 y0 x1 y1)).length)], .int .i64 0] ∧ H' = H ++ [.cells (ownG (canonL (recL x0 y0 x1 y1)).length) 2 (prs (canonL (recL x0 y0 x1 y1)))]) := by
  have k := ofrect_c H x0 y0 x1 y1
  rw [h] at k
  exact k
theorem ofway_0 (H : AHeap) (a b : Int) (h : segE 0 0 a b = 0) : ACalls Tryz.prog 271 [.agg [.int .i64 0, .int .i64 0], .agg [.int .i64 a, .int .i64 b]] H (fun v H' => v = .tup [.agg [.int .i64 a, .int .i64 b, .sl (some (H.length, 0)) (canonL [(a, b)]).length (capG (canonL [(a, b)]).length)], .int .i64 0] ∧ H' = H ++ [.cells (ownG (canonL [(a, b)]).length) 2 (prs (canonL [(a, b)]))]) := by
  have k := ofseg_c H 0 0 a b
  rw [h, Int.zero_add, Int.zero_add, Int.sub_zero, Int.sub_zero] at k
  exact k
theorem Sum_0 (H : AHeap) (x1 y1 : Int) (s : AV) (l : List Pt) (x2 y2 : Int) (t : AV) (m : List Pt) (hs : SlP H s l) (ht : SlP H t m) (h : sumE x1 y1 l x2 y2 m = 0) : ACalls Tryz.prog 269 [.agg [.int .i64 x1, .int .i64 y1, s], .agg [.int .i64 x2, .int .i64 y2, t]] H (fun v H' => v = .tup [.agg [.int .i64 (x1 + x2), .int .i64 (y1 + y2), .sl (some (H.length, 0)) (canonL (l ++ m)).length (capG (canonL (l ++ m)).length)], .int .i64 0] ∧ H' = H ++ [.cells (ownG (canonL (l ++ m)).length) 2 (prs (canonL (l ++ m)))]) := by
  have k := Sum_c H x1 y1 s l x2 y2 t m hs ht
  rw [h] at k
  exact k
theorem square_c (H : AHeap) (a : Int) (ha : 0 ≤ a ∧ a ≤ 1000) : ACalls Tryz.prog 270 [.int .i64 a] H (fun v H' => v = .agg [.int .i64 0, .int .i64 0, .sl (some (H.length, 0)) ((canonL (sqrL a)).length) (capG (canonL (sqrL a)).length)] ∧ H' = H ++ [.cells (ownG (canonL (sqrL a)).length) 2 (prs (canonL (sqrL a)))]) := by
  have hre : rectE (0 - a) (0 - a) a a = 0 := if_pos ⟨by unfold far4; simp only [Bool.and_eq_true, within_iff]; omega, by omega, by omega, by omega, by omega⟩
  refine AcT true Tryz.func270 ?_; intro hbel Q hQ
  refine runT ?_
  refine call_v (by kernel_rfl) (ofrect_0 _ (0 - a) (0 - a) a a (by assumption)) ?_
  refine runT ?_
  refine hQ _ _ (end_byG (.inl rfl) hbel (x1 := .agg [.int .i64 ((0 - a) + a), .int .i64 ((0 - a) + a), .sl (some (H.length + 1, 0)) ((canonL (recL (0 - a) (0 - a) a a)).length) (capG (canonL (recL (0 - a) (0 - a) a a)).length)]) (l2 := [.cells (ownG (canonL (recL (0 - a) (0 - a) a a)).length) 2 (prs (canonL (recL (0 - a) (0 - a) a a)))]) (.agg [.int .i64 ((0 - a) + a), .int .i64 ((0 - a) + a), .sl (some (H.length, 0)) ((canonL (recL (0 - a) (0 - a) a a)).length) (capG (canonL (recL (0 - a) (0 - a) a a)).length)]) (resT Tryz.results270) [] rfl [1] (by decide) ⟨by rw [show (0 : Int) - a + a = 0 by omega]; rfl, rfl⟩ ?_)
  exact absW
open Go.RowKit
theorem sweep_c (H : AHeap) (x0 : Int) (y0 : Int) (x1 : Int) (y1 : Int) (h : Int) (t : Int) (f : Int) (tu : Int) (le : Int) (sl : Int) (ra : Int) : ACalls Tryz.prog 198 [.agg [.int .i64 x0, .int .i64 y0, .int .i64 x1, .int .i64 y1], .int .i64 h, .agg [.int .i64 t, .int .i64 f], .agg [.int .i64 tu, .int .i64 le, .int .i64 sl, .int .i64 ra]] H (fun v H' => v = .tup [.agg [.int .i64 (mkX (sweE x0 y0 x1 y1 h t f tu le sl ra) (sweX x0 x1 h f le)), .int .i64 (mkX (sweE x0 y0 x1 y1 h t f tu le sl ra) (sweY y0 y1 h f le)), .sl (some (H.length, 0)) ((mkL (sweE x0 y0 x1 y1 h t f tu le sl ra) (sweL x0 y0 x1 y1 h f le sl)).length) (capG (mkL (sweE x0 y0 x1 y1 h t f tu le sl ra) (sweL x0 y0 x1 y1 h f le sl)).length)], .int .i64 (sweE x0 y0 x1 y1 h t f tu le sl ra)] ∧ H' = H ++ [.cells (ownG (mkL (sweE x0 y0 x1 y1 h t f tu le sl ra) (sweL x0 y0 x1 y1 h f le sl)).length) 2 (prs (mkL (sweE x0 y0 x1 y1 h t f tu le sl ra) (sweL x0 y0 x1 y1 h f le sl)))]) := by
  have hwx : (f + le) * (dirV h).1 / (dirV h).2.2 = wayX h (f + le) := rfl
  have hwy : (f + le) * (dirV h).2.1 / (dirV h).2.2 = wayY h (f + le) := rfl
  (refine ACalls_pieces Tryz.func198 _ rfl (Nat.le_of_ble_eq_true (by kernel_rfl)) rfl ?_; intro hbel Q hQ hQ' c hc; unfold Tryz.f198 at hc; simp only [Option.some.injEq] at hc; subst hc; clear hQ')
  refine AW_step false try_mixed (by kernel_rfl) (fun F Hx => look F 1 = .int .i64 h ∧ look F 4 = .ptr (some (H.length, 0)) ∧ look F 6 = .ptr (some (H.length + 1, 0)) ∧ look F 7 = .ptr (some (H.length + 2, 0)) ∧ look F 8 = .ptr (some (H.length + 3, 0)) ∧ look F 9 = .int .i64 0 ∧ Hx = H ++ [.cells true 0 [.int .i64 x0, .int .i64 y0, .int .i64 x1, .int .i64 y1], .cells true 0 [.int .i64 t, .int .i64 f], .cells true 0 [.int .i64 tu, .int .i64 le, .int .i64 sl, .int .i64 ra], .cells true 0 [.int .i64 0, .int .i64 0, .sl none 0 (some 0)]]) ?_ ?_
  · skip
    have g'1 := (jn @hwx @hwy)
    refine runTf g'1 ?_
    refine inv_of ?_
    exact absT
  rintro F Hx ⟨f1, f2, f3, f4, f5, f6, rfl⟩
  refine AW_step false try_mixed (by kernel_rfl) (fun F Hx => within x0 1048576 = true ∧ within y0 1048576 = true ∧ within x1 1048576 = true ∧ within y1 1048576 = true ∧ (btw (x1 - x0) 0 32768) = true ∧ (btw (y1 - y0) 0 32768) = true ∧ cmdB t f = true ∧ bndB tu le sl ra = true ∧ look F 1 = .int .i64 h ∧ look F 4 = .ptr (some (H.length, 0)) ∧ look F 6 = .ptr (some (H.length + 1, 0)) ∧ look F 7 = .ptr (some (H.length + 2, 0)) ∧ look F 8 = .ptr (some (H.length + 3, 0)) ∧ look F 9 = .int .i64 0 ∧ Hx = H ++ [.cells true 0 [.int .i64 x0, .int .i64 y0, .int .i64 x1, .int .i64 y1], .cells true 0 [.int .i64 t, .int .i64 f], .cells true 0 [.int .i64 tu, .int .i64 le, .int .i64 sl, .int .i64 ra], .cells true 0 [.int .i64 0, .int .i64 0, .sl none 0 (some 0)]]) ?_ ?_
  · skip
    have g'2 := (jn @f1 (jn @f2 (jn @f3 (jn @f4 (jn @f5 (jn @f6 (jn @hwx @hwy)))))))
    refine runTf g'2 ?_
    refine call_v (by kernel_rfl) (mnear_c _ x0) ?_
    refine runTf g'2 ?_
    refine gd_split (fun h7 => ?_) (fun h7 => ?_)
    · have h7d := bsT h7
      have hwx0 := within_iff.1 h7d
      have g'3 := (jn @h7 (jn @h7d g'2))
      refine runTf g'3 ?_
      refine call_v (by kernel_rfl) (mnear_c _ y0) ?_
      refine runTf g'3 ?_
      refine gd_split (fun h8 => ?_) (fun h8 => ?_)
      · have h8d := bsT h8
        have hwy0 := within_iff.1 h8d
        have g'4 := (jn @h8 (jn @h8d g'3))
        refine runTf g'4 ?_
        refine call_v (by kernel_rfl) (mnear_c _ x1) ?_
        refine runTf g'4 ?_
        refine gd_split (fun h9 => ?_) (fun h9 => ?_)
        · have h9d := bsT h9
          have hwx1 := within_iff.1 h9d
          have g'5 := (jn @h9 (jn @h9d g'4))
          refine runTf g'5 ?_
          refine call_v (by kernel_rfl) (mnear_c _ y1) ?_
          refine runTf g'5 ?_
          refine gd_split (fun h10 => ?_) (fun h10 => ?_)
          · have h10d := bsT h10
            have hwy1 := within_iff.1 h10d
            have g'6 := (jn @h10 (jn @h10d g'5))
            refine runTf g'6 ?_
            refine call_v (by kernel_rfl) (mwithin_c _ (x1 - x0) 0 32768) ?_
            refine runTf g'6 ?_
            refine gd_split (fun h11 => ?_) (fun h11 => ?_)
            · have h11d := bsT h11
              have g'7 := (jn @h11 (jn @h11d g'6))
              refine runTf g'7 ?_
              refine call_v (by kernel_rfl) (mwithin_c _ (y1 - y0) 0 32768) ?_
              refine runTf g'7 ?_
              refine gd_split (fun h12 => ?_) (fun h12 => ?_)
              · have h12d := bsT h12
                have g'8 := (jn @h12 (jn @h12d g'7))
                refine runTf g'8 ?_
                refine call_v (by kernel_rfl) (vcmd_c _ t f) ?_
                refine runTf g'8 ?_
                refine gd_split (fun h13 => ?_) (fun h13 => ?_)
                · have h13d := bsT h13
                  have g'9 := (jn @h13 (jn @h13d g'8))
                  refine runTf g'9 ?_
                  refine call_v (by kernel_rfl) (vbnd_c _ tu le sl ra) ?_
                  refine runTf g'9 ?_
                  refine cond_split (fun h14 => ?_) (fun h14 => ?_)
                  · have h14d := bsT h14
                    have g'10 := (jn @h14 (jn @h14d g'9))
                    refine runTf g'10 ?_
                    refine hQ _ _ (end_byG (.inl rfl) hbel (x1 := .tup [.agg [.int .i64 0, .int .i64 0, .sl none 0 (some 0)], .int .i64 1]) (l2 := [.cells false 2 []]) (.tup [.agg [.int .i64 0, .int .i64 0, .sl (some (H.length, 0)) 0 (some 0)], .int .i64 1]) (resTf (jn @f1 (jn @f2 (jn @f3 (jn @f4 (jn @f5 @f6))))) Tryz.results198) [.cells false 2 []] rfl [4] (by decide) ⟨by first | (simp [mkX, mkL, sweE, sweB, capG_0, ownG_0, prs_nil, h7d, h8d, h9d, h10d, h11d, h12d, h13d, h14d]; done) | (simp [mkX, mkL, sweE, hok, capG_0, ownG_0, prs_nil, h7d, h8d, h9d, h10d, h11d, h12d, h13d, h14d]; done) | (rw [hfinE]; simp only [mkX_0, mkL_0, sweX, sweY, sweL, wayL, hlf, hfinF, if_true, if_false, sw_eq, ← sw_eq0, Int.add_zero]), by first | (simp [mkX, mkL, sweE, sweB, capG_0, ownG_0, prs_nil, h7d, h8d, h9d, h10d, h11d, h12d, h13d, h14d]; done) | (simp [mkX, mkL, sweE, hok, capG_0, ownG_0, prs_nil, h7d, h8d, h9d, h10d, h11d, h12d, h13d, h14d]; done) | (rw [hfinE]; simp only [mkX_0, mkL_0, sweX, sweY, sweL, wayL, hlf, hfinF, if_true, if_false, sw_eq, ← sw_eq0, Int.add_zero])⟩ ?_)
                    exact absW
                  · have h14d := bsT h14
                    have g'11 := (jn @h14 (jn @h14d g'9))
                    refine runTf g'11 ?_
                    refine inv_of ?_
                    exact absTf (jn @f1 (jn @f2 (jn @f3 (jn @f4 (jn @f5 @f6)))))
                · have h13d := bsT h13
                  have g'12 := (jn @h13 (jn @h13d g'8))
                  refine runTf g'12 ?_
                  refine hQ _ _ (end_byG (.inl rfl) hbel (x1 := .tup [.agg [.int .i64 0, .int .i64 0, .sl none 0 (some 0)], .int .i64 1]) (l2 := [.cells false 2 []]) (.tup [.agg [.int .i64 0, .int .i64 0, .sl (some (H.length, 0)) 0 (some 0)], .int .i64 1]) (resTf (jn @f1 (jn @f2 (jn @f3 (jn @f4 (jn @f5 @f6))))) Tryz.results198) [.cells false 2 []] rfl [4] (by decide) ⟨by first | (simp [mkX, mkL, sweE, sweB, capG_0, ownG_0, prs_nil, h7d, h8d, h9d, h10d, h11d, h12d, h13d]; done) | (simp [mkX, mkL, sweE, hok, capG_0, ownG_0, prs_nil, h7d, h8d, h9d, h10d, h11d, h12d, h13d]; done) | (rw [hfinE]; simp only [mkX_0, mkL_0, sweX, sweY, sweL, wayL, hlf, hfinF, if_true, if_false, sw_eq, ← sw_eq0, Int.add_zero]), by first | (simp [mkX, mkL, sweE, sweB, capG_0, ownG_0, prs_nil, h7d, h8d, h9d, h10d, h11d, h12d, h13d]; done) | (simp [mkX, mkL, sweE, hok, capG_0, ownG_0, prs_nil, h7d, h8d, h9d, h10d, h11d, h12d, h13d]; done) | (rw [hfinE]; simp only [mkX_0, mkL_0, sweX, sweY, sweL, wayL, hlf, hfinF, if_true, if_false, sw_eq, ← sw_eq0, Int.add_zero])⟩ ?_)
                  exact absW
              · have h12d := bsT h12
                have g'13 := (jn @h12 (jn @h12d g'7))
                refine runTf g'13 ?_
                refine hQ _ _ (end_byG (.inl rfl) hbel (x1 := .tup [.agg [.int .i64 0, .int .i64 0, .sl none 0 (some 0)], .int .i64 1]) (l2 := [.cells false 2 []]) (.tup [.agg [.int .i64 0, .int .i64 0, .sl (some (H.length, 0)) 0 (some 0)], .int .i64 1]) (resTf (jn @f1 (jn @f2 (jn @f3 (jn @f4 (jn @f5 @f6))))) Tryz.results198) [.cells false 2 []] rfl [4] (by decide) ⟨by first | (simp [mkX, mkL, sweE, sweB, capG_0, ownG_0, prs_nil, h7d, h8d, h9d, h10d, h11d, h12d]; done) | (simp [mkX, mkL, sweE, hok, capG_0, ownG_0, prs_nil, h7d, h8d, h9d, h10d, h11d, h12d]; done) | (rw [hfinE]; simp only [mkX_0, mkL_0, sweX, sweY, sweL, wayL, hlf, hfinF, if_true, if_false, sw_eq, ← sw_eq0, Int.add_zero]), by first | (simp [mkX, mkL, sweE, sweB, capG_0, ownG_0, prs_nil, h7d, h8d, h9d, h10d, h11d, h12d]; done) | (simp [mkX, mkL, sweE, hok, capG_0, ownG_0, prs_nil, h7d, h8d, h9d, h10d, h11d, h12d]; done) | (rw [hfinE]; simp only [mkX_0, mkL_0, sweX, sweY, sweL, wayL, hlf, hfinF, if_true, if_false, sw_eq, ← sw_eq0, Int.add_zero])⟩ ?_)
                exact absW
            · have h11d := bsT h11
              have g'14 := (jn @h11 (jn @h11d g'6))
              refine runTf g'14 ?_
              refine hQ _ _ (end_byG (.inl rfl) hbel (x1 := .tup [.agg [.int .i64 0, .int .i64 0, .sl none 0 (some 0)], .int .i64 1]) (l2 := [.cells false 2 []]) (.tup [.agg [.int .i64 0, .int .i64 0, .sl (some (H.length, 0)) 0 (some 0)], .int .i64 1]) (resTf (jn @f1 (jn @f2 (jn @f3 (jn @f4 (jn @f5 @f6))))) Tryz.results198) [.cells false 2 []] rfl [4] (by decide) ⟨by first | (simp [mkX, mkL, sweE, sweB, capG_0, ownG_0, prs_nil, h7d, h8d, h9d, h10d, h11d]; done) | (simp [mkX, mkL, sweE, hok, capG_0, ownG_0, prs_nil, h7d, h8d, h9d, h10d, h11d]; done) | (rw [hfinE]; simp only [mkX_0, mkL_0, sweX, sweY, sweL, wayL, hlf, hfinF, if_true, if_false, sw_eq, ← sw_eq0, Int.add_zero]), by first | (simp [mkX, mkL, sweE, sweB, capG_0, ownG_0, prs_nil, h7d, h8d, h9d, h10d, h11d]; done) | (simp [mkX, mkL, sweE, hok, capG_0, ownG_0, prs_nil, h7d, h8d, h9d, h10d, h11d]; done) | (rw [hfinE]; simp only [mkX_0, mkL_0, sweX, sweY, sweL, wayL, hlf, hfinF, if_true, if_false, sw_eq, ← sw_eq0, Int.add_zero])⟩ ?_)
              exact absW
          · have h10d := bsT h10
            have g'15 := (jn @h10 (jn @h10d g'5))
            refine runTf g'15 ?_
            refine hQ _ _ (end_byG (.inl rfl) hbel (x1 := .tup [.agg [.int .i64 0, .int .i64 0, .sl none 0 (some 0)], .int .i64 1]) (l2 := [.cells false 2 []]) (.tup [.agg [.int .i64 0, .int .i64 0, .sl (some (H.length, 0)) 0 (some 0)], .int .i64 1]) (resTf (jn @f1 (jn @f2 (jn @f3 (jn @f4 (jn @f5 @f6))))) Tryz.results198) [.cells false 2 []] rfl [4] (by decide) ⟨by first | (simp [mkX, mkL, sweE, sweB, capG_0, ownG_0, prs_nil, h7d, h8d, h9d, h10d]; done) | (simp [mkX, mkL, sweE, hok, capG_0, ownG_0, prs_nil, h7d, h8d, h9d, h10d]; done) | (rw [hfinE]; simp only [mkX_0, mkL_0, sweX, sweY, sweL, wayL, hlf, hfinF, if_true, if_false, sw_eq, ← sw_eq0, Int.add_zero]), by first | (simp [mkX, mkL, sweE, sweB, capG_0, ownG_0, prs_nil, h7d, h8d, h9d, h10d]; done) | (simp [mkX, mkL, sweE, hok, capG_0, ownG_0, prs_nil, h7d, h8d, h9d, h10d]; done) | (rw [hfinE]; simp only [mkX_0, mkL_0, sweX, sweY, sweL, wayL, hlf, hfinF, if_true, if_false, sw_eq, ← sw_eq0, Int.add_zero])⟩ ?_)
            exact absW
        · have h9d := bsT h9
          have g'16 := (jn @h9 (jn @h9d g'4))
          refine runTf g'16 ?_
          refine hQ _ _ (end_byG (.inl rfl) hbel (x1 := .tup [.agg [.int .i64 0, .int .i64 0, .sl none 0 (some 0)], .int .i64 1]) (l2 := [.cells false 2 []]) (.tup [.agg [.int .i64 0, .int .i64 0, .sl (some (H.length, 0)) 0 (some 0)], .int .i64 1]) (resTf (jn @f1 (jn @f2 (jn @f3 (jn @f4 (jn @f5 @f6))))) Tryz.results198) [.cells false 2 []] rfl [4] (by decide) ⟨by first | (simp [mkX, mkL, sweE, sweB, capG_0, ownG_0, prs_nil, h7d, h8d, h9d]; done) | (simp [mkX, mkL, sweE, hok, capG_0, ownG_0, prs_nil, h7d, h8d, h9d]; done) | (rw [hfinE]; simp only [mkX_0, mkL_0, sweX, sweY, sweL, wayL, hlf, hfinF, if_true, if_false, sw_eq, ← sw_eq0, Int.add_zero]), by first | (simp [mkX, mkL, sweE, sweB, capG_0, ownG_0, prs_nil, h7d, h8d, h9d]; done) | (simp [mkX, mkL, sweE, hok, capG_0, ownG_0, prs_nil, h7d, h8d, h9d]; done) | (rw [hfinE]; simp only [mkX_0, mkL_0, sweX, sweY, sweL, wayL, hlf, hfinF, if_true, if_false, sw_eq, ← sw_eq0, Int.add_zero])⟩ ?_)
          exact absW
      · have h8d := bsT h8
        have g'17 := (jn @h8 (jn @h8d g'3))
        refine runTf g'17 ?_
        refine hQ _ _ (end_byG (.inl rfl) hbel (x1 := .tup [.agg [.int .i64 0, .int .i64 0, .sl none 0 (some 0)], .int .i64 1]) (l2 := [.cells false 2 []]) (.tup [.agg [.int .i64 0, .int .i64 0, .sl (some (H.length, 0)) 0 (some 0)], .int .i64 1]) (resTf (jn @f1 (jn @f2 (jn @f3 (jn @f4 (jn @f5 @f6))))) Tryz.results198) [.cells false 2 []] rfl [4] (by decide) ⟨by first | (simp [mkX, mkL, sweE, sweB, capG_0, ownG_0, prs_nil, h7d, h8d]; done) | (simp [mkX, mkL, sweE, hok, capG_0, ownG_0, prs_nil, h7d, h8d]; done) | (rw [hfinE]; simp only [mkX_0, mkL_0, sweX, sweY, sweL, wayL, hlf, hfinF, if_true, if_false, sw_eq, ← sw_eq0, Int.add_zero]), by first | (simp [mkX, mkL, sweE, sweB, capG_0, ownG_0, prs_nil, h7d, h8d]; done) | (simp [mkX, mkL, sweE, hok, capG_0, ownG_0, prs_nil, h7d, h8d]; done) | (rw [hfinE]; simp only [mkX_0, mkL_0, sweX, sweY, sweL, wayL, hlf, hfinF, if_true, if_false, sw_eq, ← sw_eq0, Int.add_zero])⟩ ?_)
        exact absW
    · have h7d := bsT h7
      have g'18 := (jn @h7 (jn @h7d g'2))
      refine runTf g'18 ?_
      refine hQ _ _ (end_byG (.inl rfl) hbel (x1 := .tup [.agg [.int .i64 0, .int .i64 0, .sl none 0 (some 0)], .int .i64 1]) (l2 := [.cells false 2 []]) (.tup [.agg [.int .i64 0, .int .i64 0, .sl (some (H.length, 0)) 0 (some 0)], .int .i64 1]) (resTf (jn @f1 (jn @f2 (jn @f3 (jn @f4 (jn @f5 @f6))))) Tryz.results198) [.cells false 2 []] rfl [4] (by decide) ⟨by first | (simp [mkX, mkL, sweE, sweB, capG_0, ownG_0, prs_nil, h7d]; done) | (simp [mkX, mkL, sweE, hok, capG_0, ownG_0, prs_nil, h7d]; done) | (rw [hfinE]; simp only [mkX_0, mkL_0, sweX, sweY, sweL, wayL, hlf, hfinF, if_true, if_false, sw_eq, ← sw_eq0, Int.add_zero]), by first | (simp [mkX, mkL, sweE, sweB, capG_0, ownG_0, prs_nil, h7d]; done) | (simp [mkX, mkL, sweE, hok, capG_0, ownG_0, prs_nil, h7d]; done) | (rw [hfinE]; simp only [mkX_0, mkL_0, sweX, sweY, sweL, wayL, hlf, hfinF, if_true, if_false, sw_eq, ← sw_eq0, Int.add_zero])⟩ ?_)
      exact absW
  rintro F Hx ⟨h15d, h16d, h17d, h18d, h19d, h20d, h21d, h22d, f23, f24, f25, f26, f27, f28, rfl⟩
  have hok : sweB x0 y0 x1 y1 t f tu le sl ra = true := by unfold sweB; rw [h15d, h16d, h17d, h18d, h19d, h20d, h21d, h22d]; rfl
  have hbd := swe_bd hok
  have hre : rectE x0 y0 x1 y1 = 0 := if_pos ⟨by unfold far4; simp only [Bool.and_eq_true, within_iff]; omega, by omega, by omega, by omega, by omega⟩
  have hrs := rec_spr (x0 := x0) (y0 := y0) (x1 := x1) (y1 := y1) (by omega) (by omega)
  have hq1 := sqr_spr (a := 20) (by omega)
  have hq2 := sqr_spr (a := sl + 21) (by omega)
  refine AW_step false try_mixed (by kernel_rfl) (fun F Hx => btw h 0 255 = true ∧ look F 1 = .int .i64 h ∧ look F 4 = .ptr (some (H.length, 0)) ∧ look F 6 = .ptr (some (H.length + 1, 0)) ∧ look F 7 = .ptr (some (H.length + 2, 0)) ∧ look F 8 = .ptr (some (H.length + 3, 0)) ∧ look F 9 = .int .i64 0 ∧ Hx = H ++ [.cells true 0 [.int .i64 x0, .int .i64 y0, .int .i64 x1, .int .i64 y1], .cells true 0 [.int .i64 t, .int .i64 f], .cells true 0 [.int .i64 tu, .int .i64 le, .int .i64 sl, .int .i64 ra], .cells true 0 [.int .i64 0, .int .i64 0, .sl none 0 (some 0)]]) ?_ ?_
  · skip
    have g'19 := (jn @f1 (jn @f2 (jn @f3 (jn @f4 (jn @f5 (jn @f6 (jn @f23 (jn @f24 (jn @f25 (jn @f26 (jn @f27 (jn @f28 (jn @h15d (jn @h16d (jn @h17d (jn @h18d (jn @h19d (jn @h20d (jn @h21d (jn @h22d (jn @hwx @hwy)))))))))))))))))))))
    refine runTf g'19 ?_
    refine call_v (by kernel_rfl) (mwithin_c _ h 0 255) ?_
    refine runTf g'19 ?_
    refine cond_split (fun h29 => ?_) (fun h29 => ?_)
    · have h29d := bsT h29
      have g'20 := (jn @h29 (jn @h29d g'19))
      refine runTf g'20 ?_
      refine hQ _ _ (end_byG (.inl rfl) hbel (x1 := .tup [.agg [.int .i64 0, .int .i64 0, .sl none 0 (some 0)], .int .i64 2]) (l2 := [.cells false 2 []]) (.tup [.agg [.int .i64 0, .int .i64 0, .sl (some (H.length, 0)) 0 (some 0)], .int .i64 2]) (resTf (jn @f1 (jn @f2 (jn @f3 (jn @f4 (jn @f5 (jn @f6 (jn @f23 (jn @f24 (jn @f25 (jn @f26 (jn @f27 @f28))))))))))) Tryz.results198) [.cells false 2 []] rfl [4] (by decide) ⟨by first | (simp [mkX, mkL, sweE, sweB, capG_0, ownG_0, prs_nil, h15d, h16d, h17d, h18d, h19d, h20d, h21d, h22d, h29d]; done) | (simp [mkX, mkL, sweE, hok, capG_0, ownG_0, prs_nil, h15d, h16d, h17d, h18d, h19d, h20d, h21d, h22d, h29d]; done) | (rw [hfinE]; simp only [mkX_0, mkL_0, sweX, sweY, sweL, wayL, hlf, hfinF, if_true, if_false, sw_eq, ← sw_eq0, Int.add_zero]), by first | (simp [mkX, mkL, sweE, sweB, capG_0, ownG_0, prs_nil, h15d, h16d, h17d, h18d, h19d, h20d, h21d, h22d, h29d]; done) | (simp [mkX, mkL, sweE, hok, capG_0, ownG_0, prs_nil, h15d, h16d, h17d, h18d, h19d, h20d, h21d, h22d, h29d]; done) | (rw [hfinE]; simp only [mkX_0, mkL_0, sweX, sweY, sweL, wayL, hlf, hfinF, if_true, if_false, sw_eq, ← sw_eq0, Int.add_zero])⟩ ?_)
      exact absW
    · have h29d := bsT h29
      have g'21 := (jn @h29 (jn @h29d g'19))
      refine runTf g'21 ?_
      refine inv_of ?_
      exact absTf (jn @f1 (jn @f2 (jn @f3 (jn @f4 (jn @f5 (jn @f6 (jn @f23 (jn @f24 (jn @f25 (jn @f26 (jn @f27 @f28)))))))))))
  rintro F Hx ⟨h30d, f31, f32, f33, f34, f35, f36, rfl⟩
  have hfinE : sweE x0 y0 x1 y1 h t f tu le sl ra = 0 := by unfold sweE; rw [hok, h30d]; rfl
  have hz0 : sumE (x0 + x1) (y0 + y1) (canonL (recL x0 y0 x1 y1)) 0 0 (canonL (sqrL 20)) = 0 := sum_ok (by omega) (by omega) (by omega) (by omega) (by simp [recL, sqrL]) (by omega) (by omega)
  refine AW_step false try_mixed (by kernel_rfl) (fun F Hx => look F 1 = .int .i64 h ∧ look F 6 = .ptr (some (H.length + 1, 0)) ∧ look F 7 = .ptr (some (H.length + 2, 0)) ∧ look F 8 = .ptr (some (H.length + 3, 0)) ∧ look F 9 = .int .i64 0 ∧ look F 10 = .ptr (some (H.length + 5, 0)) ∧ Hx = H ++ [.cells true 0 [.int .i64 x0, .int .i64 y0, .int .i64 x1, .int .i64 y1], .cells true 0 [.int .i64 t, .int .i64 f], .cells true 0 [.int .i64 tu, .int .i64 le, .int .i64 sl, .int .i64 ra], .cells true 0 [.int .i64 0, .int .i64 0, .sl none 0 (some 0)], .cells (ownG (canonL (recL x0 y0 x1 y1)).length) 2 (prs (canonL (recL x0 y0 x1 y1))), .cells true 0 [.int .i64 (x0 + x1), .int .i64 (y0 + y1), .sl (some (H.length + 4, 0)) ((canonL (recL x0 y0 x1 y1)).length) (capG (canonL (recL x0 y0 x1 y1)).length)]]) ?_ ?_
  · skip
    have g'22 := (jn @f1 (jn @f2 (jn @f3 (jn @f4 (jn @f5 (jn @f6 (jn @f23 (jn @f24 (jn @f25 (jn @f26 (jn @f27 (jn @f28 (jn @h15d (jn @h16d (jn @h17d (jn @h18d (jn @h19d (jn @h20d (jn @h21d (jn @h22d (jn @f31 (jn @f32 (jn @f33 (jn @f34 (jn @f35 (jn @f36 (jn @h30d (jn @hwx @hwy))))))))))))))))))))))))))))
    refine runTf g'22 ?_
    refine call_v (by kernel_rfl) (ofrect_0 _ x0 y0 x1 y1 (by assumption)) ?_
    refine runTf g'22 ?_
    refine inv_of ?_
    exact absTf (jn @f1 (jn @f2 (jn @f3 (jn @f4 (jn @f5 (jn @f6 (jn @f23 (jn @f24 (jn @f25 (jn @f26 (jn @f27 (jn @f28 (jn @f31 (jn @f32 (jn @f33 (jn @f34 (jn @f35 @f36)))))))))))))))))
  rintro F Hx ⟨f37, f38, f39, f40, f41, f42, rfl⟩
  refine AW_step false try_mixed (by kernel_rfl) (fun F Hx => (f == 0) = false ∧ look F 1 = .int .i64 h ∧ look F 6 = .ptr (some (H.length + 1, 0)) ∧ look F 7 = .ptr (some (H.length + 2, 0)) ∧ look F 8 = .ptr (some (H.length + 3, 0)) ∧ look F 9 = .int .i64 0 ∧ look F 10 = .ptr (some (H.length + 5, 0)) ∧ Hx = H ++ [.cells true 0 [.int .i64 x0, .int .i64 y0, .int .i64 x1, .int .i64 y1], .cells true 0 [.int .i64 t, .int .i64 f], .cells true 0 [.int .i64 tu, .int .i64 le, .int .i64 sl, .int .i64 ra], .cells true 0 [.int .i64 0, .int .i64 0, .sl none 0 (some 0)], .cells (ownG (canonL (recL x0 y0 x1 y1)).length) 2 (prs (canonL (recL x0 y0 x1 y1))), .cells true 0 [.int .i64 (x0 + x1), .int .i64 (y0 + y1), .sl (some (H.length + 4, 0)) ((canonL (recL x0 y0 x1 y1)).length) (capG (canonL (recL x0 y0 x1 y1)).length)]]) ?_ ?_
  · skip
    have g'23 := (jn @f1 (jn @f2 (jn @f3 (jn @f4 (jn @f5 (jn @f6 (jn @f23 (jn @f24 (jn @f25 (jn @f26 (jn @f27 (jn @f28 (jn @h15d (jn @h16d (jn @h17d (jn @h18d (jn @h19d (jn @h20d (jn @h21d (jn @h22d (jn @f31 (jn @f32 (jn @f33 (jn @f34 (jn @f35 (jn @f36 (jn @h30d (jn @f37 (jn @f38 (jn @f39 (jn @f40 (jn @f41 (jn @f42 (jn @hwx @hwy))))))))))))))))))))))))))))))))))
    refine runTf g'23 ?_
    refine cond_split (fun h43 => ?_) (fun h43 => ?_)
    · have h43d := bsT h43
      have hfinF : f = 0 := h43d
      have g'24 := (jn @h43 (jn @h43d (jn @int_bne (jn @int_beq g'23))))
      refine runTf g'24 ?_
      refine call_x (by kernel_rfl) (by simp) (square_c _ 20 (by omega)) ?_
      refine runTf g'24 ?_
      refine call_x (by kernel_rfl) (by simp) (Sum_0 _ (x0 + x1) (y0 + y1) _ (canonL (recL x0 y0 x1 y1)) 0 0 _ (canonL (sqrL 20)) ⟨_, _, _, by first | rfl | (rw [List.length_append]; done) | (rw [List.length_append]; rfl), by first | rfl | (rw [get_newk]; rfl) | (rw [get_new0]; rfl) | (rw [get_newk, prs_append]; rfl) | (rw [get_new0, prs_append]; rfl)⟩ ⟨_, _, _, by first | rfl | (rw [List.length_append]; done) | (rw [List.length_append]; rfl), by first | rfl | (rw [get_newk]; rfl) | (rw [get_new0]; rfl) | (rw [get_newk, prs_append]; rfl) | (rw [get_new0, prs_append]; rfl)⟩ (by assumption)) ?_
      refine runTf g'24 ?_
      refine hQ _ _ (end_byG (.inl rfl) hbel (x1 := .tup [.agg [.int .i64 ((x0 + x1) + 0), .int .i64 ((y0 + y1) + 0), .sl (some (H.length + 7, 0)) ((canonL ((canonL (recL x0 y0 x1 y1)) ++ (canonL (sqrL 20)))).length) (capG (canonL ((canonL (recL x0 y0 x1 y1)) ++ (canonL (sqrL 20)))).length)], .int .i64 0]) (l2 := [.cells (ownG (canonL ((canonL (recL x0 y0 x1 y1)) ++ (canonL (sqrL 20)))).length) 2 (prs (canonL ((canonL (recL x0 y0 x1 y1)) ++ (canonL (sqrL 20)))))]) (.tup [.agg [.int .i64 ((x0 + x1) + 0), .int .i64 ((y0 + y1) + 0), .sl (some (H.length, 0)) ((canonL ((canonL (recL x0 y0 x1 y1)) ++ (canonL (sqrL 20)))).length) (capG (canonL ((canonL (recL x0 y0 x1 y1)) ++ (canonL (sqrL 20)))).length)], .int .i64 0]) (resTf (jn @f1 (jn @f2 (jn @f3 (jn @f4 (jn @f5 (jn @f6 (jn @f23 (jn @f24 (jn @f25 (jn @f26 (jn @f27 (jn @f28 (jn @f31 (jn @f32 (jn @f33 (jn @f34 (jn @f35 (jn @f36 (jn @f37 (jn @f38 (jn @f39 (jn @f40 (jn @f41 @f42))))))))))))))))))))))) Tryz.results198) [] rfl [7] (by decide) ⟨by first | (simp [mkX, mkL, sweE, sweB, capG_0, ownG_0, prs_nil, h15d, h16d, h17d, h18d, h19d, h20d, h21d, h22d, h30d, h43d, hfinE, hfinF]; done) | (simp [mkX, mkL, sweE, hok, capG_0, ownG_0, prs_nil, h15d, h16d, h17d, h18d, h19d, h20d, h21d, h22d, h30d, h43d, hfinE, hfinF]; done) | (rw [hfinE]; simp only [mkX_0, mkL_0, sweX, sweY, sweL, wayL, hlf, hfinF, if_true, if_false, sw_eq, ← sw_eq0, Int.add_zero]), by first | (simp [mkX, mkL, sweE, sweB, capG_0, ownG_0, prs_nil, h15d, h16d, h17d, h18d, h19d, h20d, h21d, h22d, h30d, h43d, hfinE, hfinF]; done) | (simp [mkX, mkL, sweE, hok, capG_0, ownG_0, prs_nil, h15d, h16d, h17d, h18d, h19d, h20d, h21d, h22d, h30d, h43d, hfinE, hfinF]; done) | (rw [hfinE]; simp only [mkX_0, mkL_0, sweX, sweY, sweL, wayL, hlf, hfinF, if_true, if_false, sw_eq, ← sw_eq0, Int.add_zero])⟩ ?_)
      exact absW
    · have h43d := bsT h43
      have g'25 := (jn @h43 (jn @h43d (jn @int_bne (jn @int_beq g'23))))
      refine runTf g'25 ?_
      refine inv_of ?_
      exact absTf (jn @f1 (jn @f2 (jn @f3 (jn @f4 (jn @f5 (jn @f6 (jn @f23 (jn @f24 (jn @f25 (jn @f26 (jn @f27 (jn @f28 (jn @f31 (jn @f32 (jn @f33 (jn @f34 (jn @f35 (jn @f36 (jn @f37 (jn @f38 (jn @f39 (jn @f40 (jn @f41 @f42)))))))))))))))))))))))
  rintro F Hx ⟨h44d, f45, f46, f47, f48, f49, f50, rfl⟩
  have hfinF : ¬ f = 0 := by simpa using h44d
  have hdv := vecOK_iff.1 (dirV_ok h)
  have hpx := mul_bd (a := f + le) (b := (dirV h).1) (A := 48) (B := 8065) (by omega) (by omega)
  have hpy := mul_bd (a := f + le) (b := (dirV h).2.1) (A := 48) (B := 8065) (by omega) (by omega)
  have hwb := way_bd h (m := f + le) (by omega)
  have hws := way_spr (h := h) (m := f + le) (by omega)
  have hwe : segE 0 0 (wayX h (f + le)) (wayY h (f + le)) = 0 := if_pos ⟨by unfold far4; simp only [Bool.and_eq_true, within_iff]; omega, by rw [within_iff]; omega, by rw [within_iff]; omega⟩
  have hz1 : sumE (x0 + x1) (y0 + y1) (canonL (recL x0 y0 x1 y1)) (wayX h (f + le)) (wayY h (f + le)) (canonL [(wayX h (f + le), wayY h (f + le))]) = 0 := sum_ok (by omega) (by omega) (by omega) (by omega) (by simp [recL]) (by omega) (by omega)
  have hz2 : sumE (x0 + x1 + wayX h (f + le)) (y0 + y1 + wayY h (f + le)) (canonL (canonL (recL x0 y0 x1 y1) ++ canonL [(wayX h (f + le), wayY h (f + le))])) 0 0 (canonL (sqrL (sl + 21))) = 0 := sum_ok (by omega) (by omega) (by omega) (by omega) (by have a1 := canonL_len (recL x0 y0 x1 y1); have a2 := canonL_len [(wayX h (f + le), wayY h (f + le))]; have a3 : (recL x0 y0 x1 y1).length = 2 := rfl; have a4 : (sqrL (sl + 21)).length = 2 := rfl; rw [List.length_append]; simp only [List.length_cons, List.length_nil] at a2; omega) (by rw [spr_app, spr_canon, spr_canon]; omega) (by rw [spr_app, spr_canon, spr_canon]; omega)
  refine AW_special false try_mixed [[0, 1, 2, 3, 4, 5, 6, 7, 8, 9], [0, 1, 2, 3, 4, 7, 8, 5, 6, 9], [0, 1, 2, 4, 5, 7, 8, 3, 6, 9], [0, 1, 2, 4, 7, 8, 3, 5, 6, 9], [0, 2, 3, 4, 5, 6, 7, 1, 8, 9], [0, 2, 3, 4, 7, 1, 8, 5, 6, 9], [0, 2, 4, 5, 7, 1, 8, 3, 6, 9], [0, 2, 4, 7, 1, 8, 3, 5, 6, 9]] (by kernel_rfl) (fun F2 H2 => F2 = [(7, .ptr (some (H.length, 0))), (8, .ptr (some (H.length + 1, 0))), (9, .int .i64 0), (10, .ptr (some (H.length + 3, 0))), (12, .ptr (some (H.length + 4, 0))), (13, .int .i64 (f + le))] ∧ H2 = H ++ [.cells true 0 [.int .i64 tu, .int .i64 le, .int .i64 sl, .int .i64 ra], .cells true 0 [.int .i64 0, .int .i64 0, .sl none 0 (some 0)], .cells (ownG (canonL (recL x0 y0 x1 y1)).length) 2 (prs (canonL (recL x0 y0 x1 y1))), .cells true 0 [.int .i64 (x0 + x1), .int .i64 (y0 + y1), .sl (some (H.length + 2, 0)) ((canonL (recL x0 y0 x1 y1)).length) (capG (canonL (recL x0 y0 x1 y1)).length)], .cells true 0 [.int .i64 ((dirV h).1), .int .i64 ((dirV h).2.1), .int .i64 ((dirV h).2.2)]]) ?_ ?_
  · refine reps_cons ?_ (reps_cons ?_ (reps_cons ?_ (reps_cons ?_ (reps_cons ?_ (reps_cons ?_ (reps_cons ?_ (reps_cons ?_ (reps_nil)))))))) <;> intro J hJ
    · skip
      have g'26 := (jn @f1 (jn @f2 (jn @f3 (jn @f4 (jn @f5 (jn @f6 (jn @f23 (jn @f24 (jn @f25 (jn @f26 (jn @f27 (jn @f28 (jn @h15d (jn @h16d (jn @h17d (jn @h18d (jn @h19d (jn @h20d (jn @h21d (jn @h22d (jn @f31 (jn @f32 (jn @f33 (jn @f34 (jn @f35 (jn @f36 (jn @h30d (jn @f37 (jn @f38 (jn @f39 (jn @f40 (jn @f41 (jn @f42 (jn @f45 (jn @f46 (jn @f47 (jn @f48 (jn @f49 (jn @f50 (jn @h44d (jn @hwx @hwy)))))))))))))))))))))))))))))))))))))))))
      refine runDf g'26 ?_
      refine call_d (by kernel_rfl) (dir_c _ h) ?_
      refine runDf g'26 ?_
      refine inv_of (hJ _ _ ⟨_, _, _, ⟨rfl, rfl⟩, Abs.byG hbel [] rfl [2, 3, 4, 5, 6] (by decide) ?_⟩)
      exact absRf (jn @f1 (jn @f2 (jn @f3 (jn @f4 (jn @f5 (jn @f6 (jn @f23 (jn @f24 (jn @f25 (jn @f26 (jn @f27 (jn @f28 (jn @f31 (jn @f32 (jn @f33 (jn @f34 (jn @f35 (jn @f36 (jn @f37 (jn @f38 (jn @f39 (jn @f40 (jn @f41 (jn @f42 (jn @f45 (jn @f46 (jn @f47 (jn @f48 (jn @f49 @f50)))))))))))))))))))))))))))))
    · skip
      have g'27 := (jn @f1 (jn @f2 (jn @f3 (jn @f4 (jn @f5 (jn @f6 (jn @f23 (jn @f24 (jn @f25 (jn @f26 (jn @f27 (jn @f28 (jn @h15d (jn @h16d (jn @h17d (jn @h18d (jn @h19d (jn @h20d (jn @h21d (jn @h22d (jn @f31 (jn @f32 (jn @f33 (jn @f34 (jn @f35 (jn @f36 (jn @h30d (jn @f37 (jn @f38 (jn @f39 (jn @f40 (jn @f41 (jn @f42 (jn @f45 (jn @f46 (jn @f47 (jn @f48 (jn @f49 (jn @f50 (jn @h44d (jn @hwx @hwy)))))))))))))))))))))))))))))))))))))))))
      refine runDf g'27 ?_
      refine call_d (by kernel_rfl) (dir_c _ h) ?_
      refine runDf g'27 ?_
      refine inv_of (hJ _ _ ⟨_, _, _, ⟨rfl, rfl⟩, Abs.byG hbel [] rfl [2, 3, 4, 5, 6] (by decide) ?_⟩)
      exact absRf (jn @f1 (jn @f2 (jn @f3 (jn @f4 (jn @f5 (jn @f6 (jn @f23 (jn @f24 (jn @f25 (jn @f26 (jn @f27 (jn @f28 (jn @f31 (jn @f32 (jn @f33 (jn @f34 (jn @f35 (jn @f36 (jn @f37 (jn @f38 (jn @f39 (jn @f40 (jn @f41 (jn @f42 (jn @f45 (jn @f46 (jn @f47 (jn @f48 (jn @f49 @f50)))))))))))))))))))))))))))))
    · skip
      have g'28 := (jn @f1 (jn @f2 (jn @f3 (jn @f4 (jn @f5 (jn @f6 (jn @f23 (jn @f24 (jn @f25 (jn @f26 (jn @f27 (jn @f28 (jn @h15d (jn @h16d (jn @h17d (jn @h18d (jn @h19d (jn @h20d (jn @h21d (jn @h22d (jn @f31 (jn @f32 (jn @f33 (jn @f34 (jn @f35 (jn @f36 (jn @h30d (jn @f37 (jn @f38 (jn @f39 (jn @f40 (jn @f41 (jn @f42 (jn @f45 (jn @f46 (jn @f47 (jn @f48 (jn @f49 (jn @f50 (jn @h44d (jn @hwx @hwy)))))))))))))))))))))))))))))))))))))))))
      refine runDf g'28 ?_
      refine call_d (by kernel_rfl) (dir_c _ h) ?_
      refine runDf g'28 ?_
      refine inv_of (hJ _ _ ⟨_, _, _, ⟨rfl, rfl⟩, Abs.byG hbel [] rfl [2, 3, 4, 5, 6] (by decide) ?_⟩)
      exact absRf (jn @f1 (jn @f2 (jn @f3 (jn @f4 (jn @f5 (jn @f6 (jn @f23 (jn @f24 (jn @f25 (jn @f26 (jn @f27 (jn @f28 (jn @f31 (jn @f32 (jn @f33 (jn @f34 (jn @f35 (jn @f36 (jn @f37 (jn @f38 (jn @f39 (jn @f40 (jn @f41 (jn @f42 (jn @f45 (jn @f46 (jn @f47 (jn @f48 (jn @f49 @f50)))))))))))))))))))))))))))))
    · skip
      have g'29 := (jn @f1 (jn @f2 (jn @f3 (jn @f4 (jn @f5 (jn @f6 (jn @f23 (jn @f24 (jn @f25 (jn @f26 (jn @f27 (jn @f28 (jn @h15d (jn @h16d (jn @h17d (jn @h18d (jn @h19d (jn @h20d (jn @h21d (jn @h22d (jn @f31 (jn @f32 (jn @f33 (jn @f34 (jn @f35 (jn @f36 (jn @h30d (jn @f37 (jn @f38 (jn @f39 (jn @f40 (jn @f41 (jn @f42 (jn @f45 (jn @f46 (jn @f47 (jn @f48 (jn @f49 (jn @f50 (jn @h44d (jn @hwx @hwy)))))))))))))))))))))))))))))))))))))))))
      refine runDf g'29 ?_
      refine call_d (by kernel_rfl) (dir_c _ h) ?_
      refine runDf g'29 ?_
      refine inv_of (hJ _ _ ⟨_, _, _, ⟨rfl, rfl⟩, Abs.byG hbel [] rfl [2, 3, 4, 5, 6] (by decide) ?_⟩)
      exact absRf (jn @f1 (jn @f2 (jn @f3 (jn @f4 (jn @f5 (jn @f6 (jn @f23 (jn @f24 (jn @f25 (jn @f26 (jn @f27 (jn @f28 (jn @f31 (jn @f32 (jn @f33 (jn @f34 (jn @f35 (jn @f36 (jn @f37 (jn @f38 (jn @f39 (jn @f40 (jn @f41 (jn @f42 (jn @f45 (jn @f46 (jn @f47 (jn @f48 (jn @f49 @f50)))))))))))))))))))))))))))))
    · skip
      have g'30 := (jn @f1 (jn @f2 (jn @f3 (jn @f4 (jn @f5 (jn @f6 (jn @f23 (jn @f24 (jn @f25 (jn @f26 (jn @f27 (jn @f28 (jn @h15d (jn @h16d (jn @h17d (jn @h18d (jn @h19d (jn @h20d (jn @h21d (jn @h22d (jn @f31 (jn @f32 (jn @f33 (jn @f34 (jn @f35 (jn @f36 (jn @h30d (jn @f37 (jn @f38 (jn @f39 (jn @f40 (jn @f41 (jn @f42 (jn @f45 (jn @f46 (jn @f47 (jn @f48 (jn @f49 (jn @f50 (jn @h44d (jn @hwx @hwy)))))))))))))))))))))))))))))))))))))))))
      refine runDf g'30 ?_
      refine call_d (by kernel_rfl) (dir_c _ h) ?_
      refine runDf g'30 ?_
      refine inv_of (hJ _ _ ⟨_, _, _, ⟨rfl, rfl⟩, Abs.byG hbel [] rfl [2, 3, 4, 5, 6] (by decide) ?_⟩)
      exact absRf (jn @f1 (jn @f2 (jn @f3 (jn @f4 (jn @f5 (jn @f6 (jn @f23 (jn @f24 (jn @f25 (jn @f26 (jn @f27 (jn @f28 (jn @f31 (jn @f32 (jn @f33 (jn @f34 (jn @f35 (jn @f36 (jn @f37 (jn @f38 (jn @f39 (jn @f40 (jn @f41 (jn @f42 (jn @f45 (jn @f46 (jn @f47 (jn @f48 (jn @f49 @f50)))))))))))))))))))))))))))))
    · skip
      have g'31 := (jn @f1 (jn @f2 (jn @f3 (jn @f4 (jn @f5 (jn @f6 (jn @f23 (jn @f24 (jn @f25 (jn @f26 (jn @f27 (jn @f28 (jn @h15d (jn @h16d (jn @h17d (jn @h18d (jn @h19d (jn @h20d (jn @h21d (jn @h22d (jn @f31 (jn @f32 (jn @f33 (jn @f34 (jn @f35 (jn @f36 (jn @h30d (jn @f37 (jn @f38 (jn @f39 (jn @f40 (jn @f41 (jn @f42 (jn @f45 (jn @f46 (jn @f47 (jn @f48 (jn @f49 (jn @f50 (jn @h44d (jn @hwx @hwy)))))))))))))))))))))))))))))))))))))))))
      refine runDf g'31 ?_
      refine call_d (by kernel_rfl) (dir_c _ h) ?_
      refine runDf g'31 ?_
      refine inv_of (hJ _ _ ⟨_, _, _, ⟨rfl, rfl⟩, Abs.byG hbel [] rfl [2, 3, 4, 5, 6] (by decide) ?_⟩)
      exact absRf (jn @f1 (jn @f2 (jn @f3 (jn @f4 (jn @f5 (jn @f6 (jn @f23 (jn @f24 (jn @f25 (jn @f26 (jn @f27 (jn @f28 (jn @f31 (jn @f32 (jn @f33 (jn @f34 (jn @f35 (jn @f36 (jn @f37 (jn @f38 (jn @f39 (jn @f40 (jn @f41 (jn @f42 (jn @f45 (jn @f46 (jn @f47 (jn @f48 (jn @f49 @f50)))))))))))))))))))))))))))))
    · skip
      have g'32 := (jn @f1 (jn @f2 (jn @f3 (jn @f4 (jn @f5 (jn @f6 (jn @f23 (jn @f24 (jn @f25 (jn @f26 (jn @f27 (jn @f28 (jn @h15d (jn @h16d (jn @h17d (jn @h18d (jn @h19d (jn @h20d (jn @h21d (jn @h22d (jn @f31 (jn @f32 (jn @f33 (jn @f34 (jn @f35 (jn @f36 (jn @h30d (jn @f37 (jn @f38 (jn @f39 (jn @f40 (jn @f41 (jn @f42 (jn @f45 (jn @f46 (jn @f47 (jn @f48 (jn @f49 (jn @f50 (jn @h44d (jn @hwx @hwy)))))))))))))))))))))))))))))))))))))))))
      refine runDf g'32 ?_
      refine call_d (by kernel_rfl) (dir_c _ h) ?_
      refine runDf g'32 ?_
      refine inv_of (hJ _ _ ⟨_, _, _, ⟨rfl, rfl⟩, Abs.byG hbel [] rfl [2, 3, 4, 5, 6] (by decide) ?_⟩)
      exact absRf (jn @f1 (jn @f2 (jn @f3 (jn @f4 (jn @f5 (jn @f6 (jn @f23 (jn @f24 (jn @f25 (jn @f26 (jn @f27 (jn @f28 (jn @f31 (jn @f32 (jn @f33 (jn @f34 (jn @f35 (jn @f36 (jn @f37 (jn @f38 (jn @f39 (jn @f40 (jn @f41 (jn @f42 (jn @f45 (jn @f46 (jn @f47 (jn @f48 (jn @f49 @f50)))))))))))))))))))))))))))))
    · skip
      have g'33 := (jn @f1 (jn @f2 (jn @f3 (jn @f4 (jn @f5 (jn @f6 (jn @f23 (jn @f24 (jn @f25 (jn @f26 (jn @f27 (jn @f28 (jn @h15d (jn @h16d (jn @h17d (jn @h18d (jn @h19d (jn @h20d (jn @h21d (jn @h22d (jn @f31 (jn @f32 (jn @f33 (jn @f34 (jn @f35 (jn @f36 (jn @h30d (jn @f37 (jn @f38 (jn @f39 (jn @f40 (jn @f41 (jn @f42 (jn @f45 (jn @f46 (jn @f47 (jn @f48 (jn @f49 (jn @f50 (jn @h44d (jn @hwx @hwy)))))))))))))))))))))))))))))))))))))))))
      refine runDf g'33 ?_
      refine call_d (by kernel_rfl) (dir_c _ h) ?_
      refine runDf g'33 ?_
      refine inv_of (hJ _ _ ⟨_, _, _, ⟨rfl, rfl⟩, Abs.byG hbel [] rfl [2, 3, 4, 5, 6] (by decide) ?_⟩)
      exact absRf (jn @f1 (jn @f2 (jn @f3 (jn @f4 (jn @f5 (jn @f6 (jn @f23 (jn @f24 (jn @f25 (jn @f26 (jn @f27 (jn @f28 (jn @f31 (jn @f32 (jn @f33 (jn @f34 (jn @f35 (jn @f36 (jn @f37 (jn @f38 (jn @f39 (jn @f40 (jn @f41 (jn @f42 (jn @f45 (jn @f46 (jn @f47 (jn @f48 (jn @f49 @f50)))))))))))))))))))))))))))))
  rintro F2 H2 ⟨rfl, rfl⟩
  refine AW_special false try_mixed [[0, 1, 2, 3, 4, 5, 6, 7, 8, 9, 10, 11, 12, 13, 14, 15, 16, 17, 18, 19, 20, 21, 22], [0, 1, 2, 3, 4, 5, 6, 7, 8, 9, 10, 11, 12, 13, 14, 15, 20, 16, 17, 18, 19, 21, 22], [0, 1, 2, 3, 4, 5, 6, 7, 8, 9, 10, 11, 12, 13, 20, 14, 15, 16, 17, 18, 19, 21, 22], [0, 1, 2, 3, 4, 5, 6, 8, 9, 10, 11, 12, 13, 20, 7, 14, 15, 16, 17, 18, 19, 21, 22]] (by kernel_rfl) (fun F2 H2 => F2 = [(7, .ptr (some (H.length, 0))), (8, .ptr (some (H.length + 1, 0))), (9, .int .i64 0), (10, .ptr (some (H.length + 3, 0))), (14, .ptr (some (H.length + 5, 0)))] ∧ H2 = H ++ [.cells true 0 [.int .i64 tu, .int .i64 le, .int .i64 sl, .int .i64 ra], .cells true 0 [.int .i64 0, .int .i64 0, .sl none 0 (some 0)], .cells (ownG (canonL (recL x0 y0 x1 y1)).length) 2 (prs (canonL (recL x0 y0 x1 y1))), .cells true 0 [.int .i64 (x0 + x1), .int .i64 (y0 + y1), .sl (some (H.length + 2, 0)) ((canonL (recL x0 y0 x1 y1)).length) (capG (canonL (recL x0 y0 x1 y1)).length)], .cells (ownG (canonL [((wayX h (f + le)), (wayY h (f + le)))]).length) 2 (prs (canonL [((wayX h (f + le)), (wayY h (f + le)))])), .cells true 0 [.int .i64 (wayX h (f + le)), .int .i64 (wayY h (f + le)), .sl (some (H.length + 4, 0)) ((canonL [((wayX h (f + le)), (wayY h (f + le)))]).length) (capG (canonL [((wayX h (f + le)), (wayY h (f + le)))]).length)]]) ?_ ?_
  · refine reps_cons ?_ (reps_cons ?_ (reps_cons ?_ (reps_cons ?_ (reps_nil)))) <;> intro J hJ
    · skip
      have g'34 := (jn @h15d (jn @h16d (jn @h17d (jn @h18d (jn @h19d (jn @h20d (jn @h21d (jn @h22d (jn @h30d (jn @h44d (jn @prs_len (jn @prs_one (jn @hwx @hwy)))))))))))))
      refine runDf g'34 ?_
      refine call_d (by kernel_rfl) (mfloor_c _ ((f + le) * ((dirV h).1)) ((dirV h).2.2) (by omega) (by omega)) ?_
      refine runDf g'34 ?_
      refine call_d (by kernel_rfl) (mfloor_c _ ((f + le) * ((dirV h).2.1)) ((dirV h).2.2) (by omega) (by omega)) ?_
      refine runDf g'34 ?_
      refine call_x (by kernel_rfl) (by simp) (ofway_0 _ (wayX h (f + le)) (wayY h (f + le)) (by assumption)) ?_
      refine runDf g'34 ?_
      refine inv_of (hJ _ _ ⟨_, _, _, ⟨rfl, rfl⟩, Abs.byG hbel [] rfl [0, 1, 2, 3, 5, 6] (by decide) ?_⟩)
      exact absR
    · skip
      have g'35 := (jn @h15d (jn @h16d (jn @h17d (jn @h18d (jn @h19d (jn @h20d (jn @h21d (jn @h22d (jn @h30d (jn @h44d (jn @prs_len (jn @prs_one (jn @hwx @hwy)))))))))))))
      refine runDf g'35 ?_
      refine call_d (by kernel_rfl) (mfloor_c _ ((f + le) * ((dirV h).1)) ((dirV h).2.2) (by omega) (by omega)) ?_
      refine runDf g'35 ?_
      refine call_d (by kernel_rfl) (mfloor_c _ ((f + le) * ((dirV h).2.1)) ((dirV h).2.2) (by omega) (by omega)) ?_
      refine runDf g'35 ?_
      refine call_x (by kernel_rfl) (by simp) (ofway_0 _ (wayX h (f + le)) (wayY h (f + le)) (by assumption)) ?_
      refine runDf g'35 ?_
      refine inv_of (hJ _ _ ⟨_, _, _, ⟨rfl, rfl⟩, Abs.byG hbel [] rfl [0, 1, 2, 3, 6, 5] (by decide) ?_⟩)
      exact absR
    · skip
      have g'36 := (jn @h15d (jn @h16d (jn @h17d (jn @h18d (jn @h19d (jn @h20d (jn @h21d (jn @h22d (jn @h30d (jn @h44d (jn @prs_len (jn @prs_one (jn @hwx @hwy)))))))))))))
      refine runDf g'36 ?_
      refine call_d (by kernel_rfl) (mfloor_c _ ((f + le) * ((dirV h).1)) ((dirV h).2.2) (by omega) (by omega)) ?_
      refine runDf g'36 ?_
      refine call_d (by kernel_rfl) (mfloor_c _ ((f + le) * ((dirV h).2.1)) ((dirV h).2.2) (by omega) (by omega)) ?_
      refine runDf g'36 ?_
      refine call_x (by kernel_rfl) (by simp) (ofway_0 _ (wayX h (f + le)) (wayY h (f + le)) (by assumption)) ?_
      refine runDf g'36 ?_
      refine inv_of (hJ _ _ ⟨_, _, _, ⟨rfl, rfl⟩, Abs.byG hbel [] rfl [0, 1, 2, 3, 6, 5] (by decide) ?_⟩)
      exact absR
    · skip
      have g'37 := (jn @h15d (jn @h16d (jn @h17d (jn @h18d (jn @h19d (jn @h20d (jn @h21d (jn @h22d (jn @h30d (jn @h44d (jn @prs_len (jn @prs_one (jn @hwx @hwy)))))))))))))
      refine runDf g'37 ?_
      refine call_d (by kernel_rfl) (mfloor_c _ ((f + le) * ((dirV h).1)) ((dirV h).2.2) (by omega) (by omega)) ?_
      refine runDf g'37 ?_
      refine call_d (by kernel_rfl) (mfloor_c _ ((f + le) * ((dirV h).2.1)) ((dirV h).2.2) (by omega) (by omega)) ?_
      refine runDf g'37 ?_
      refine call_x (by kernel_rfl) (by simp) (ofway_0 _ (wayX h (f + le)) (wayY h (f + le)) (by assumption)) ?_
      refine runDf g'37 ?_
      refine inv_of (hJ _ _ ⟨_, _, _, ⟨rfl, rfl⟩, Abs.byG hbel [] rfl [0, 1, 2, 3, 6, 5] (by decide) ?_⟩)
      exact absR
  rintro F2 H2 ⟨rfl, rfl⟩
  refine AW_fin false try_mixed (by kernel_rfl) ?_
  have g'38 := (jn @h15d (jn @h16d (jn @h17d (jn @h18d (jn @h19d (jn @h20d (jn @h21d (jn @h22d (jn @h30d (jn @h44d (jn @prs_len (jn @prs_one (jn @hwx @hwy)))))))))))))
  refine runTf g'38 ?_
  refine call_v (by kernel_rfl) (Sum_0 _ (x0 + x1) (y0 + y1) _ (canonL (recL x0 y0 x1 y1)) (wayX h (f + le)) (wayY h (f + le)) _ (canonL [((wayX h (f + le)), (wayY h (f + le)))]) ⟨_, _, _, by first | rfl | (rw [List.length_append]; done) | (rw [List.length_append]; rfl), by first | rfl | (rw [get_newk]; rfl) | (rw [get_new0]; rfl) | (rw [get_newk, prs_append]; rfl) | (rw [get_new0, prs_append]; rfl)⟩ ⟨_, _, _, by first | rfl | (rw [List.length_append]; done) | (rw [List.length_append]; rfl), by first | rfl | (rw [get_newk]; rfl) | (rw [get_new0]; rfl) | (rw [get_newk, prs_append]; rfl) | (rw [get_new0, prs_append]; rfl)⟩ (by assumption)) ?_
  refine runTf g'38 ?_
  refine call_x (by kernel_rfl) (by simp) (square_c _ (sl + 21) (by omega)) ?_
  refine runTf g'38 ?_
  refine call_x (by kernel_rfl) (by simp) (Sum_0 _ ((x0 + x1) + (wayX h (f + le))) ((y0 + y1) + (wayY h (f + le))) _ (canonL ((canonL (recL x0 y0 x1 y1)) ++ (canonL [((wayX h (f + le)), (wayY h (f + le)))]))) 0 0 _ (canonL (sqrL (sl + 21))) ⟨_, _, _, by first | rfl | (rw [List.length_append]; done) | (rw [List.length_append]; rfl), by first | rfl | (rw [get_newk]; rfl) | (rw [get_new0]; rfl) | (rw [get_newk, prs_append]; rfl) | (rw [get_new0, prs_append]; rfl)⟩ ⟨_, _, _, by first | rfl | (rw [List.length_append]; done) | (rw [List.length_append]; rfl), by first | rfl | (rw [get_newk]; rfl) | (rw [get_new0]; rfl) | (rw [get_newk, prs_append]; rfl) | (rw [get_new0, prs_append]; rfl)⟩ (by assumption)) ?_
  refine runTf g'38 ?_
  refine hQ _ _ (end_byG (.inl rfl) hbel (x1 := .tup [.agg [.int .i64 (((x0 + x1) + (wayX h (f + le))) + 0), .int .i64 (((y0 + y1) + (wayY h (f + le))) + 0), .sl (some (H.length + 8, 0)) ((canonL ((canonL ((canonL (recL x0 y0 x1 y1)) ++ (canonL [((wayX h (f + le)), (wayY h (f + le)))]))) ++ (canonL (sqrL (sl + 21))))).length) (capG (canonL ((canonL ((canonL (recL x0 y0 x1 y1)) ++ (canonL [((wayX h (f + le)), (wayY h (f + le)))]))) ++ (canonL (sqrL (sl + 21))))).length)], .int .i64 0]) (l2 := [.cells (ownG (canonL ((canonL ((canonL (recL x0 y0 x1 y1)) ++ (canonL [((wayX h (f + le)), (wayY h (f + le)))]))) ++ (canonL (sqrL (sl + 21))))).length) 2 (prs (canonL ((canonL ((canonL (recL x0 y0 x1 y1)) ++ (canonL [((wayX h (f + le)), (wayY h (f + le)))]))) ++ (canonL (sqrL (sl + 21))))))]) (.tup [.agg [.int .i64 (((x0 + x1) + (wayX h (f + le))) + 0), .int .i64 (((y0 + y1) + (wayY h (f + le))) + 0), .sl (some (H.length, 0)) ((canonL ((canonL ((canonL (recL x0 y0 x1 y1)) ++ (canonL [((wayX h (f + le)), (wayY h (f + le)))]))) ++ (canonL (sqrL (sl + 21))))).length) (capG (canonL ((canonL ((canonL (recL x0 y0 x1 y1)) ++ (canonL [((wayX h (f + le)), (wayY h (f + le)))]))) ++ (canonL (sqrL (sl + 21))))).length)], .int .i64 0]) (resT Tryz.results198) [] rfl [8] (by decide) ⟨by first | (simp [mkX, mkL, sweE, sweB, capG_0, ownG_0, prs_nil, h15d, h16d, h17d, h18d, h19d, h20d, h21d, h22d, h30d, h44d, hfinE, hfinF]; done) | (simp [mkX, mkL, sweE, hok, capG_0, ownG_0, prs_nil, h15d, h16d, h17d, h18d, h19d, h20d, h21d, h22d, h30d, h44d, hfinE, hfinF]; done) | (rw [hfinE]; simp only [mkX_0, mkL_0, sweX, sweY, sweL, wayL, hlf, hfinF, if_true, if_false, sw_eq, ← sw_eq0, Int.add_zero]), by first | (simp [mkX, mkL, sweE, sweB, capG_0, ownG_0, prs_nil, h15d, h16d, h17d, h18d, h19d, h20d, h21d, h22d, h30d, h44d, hfinE, hfinF]; done) | (simp [mkX, mkL, sweE, hok, capG_0, ownG_0, prs_nil, h15d, h16d, h17d, h18d, h19d, h20d, h21d, h22d, h30d, h44d, hfinE, hfinF]; done) | (rw [hfinE]; simp only [mkX_0, mkL_0, sweX, sweY, sweL, wayL, hlf, hfinF, if_true, if_false, sw_eq, ← sw_eq0, Int.add_zero])⟩ ?_)
  exact absW
open Go.RowKit
theorem sweepq_c (H : AHeap) (x0 y0 x1 y1 h t f tu le sl ra : Int) : ACalls Tryz.prog 198 [.agg [.int .i64 x0, .int .i64 y0, .int .i64 x1, .int .i64 y1], .int .i64 h, .agg [.int .i64 t, .int .i64 f], .agg [.int .i64 tu, .int .i64 le, .int .i64 sl, .int .i64 ra]] H (fun v H' => v = .tup [.agg [.int .i64 (swX x0 y0 x1 y1 h t f tu le sl ra), .int .i64 (swY x0 y0 x1 y1 h t f tu le sl ra), .sl (some (H.length, 0)) (swL x0 y0 x1 y1 h t f tu le sl ra).length (capG (swL x0 y0 x1 y1 h t f tu le sl ra).length)], .int .i64 (sweE x0 y0 x1 y1 h t f tu le sl ra)] ∧ H' = H ++ [.cells (ownG (swL x0 y0 x1 y1 h t f tu le sl ra).length) 2 (prs (swL x0 y0 x1 y1 h t f tu le sl ra))]) := sweep_c H x0 y0 x1 y1 h t f tu le sl ra
theorem touchq_c (H : AHeap) (x0 y0 x1 y1 h t f tu le sl ra : Int) (s : AV) (hs : Sl H 2 s (swL x0 y0 x1 y1 h t f tu le sl ra).length (prs (swL x0 y0 x1 y1 h t f tu le sl ra))) : ACalls Tryz.prog 199 [.agg [.int .i64 (swX x0 y0 x1 y1 h t f tu le sl ra), .int .i64 (swY x0 y0 x1 y1 h t f tu le sl ra), s]] H (fun v H' => v = .tup [.sl (some (H.length, 0)) (stL x0 y0 x1 y1 h t f tu le sl ra).length none, .int .i64 (stE x0 y0 x1 y1 h t f tu le sl ra)] ∧ H' = H ++ [.cells (ownG (touC (swX x0 y0 x1 y1 h t f tu le sl ra) (swY x0 y0 x1 y1 h t f tu le sl ra) (swL x0 y0 x1 y1 h t f tu le sl ra)).length) 2 (prs (stL x0 y0 x1 y1 h t f tu le sl ra))]) := touched_c H _ _ _ _ hs
theorem unh_c (H : AHeap) (W : Int) (Hh : Int) (pp : AV) (xs : List Int) (x0 : Int) (y0 : Int) (x1 : Int) (y1 : Int) (h : Int) (t : Int) (f : Int) (tu : Int) (le : Int) (sl : Int) (ra : Int) (hpp : Sl H 1 pp xs.length (ints .u8 xs)) (hV : vldB W Hh xs = true) : ACalls Tryz.prog 114 [.agg [.int .i64 W, .int .i64 Hh, pp], .agg [.int .i64 x0, .int .i64 y0, .int .i64 x1, .int .i64 y1], .int .i64 h, .agg [.int .i64 t, .int .i64 f], .agg [.int .i64 tu, .int .i64 le, .int .i64 sl, .int .i64 ra]] H (fun v H' => v = .bool (unhB W Hh xs x0 y0 x1 y1 h t f tu le sl ra) ∧ H' = H) := by
  obtain ⟨bpp, opp, cpp, rfl, hbpp⟩ := hpp
  have hblpp := getElem?_lt hbpp
  have hb0pp := fun l => get_app (l := l) hbpp
  refine AcT true Tryz.func114 ?_; intro hbel Q hQ
  have g'1 := (jn @hbpp @hb0pp)
  refine runTf g'1 ?_
  refine call_v (by kernel_rfl) (sweepq_c _ x0 y0 x1 y1 h t f tu le sl ra) ?_
  refine runTf g'1 ?_
  refine cond_split (fun h1 => ?_) (fun h1 => ?_)
  · have h1d := bsT h1
    have h1n := bnT h1
    have hfinU : unhB W Hh xs x0 y0 x1 y1 h t f tu le sl ra = false := by unfold unhB; rw [decide_eq_false (by simpa using h1d)]; rfl
    have g'2 := (jn @h1 (jn @h1n (jn @int_bne (jn @int_beq g'1))))
    refine runTf g'2 ?_
    exact hQ _ _ (end_plain (.inl rfl) hbel (x := .bool false) (resT Tryz.results114) rfl ⟨by first | (rw [hfinU]; done) | (unfold unhB; rw [decide_eq_true hsw, decide_eq_true hst0]; rfl), rfl⟩)
  · have h1d := bsT h1
    have h1n := bnT h1
    have hsw : sweE x0 y0 x1 y1 h t f tu le sl ra = 0 := by simpa using h1d
    have g'3 := (jn @h1 (jn @h1n (jn @int_bne (jn @int_beq g'1))))
    refine runTf g'3 ?_
    refine call_v (by kernel_rfl) (touchq_c _ x0 y0 x1 y1 h t f tu le sl ra _ ⟨_, _, _, by first | rfl | (rw [List.length_append]; done) | (rw [List.length_append]; rfl), by first | rfl | (rw [get_newk]; rfl) | (rw [get_new0]; rfl) | (rw [get_newk, prs_append]; rfl) | (rw [get_new0, prs_append]; rfl)⟩) ?_
    refine runTf g'3 ?_
    refine gd_split (fun h2 => ?_) (fun h2 => ?_)
    · have h2d := bsT h2
      have h2n := bnT h2
      have hst0 : stE x0 y0 x1 y1 h t f tu le sl ra = 0 := by simpa using h2d
      have g'4 := (jn @h2 (jn @h2n g'3))
      refine runTf g'4 ?_
      refine call_v (by kernel_rfl) (has_cell _ _ (stL x0 y0 x1 y1 h t f tu le sl ra) ⟨_, _, _, by first | rfl | (rw [List.length_append]; done) | (rw [List.length_append]; rfl), by first | rfl | (rw [get_newk]; rfl) | (rw [get_new0]; rfl) | (rw [get_newk, prs_append]; rfl) | (rw [get_new0, prs_append]; rfl)⟩ (Nat.le_trans stL_len (by decide)) _ [.ptr (some (H.length, 0))] (by kernel_rfl) (by simp [AV.bels, AV.bel]) (fun c => atI W Hh xs c.1 c.2 != 1) (fun j hj => unh1_c _ _ _ W Hh _ xs _ ⟨_, _, _, rfl, hb0pp _⟩ ⟨_, by rw [get_new0]; rfl⟩ hV)) ?_
      refine runTf g'4 ?_
      exact hQ _ _ (end_plain (.inl rfl) hbel (x := .bool (!((stL x0 y0 x1 y1 h t f tu le sl ra).any (fun c => atI W Hh xs c.1 c.2 != 1)))) (resTf (jn @int_beq @int_bne) Tryz.results114) rfl ⟨by first | (rw [hfinU]; done) | (unfold unhB; rw [decide_eq_true hsw, decide_eq_true hst0]; rfl), rfl⟩)
    · have h2d := bsT h2
      have h2n := bnT h2
      have hfinU : unhB W Hh xs x0 y0 x1 y1 h t f tu le sl ra = false := by unfold unhB; rw [decide_eq_false (show ¬ stE x0 y0 x1 y1 h t f tu le sl ra = 0 by simpa using h2d)]; simp
      have g'5 := (jn @h2 (jn @h2n g'3))
      refine runTf g'5 ?_
      exact hQ _ _ (end_plain (.inl rfl) hbel (x := .bool false) (resT Tryz.results114) rfl ⟨by first | (rw [hfinU]; done) | (unfold unhB; rw [decide_eq_true hsw, decide_eq_true hst0]; rfl), rfl⟩)
open Go.RowKit
theorem with_c (H : AHeap) (x0 : Int) (y0 : Int) (x1 : Int) (y1 : Int) (f : Int) (c : Int) : ACalls Tryz.prog 266 [.agg [.int .i64 x0, .int .i64 y0, .int .i64 x1, .int .i64 y1], .agg [.int .i64 f, .int .i64 c]] H (fun v H' => v = .agg [.int .i64 x0, .int .i64 y0, .int .i64 x1, .int .i64 y1, .int .i64 f, .int .i64 c] ∧ H' = H) := by
  refine AcT true Tryz.func266 ?_; intro hbel Q hQ
  refine runT ?_
  exact hQ _ _ (end_plain (.inl rfl) hbel (x := .agg [.int .i64 x0, .int .i64 y0, .int .i64 x1, .int .i64 y1, .int .i64 f, .int .i64 c]) (resT Tryz.results266) rfl ⟨rfl, rfl⟩)
theorem bhull_c (H : AHeap) (x0 : Int) (y0 : Int) (x1 : Int) (y1 : Int) (f : Int) (c : Int) (u0 : Int) (v0 : Int) (u1 : Int) (v1 : Int) (fb : Int) (cb : Int) (ha : bxB x0 y0 x1 y1 f c = true) (hb : bxB u0 v0 u1 v1 fb cb = true) : ACalls Tryz.prog 187 [.agg [.int .i64 x0, .int .i64 y0, .int .i64 x1, .int .i64 y1, .int .i64 f, .int .i64 c], .agg [.int .i64 u0, .int .i64 v0, .int .i64 u1, .int .i64 v1, .int .i64 fb, .int .i64 cb]] H (fun v H' => v = .tup [.agg [.int .i64 (mnI x0 u0), .int .i64 (mnI y0 v0), .int .i64 (mxI x1 u1), .int .i64 (mxI y1 v1), .int .i64 ((hullA f c fb cb).1), .int .i64 ((hullA f c fb cb).2)], .int .i64 0] ∧ H' = H) := by
  have ka := (bxB_iff.1 ha).2.2
  have kb := (bxB_iff.1 hb).2.2
  (refine ACalls_pieces Tryz.func187 _ rfl (Nat.le_of_ble_eq_true (by kernel_rfl)) rfl ?_; intro hbel Q hQ hQ' c hc; unfold Tryz.f187 at hc; simp only [Option.some.injEq] at hc; subst hc; clear hQ')
  refine AW_step false try_mixed (by kernel_rfl) (fun F Hx => look F 2 = .ptr (some (H.length, 0)) ∧ look F 3 = .ptr (some (H.length + 1, 0)) ∧ look F 4 = .ptr (some (H.length + 2, 0)) ∧ look F 5 = .int .i64 0 ∧ Hx = H ++ [.cells true 0 [.int .i64 x0, .int .i64 y0, .int .i64 x1, .int .i64 y1, .int .i64 f, .int .i64 c], .cells true 0 [.int .i64 u0, .int .i64 v0, .int .i64 u1, .int .i64 v1, .int .i64 fb, .int .i64 cb], .cells true 0 [.int .i64 0, .int .i64 0, .int .i64 0, .int .i64 0, .int .i64 0, .int .i64 0]]) ?_ ?_
  · skip
    have g'24 := (jn @ha @hb)
    refine runTf g'24 ?_
    refine inv_of ?_
    exact absT
  rintro F Hx ⟨f1, f2, f3, f4, rfl⟩
  refine AW_step false try_mixed (by kernel_rfl) (fun F Hx => look F 2 = .ptr (some (H.length, 0)) ∧ look F 3 = .ptr (some (H.length + 1, 0)) ∧ look F 4 = .ptr (some (H.length + 2, 0)) ∧ look F 5 = .int .i64 0 ∧ Hx = H ++ [.cells true 0 [.int .i64 x0, .int .i64 y0, .int .i64 x1, .int .i64 y1, .int .i64 f, .int .i64 c], .cells true 0 [.int .i64 u0, .int .i64 v0, .int .i64 u1, .int .i64 v1, .int .i64 fb, .int .i64 cb], .cells true 0 [.int .i64 0, .int .i64 0, .int .i64 0, .int .i64 0, .int .i64 0, .int .i64 0]]) ?_ ?_
  · skip
    have g'25 := (jn @f1 (jn @f2 (jn @f3 (jn @f4 (jn @ha @hb)))))
    refine runTf g'25 ?_
    refine call_v (by kernel_rfl) (bxv_c _ x0 y0 x1 y1 f c) ?_
    refine runTf g'25 ?_
    refine call_v (by kernel_rfl) (bxv_c _ u0 v0 u1 v1 fb cb) ?_
    refine runTf g'25 ?_
    refine inv_of ?_
    exact absTf (jn @f1 (jn @f2 (jn @f3 @f4)))
  rintro F Hx ⟨f5, f6, f7, f8, rfl⟩
  refine AW_special false try_mixed [[0, 1, 2, 3, 4, 5, 6, 7, 8, 9, 10], [0, 1, 2, 3, 8, 4, 5, 6, 7, 9, 10], [0, 1, 2, 8, 3, 4, 5, 6, 7, 9, 10], [0, 2, 8, 1, 3, 4, 5, 6, 7, 9, 10]] (by kernel_rfl) (fun F2 H2 => F2 = [(2, .ptr (some (H.length, 0))), (3, .ptr (some (H.length + 1, 0))), (4, .ptr (some (H.length + 2, 0))), (5, .int .i64 0), (6, .ptr (some (H.length + 3, 0)))] ∧ H2 = H ++ [.cells true 0 [.int .i64 x0, .int .i64 y0, .int .i64 x1, .int .i64 y1, .int .i64 f, .int .i64 c], .cells true 0 [.int .i64 u0, .int .i64 v0, .int .i64 u1, .int .i64 v1, .int .i64 fb, .int .i64 cb], .cells true 0 [.int .i64 0, .int .i64 0, .int .i64 0, .int .i64 0, .int .i64 0, .int .i64 0], .cells true 0 [.int .i64 ((hullA f c fb cb).1), .int .i64 ((hullA f c fb cb).2)]]) ?_ ?_
  · refine reps_cons ?_ (reps_cons ?_ (reps_cons ?_ (reps_cons ?_ (reps_nil)))) <;> intro J hJ
    · skip
      have g'26 := (jn @f1 (jn @f2 (jn @f3 (jn @f4 (jn @f5 (jn @f6 (jn @f7 (jn @f8 (jn @ha @hb)))))))))
      refine runDf g'26 ?_
      refine call_d (by kernel_rfl) (xarc_c _ x0 y0 x1 y1 f c) ?_
      refine runDf g'26 ?_
      refine call_d (by kernel_rfl) (xarc_c _ u0 v0 u1 v1 fb cb) ?_
      refine runDf g'26 ?_
      refine call_d (by kernel_rfl) (hhull_c _ f c fb cb (by assumption) (by assumption)) ?_
      refine runDf g'26 ?_
      refine inv_of (hJ _ _ ⟨_, _, _, ⟨rfl, rfl⟩, Abs.byG hbel [] rfl [0, 1, 2, 3] (by decide) ?_⟩)
      exact absWf (jn @f1 (jn @f2 (jn @f3 (jn @f4 (jn @f5 (jn @f6 (jn @f7 @f8)))))))
    · skip
      have g'27 := (jn @f1 (jn @f2 (jn @f3 (jn @f4 (jn @f5 (jn @f6 (jn @f7 (jn @f8 (jn @ha @hb)))))))))
      refine runDf g'27 ?_
      refine call_d (by kernel_rfl) (xarc_c _ x0 y0 x1 y1 f c) ?_
      refine runDf g'27 ?_
      refine call_d (by kernel_rfl) (xarc_c _ u0 v0 u1 v1 fb cb) ?_
      refine runDf g'27 ?_
      refine call_d (by kernel_rfl) (hhull_c _ f c fb cb (by assumption) (by assumption)) ?_
      refine runDf g'27 ?_
      refine inv_of (hJ _ _ ⟨_, _, _, ⟨rfl, rfl⟩, Abs.byG hbel [] rfl [0, 1, 2, 3] (by decide) ?_⟩)
      exact absWf (jn @f1 (jn @f2 (jn @f3 (jn @f4 (jn @f5 (jn @f6 (jn @f7 @f8)))))))
    · skip
      have g'28 := (jn @f1 (jn @f2 (jn @f3 (jn @f4 (jn @f5 (jn @f6 (jn @f7 (jn @f8 (jn @ha @hb)))))))))
      refine runDf g'28 ?_
      refine call_d (by kernel_rfl) (xarc_c _ x0 y0 x1 y1 f c) ?_
      refine runDf g'28 ?_
      refine call_d (by kernel_rfl) (xarc_c _ u0 v0 u1 v1 fb cb) ?_
      refine runDf g'28 ?_
      refine call_d (by kernel_rfl) (hhull_c _ f c fb cb (by assumption) (by assumption)) ?_
      refine runDf g'28 ?_
      refine inv_of (hJ _ _ ⟨_, _, _, ⟨rfl, rfl⟩, Abs.byG hbel [] rfl [0, 1, 2, 3] (by decide) ?_⟩)
      exact absWf (jn @f1 (jn @f2 (jn @f3 (jn @f4 (jn @f5 (jn @f6 (jn @f7 @f8)))))))
    · skip
      have g'29 := (jn @f1 (jn @f2 (jn @f3 (jn @f4 (jn @f5 (jn @f6 (jn @f7 (jn @f8 (jn @ha @hb)))))))))
      refine runDf g'29 ?_
      refine call_d (by kernel_rfl) (xarc_c _ x0 y0 x1 y1 f c) ?_
      refine runDf g'29 ?_
      refine call_d (by kernel_rfl) (xarc_c _ u0 v0 u1 v1 fb cb) ?_
      refine runDf g'29 ?_
      refine call_d (by kernel_rfl) (hhull_c _ f c fb cb (by assumption) (by assumption)) ?_
      refine runDf g'29 ?_
      refine inv_of (hJ _ _ ⟨_, _, _, ⟨rfl, rfl⟩, Abs.byG hbel [] rfl [0, 1, 2, 3] (by decide) ?_⟩)
      exact absWf (jn @f1 (jn @f2 (jn @f3 (jn @f4 (jn @f5 (jn @f6 (jn @f7 @f8)))))))
  rintro F2 H2 ⟨rfl, rfl⟩
  refine AW_fin false try_mixed (by kernel_rfl) ?_
  have g'30 := (jn @ha @hb)
  refine runTf g'30 ?_
  refine call_v (by kernel_rfl) (with_c _ (if u0 < x0 then u0 else x0) (if v0 < y0 then v0 else y0) (if x1 < u1 then u1 else x1) (if y1 < v1 then v1 else y1) ((hullA f c fb cb).1) ((hullA f c fb cb).2)) ?_
  refine runTf g'30 ?_
  exact hQ _ _ (end_plain (.inl rfl) hbel (x := .tup [.agg [.int .i64 (if u0 < x0 then u0 else x0), .int .i64 (if v0 < y0 then v0 else y0), .int .i64 (if x1 < u1 then u1 else x1), .int .i64 (if y1 < v1 then v1 else y1), .int .i64 ((hullA f c fb cb).1), .int .i64 ((hullA f c fb cb).2)], .int .i64 0]) (resT Tryz.results187) rfl ⟨rfl, rfl⟩)
open Go.RowKit
theorem arep_z {k : IntKind} {n : Nat} : (List.range n).map (fun j => ([.int k 0] : List AV).getD (j % 1) .any) = ints k (List.replicate n 0) := by
  rw [← ints_rep]
  refine List.ext_getElem (by simp) fun i h1 h2 => ?_
  simp [Nat.mod_one]
def lisS (f : Int) (n i : Nat) : List Int := mrkL f i ++ List.replicate (n - i) 0
theorem lisS_len {f : Int} {n i : Nat} (h : i ≤ n) : (lisS f n i).length = n := by unfold lisS; rw [List.length_append, mrkL_len, List.length_replicate]; omega
theorem lisS_set {f : Int} {n i : Nat} (h : i < n) : (lisS f n i).set i ((f + (i : Int)) % 256) = lisS f n (i + 1) := by
  unfold lisS
  obtain ⟨k, hk⟩ : ∃ k, n - i = k + 1 := ⟨n - i - 1, by omega⟩
  rw [hk, List.replicate_succ, List.set_append_right _ _ (by rw [mrkL_len]; exact Nat.le_refl _), mrkL_len, Nat.sub_self, List.set_cons_zero, mrkL_succ, List.append_assoc, show n - (i + 1) = k by omega]
  rfl
theorem lisS_0 (f : Int) (n : Nat) : lisS f n 0 = List.replicate n 0 := rfl
theorem lisS_n (f : Int) (n : Nat) : lisS f n n = mrkL f n := by unfold lisS; rw [Nat.sub_self]; simp
theorem harc_c (H : AHeap) (f : Int) (n : Int) (hn : 1 ≤ n ∧ n ≤ 100000) : ACalls Tryz.prog 196 [.int .i64 f, .int .i64 n] H (fun v H' => v = .agg [.int .i64 (arcF f n), .int .i64 (arcC n)] ∧ H' = H) := by
  refine AcT true Tryz.func196 ?_; intro hbel Q hQ
  refine runT ?_
  refine cond_split (fun h1 => ?_) (fun h1 => ?_)
  · have h1d := bsT h1
    have g'1 := (jn @h1 @h1d)
    refine runTf g'1 ?_
    exact hQ _ _ (end_plain (.inl rfl) hbel (x := .agg [.int .i64 0, .int .i64 256]) (resT Tryz.results196) rfl ⟨by unfold arcF arcC; first | (rw [if_pos (by omega), if_pos (by omega)]; done) | (rw [if_neg (by omega), if_neg (by omega), show (((f % 256).toNat : Nat) : Int) = f % 256 by omega]), rfl⟩)
  · have h1d := bsT h1
    have g'2 := (jn @h1 @h1d)
    refine runTf g'2 ?_
    refine call_v (by kernel_rfl) (mark_c _ f) ?_
    refine runTf g'2 ?_
    exact hQ _ _ (end_plain (.inl rfl) hbel (x := .agg [.int .i64 (((f % 256).toNat : Nat) : Int), .int .i64 n]) (resT Tryz.results196) rfl ⟨by unfold arcF arcC; first | (rw [if_pos (by omega), if_pos (by omega)]; done) | (rw [if_neg (by omega), if_neg (by omega), show (((f % 256).toNat : Nat) : Int) = f % 256 by omega]), rfl⟩)
theorem hshift_c (H : AHeap) (f : Int) (c : Int) (n : Int) (ha : arcB f c = true) : ACalls Tryz.prog 111 [.agg [.int .i64 f, .int .i64 c], .int .i64 n] H (fun v H' => v = .tup [.agg [.int .i64 (shF f c n), .int .i64 (arcC c)], .int .i64 0] ∧ H' = H) := by
  have ka := arcB_iff.1 ha
  refine AcT true Tryz.func111 ?_; intro hbel Q hQ
  have g'5 := @ha
  refine runTf g'5 ?_
  refine call_v (by kernel_rfl) (varc_c _ f c) ?_
  refine runTf g'5 ?_
  refine call_d (by kernel_rfl) (mark_c _ n) ?_
  refine runTf g'5 ?_
  refine call_d (by kernel_rfl) (harc_c _ (f + (((n % 256).toNat : Nat) : Int)) c (by omega)) ?_
  refine runTf g'5 ?_
  exact hQ _ _ (end_plain (.inl rfl) hbel (x := .tup [.agg [.int .i64 (arcF (f + (((n % 256).toNat : Nat) : Int)) c), .int .i64 (arcC c)], .int .i64 0]) (resT Tryz.results111) rfl ⟨rfl, rfl⟩)
theorem hgrow_c (H : AHeap) (f : Int) (c : Int) (n : Int) (ha : arcB f c = true) (hn : 0 ≤ n ∧ n ≤ 256) : ACalls Tryz.prog 112 [.agg [.int .i64 f, .int .i64 c], .int .i64 n] H (fun v H' => v = .tup [.agg [.int .i64 (grF f c n), .int .i64 (grC c n)], .int .i64 0] ∧ H' = H) := by
  have ka := arcB_iff.1 ha
  refine AcT true Tryz.func112 ?_; intro hbel Q hQ
  have g'7 := @ha
  refine runTf g'7 ?_
  refine call_v (by kernel_rfl) (varc_c _ f c) ?_
  refine runTf g'7 ?_
  refine gd_split (fun h1 => ?_) (fun h1 => ?_)
  · have h1d := bsT h1
    have g'8 := (jn @h1 (jn @h1d g'7))
    refine runTf g'8 ?_
    refine cond_split (fun h2 => ?_) (fun h2 => ?_)
    · have h2d := bsT h2
      omega
    · have h2d := bsT h2
      have g'9 := (jn @h2 (jn @h2d g'8))
      refine runTf g'9 ?_
      refine call_v (by kernel_rfl) (harc_c _ (f - n) (c + (2 * n)) (by omega)) ?_
      refine runTf g'9 ?_
      exact hQ _ _ (end_plain (.inl rfl) hbel (x := .tup [.agg [.int .i64 (arcF (f - n) (c + (2 * n))), .int .i64 (arcC (c + (2 * n)))], .int .i64 0]) (resT Tryz.results112) rfl ⟨rfl, rfl⟩)
  · have h1d := bsT h1
    omega
theorem hlist_c (H : AHeap) (f : Int) (c : Int) (ha : arcB f c = true) : ACalls Tryz.prog 113 [.agg [.int .i64 f, .int .i64 c]] H (fun v H' => v = .sl (some (H.length, 0)) ((mrkL f c.toNat).length) none ∧ H' = H ++ [.cells true 1 (ints .i64 (mrkL f c.toNat))]) := by
  have ka := arcB_iff.1 ha
  have harep := arep_z (k := .i64) (n := c.toNat)
  have hrt : ((c.toNat : Nat) : Int) = c := by omega
  refine AcT true Tryz.func113 ?_; intro hbel Q hQ
  have g'13 := (jn @ha (jn @harep @hrt))
  refine runTf g'13 ?_
  refine call_v (by kernel_rfl) (varc_c _ f c) ?_
  have g'14 := (jn @ints_rep (jn @List.length_replicate.{0} g'13))
  refine runTf g'14 ?_
  refine go_loop try_mixed (by kernel_rfl) (fun k F Hx => ∃ i : Nat, i + k = c.toNat ∧ F = [(1, .ptr (some (H.length, 0))), (3, .sl (some (H.length + 1, 0)) ((lisS f c.toNat i).length) none), (12, .int .i64 ((c.toNat : Nat) : Int)), (13, .int .i64 ((i : Nat) : Int))] ∧ Hx = H ++ [.cells true 0 [.int .i64 f, .int .i64 c], .cells true 1 (ints .i64 (lisS f c.toNat i))]) (c.toNat) ?_ ?_
  · refine ⟨_, _, _, ⟨0, by omega, rfl, rfl⟩, Abs.byG hbel [] rfl [0, 1] (by decide) ?_⟩
    exact absRf (jn @lisS_0 (jn @List.length_replicate.{0} @hrt))
  · rintro k0 F Hx ⟨i, hm0, rfl, rfl⟩ J0 hJ0
    have hln := lisS_len (f := f) (n := c.toNat) (i := i) (by omega)
    have g'15 := (jn @ints_len (jn @ints_ones g'14))
    refine runTf g'15 ?_
    refine cond_split (fun h1 => ?_) (fun h1 => ?_)
    · have h1d := bsT h1
      have hln2 := lisS_len (f := f) (n := c.toNat) (i := i + 1) (by omega)
      have hst : (lisS f c.toNat i).set i ((((f + ((i : Nat) : Int)) % 256).toNat : Nat) : Int) = lisS f c.toNat (i + 1) := by rw [show ((((f + ((i : Nat) : Int)) % 256).toNat : Nat) : Int) = (f + ((i : Nat) : Int)) % 256 by omega]; exact lisS_set (by omega)
      have g'16 := (jn @h1 (jn @h1d g'15))
      refine runTf g'16 ?_
      refine call_v (by kernel_rfl) (mark_c _ (f + ((i : Nat) : Int))) ?_
      have g'17 := (jn @ints_set1 (jn @List.length_set.{0} g'16))
      refine runTf g'17 ?_
      refine hJ0 _ _ ⟨k0 - 1, by omega, _, _, _, ⟨i + 1, by omega, rfl, rfl⟩, Abs.byG hbel [] rfl [0, 1] (by decide) ?_⟩
      exact absRf (jn @hst (jn @List.length_set.{0} (jn @hln (jn @hln2 @hrt))))
    · have h1d := bsT h1
      obtain rfl : i = c.toNat := by omega
      have g'18 := (jn @h1 (jn @h1d g'15))
      refine runTf g'18 ?_
      refine hQ _ _ (end_byG (.inl rfl) hbel (x1 := .sl (some (H.length + 1, 0)) ((lisS f c.toNat c.toNat).length) none) (l2 := [.cells true 1 (ints .i64 (lisS f c.toNat c.toNat))]) (.sl (some (H.length, 0)) ((lisS f c.toNat c.toNat).length) none) (resT Tryz.results113) [] rfl [1] (by decide) ⟨by rw [lisS_n], by rw [lisS_n]⟩ ?_)
      exact absW
theorem hlistq_c (H : AHeap) (bf bc t tu : Int) (ha : arcB bf bc = true) (ht : 0 ≤ tu ∧ tu ≤ 8) : ACalls Tryz.prog 113 [.agg [.int .i64 (grF (shF bf bc t) (arcC bc) tu), .int .i64 (grC (arcC bc) tu)]] H (fun v H' => v = .sl (some (H.length, 0)) (mrkA bf bc t tu).length none ∧ H' = H ++ [.cells (true) 1 (ints .i64 (mrkA bf bc t tu))]) :=
  hlist_c H _ _ (by have k := arcB_iff.1 ha; refine arcF_ok ?_; unfold arcC; split <;> omega)
theorem rect_c (H : AHeap) (x0 : Int) (y0 : Int) (x1 : Int) (y1 : Int) (f : Int) (c : Int) (ha : bxB x0 y0 x1 y1 f c = true) : ACalls Tryz.prog 115 [.agg [.int .i64 x0, .int .i64 y0, .int .i64 x1, .int .i64 y1, .int .i64 f, .int .i64 c]] H (fun v H' => v = .agg [.int .i64 x0, .int .i64 y0, .int .i64 x1, .int .i64 y1] ∧ H' = H) := by
  refine AcT true Tryz.func115 ?_; intro hbel Q hQ
  have g'19 := @ha
  refine runTf g'19 ?_
  refine call_v (by kernel_rfl) (bxv_c _ x0 y0 x1 y1 f c) ?_
  refine runTf g'19 ?_
  exact hQ _ _ (end_plain (.inl rfl) hbel (x := .agg [.int .i64 x0, .int .i64 y0, .int .i64 x1, .int .i64 y1]) (resT Tryz.results115) rfl ⟨rfl, rfl⟩)
open Go.RowKit
theorem safe_c (H : AHeap) (W : Int) (Hh : Int) (pp : AV) (xs : List Int) (s : AV) (l : List T6) (t : Int) (f : Int) (tu : Int) (le : Int) (sl : Int) (ra : Int) (hpp : Sl H 1 pp xs.length (ints .u8 xs)) (hs : Sl H 6 s l.length (r6 l)) (hl : l.length ≤ 1000000000) : ACalls Tryz.prog 39 [.agg [.int .i64 W, .int .i64 Hh, pp], s, .agg [.int .i64 t, .int .i64 f], .agg [.int .i64 tu, .int .i64 le, .int .i64 sl, .int .i64 ra]] H (fun v H' => v = .tup [.bool (saB W Hh xs l t f tu le sl ra), .int .i64 (saE W Hh xs l t f tu le sl ra)] ∧ H' = H) := by
  obtain ⟨bpp, opp, cpp, rfl, hbpp⟩ := hpp
  have hblpp := getElem?_lt hbpp
  have hb0pp := fun l => get_app (l := l) hbpp
  obtain ⟨bs, os, cs, rfl, hbs⟩ := hs
  have hbls := getElem?_lt hbs
  have hb0s := fun l => get_app (l := l) hbs
  refine AcT true Tryz.func39 ?_; intro hbel Q hQ
  have g'1 := (jn @hbpp (jn @hb0pp (jn @hbs @hb0s)))
  refine runTf g'1 ?_
  refine call_v (by kernel_rfl) (valid_a _ W Hh _ xs (.inr ⟨_, _, _, rfl, by first | exact hb0pp _ | exact hbpp⟩)) ?_
  refine runTf g'1 ?_
  refine gd_split (fun h1 => ?_) (fun h1 => ?_)
  · have h1d := bsT h1
    have hV := h1d
    have g'2 := (jn @h1 (jn @h1d g'1))
    refine runTf g'2 ?_
    refine call_v (by kernel_rfl) (vset_c _ _ l ⟨_, _, _, rfl, by first | exact hb0s _ | exact hbs⟩ (by omega)) ?_
    refine runTf g'2 ?_
    refine gd_split (fun h2 => ?_) (fun h2 => ?_)
    · have h2d := bsT h2
      have hS := h2d
      have hall := (setB_iff.1 hS).2
      have g'3 := (jn @h2 (jn @h2d g'2))
      refine runTf g'3 ?_
      refine call_v (by kernel_rfl) (vcmd_c _ t f) ?_
      refine runTf g'3 ?_
      refine gd_split (fun h3 => ?_) (fun h3 => ?_)
      · have h3d := bsT h3
        have hC := h3d
        have g'4 := (jn @h3 (jn @h3d g'3))
        refine runTf g'4 ?_
        refine call_v (by kernel_rfl) (vbnd_c _ tu le sl ra) ?_
        refine runTf g'4 ?_
        refine cond_split (fun h4 => ?_) (fun h4 => ?_)
        · have h4d := bsT h4
          have hz := saE_1 (W := W) (Hh := Hh) (xs := xs) (l := l) (t := t) (f := f) (tu := tu) (le := le) (sl := sl) (ra := ra) (fun hh => by simp [hh.1, hh.2.1, hh.2.2.1, hh.2.2.2] at h4d)
          have hfinE := hz.1
          have hfinB := hz.2
          have g'5 := (jn @h4 (jn @h4d g'4))
          refine runTf g'5 ?_
          exact hQ _ _ (end_plain (.inl rfl) hbel (x := .tup [.bool false, .int .i64 1]) (resT Tryz.results39) rfl ⟨by first | (rw [hfinE, hfinB]; done) | (rw [hfinB, hfinE]; done), rfl⟩)
        · have h4d := bsT h4
          have hBd := h4d
          have hfinE : saE W Hh xs l t f tu le sl ra = 0 := saE_0 hV hS hC hBd
          have htu : 0 ≤ tu ∧ tu ≤ 8 := by have hh := hBd; simp only [bndB, Bool.and_eq_true, btw_iff] at hh; omega
          have hff : 0 ≤ f ∧ f ≤ 32 := by have hh := hC; simp only [cmdB, Bool.and_eq_true, btw_iff] at hh; omega
          have g'6 := (jn @h4 (jn @h4d g'4))
          refine runTf g'6 ?_
          refine cond_split (fun h5 => ?_) (fun h5 => ?_)
          · have h5d := bsT h5
            have hfinB : saB W Hh xs l t f tu le sl ra = true := saB_z hfinE h5d
            have g'7 := (jn @h5 (jn @h5d (jn @int_bne (jn @int_beq g'6))))
            refine runTf g'7 ?_
            exact hQ _ _ (end_plain (.inl rfl) hbel (x := .tup [.bool true, .int .i64 0]) (resT Tryz.results39) rfl ⟨by first | (rw [hfinE, hfinB]; done) | (rw [hfinB, hfinE]; done), rfl⟩)
          · have h5d := bsT h5
            have hf0 : ¬ f = 0 := h5d
            have g'8 := (jn @h5 (jn @h5d (jn @int_bne (jn @int_beq g'6))))
            refine runTf g'8 ?_
            refine go_loop try_mixed (by kernel_rfl) (fun k F Hx => ∃ i : Nat, i + k = l.length ∧ (∀ j : Nat, j < i → boxOK W Hh xs t f tu le sl ra (g6 l j) = true) ∧ F = [(4, .ptr (some (H.length, 0))), (6, .ptr (some (H.length + 1, 0))), (7, .ptr (some (H.length + 2, 0))), (37, .sl (some (bs, 0)) l.length cs), (38, .int .i64 ((l.length : Nat) : Int)), (39, .int .i64 ((i : Nat) : Int))] ∧ Hx = H ++ [.cells true 0 [.int .i64 W, .int .i64 Hh, .sl (some (bpp, 0)) xs.length cpp], .cells true 0 [.int .i64 t, .int .i64 f], .cells true 0 [.int .i64 tu, .int .i64 le, .int .i64 sl, .int .i64 ra]]) (l.length) ?_ ?_
            · refine ⟨_, _, _, ⟨0, by omega, fun j h => by omega, rfl, rfl⟩, Abs.byG hbel [] rfl [0, 1, 2] (by decide) ?_⟩
              exact absW
            · rintro k0 F Hx ⟨i, hm0, hout, rfl, rfl⟩ J0 hJ0
              refine runTf g'8 ?_
              refine cond_split (fun h6 => ?_) (fun h6 => ?_)
              · have h6d := bsT h6
                have hbi : bxB (g61 l i) (g62 l i) (g63 l i) (g64 l i) (g65 l i) (g66 l i) = true := hall (g6 l i) (g6_mem (by omega))
                have hai := (bxB_iff.1 hbi).2.2
                have hkai := arcB_iff.1 hai
                have hsai : arcB (shF (g65 l i) (g66 l i) t) (arcC (g66 l i)) = true := arcF_ok (by omega)
                have hmal := mrkA_len (t := t) hai htu
                have q7 := r6_load (l := l) (j := i) (by omega)
                have g'9 := (jn @h6 (jn @h6d (jn @r6_len (jn @q7 g'8))))
                refine runTf g'9 ?_
                refine call_v (by kernel_rfl) (hshift_c _ (g65 l i) (g66 l i) t (by assumption)) ?_
                refine runTf g'9 ?_
                refine call_v (by kernel_rfl) (hgrow_c _ (shF (g65 l i) (g66 l i) t) (arcC (g66 l i)) tu (by assumption) (by omega)) ?_
                refine runTf g'9 ?_
                refine call_v (by kernel_rfl) (hlistq_c _ (g65 l i) (g66 l i) t tu (by assumption) (by assumption)) ?_
                refine runTf g'9 ?_
                refine go_loop try_mixed (by kernel_rfl) (fun k F Hx => ∃ m : Nat, m + k = (mrkA (g65 l i) (g66 l i) t tu).length ∧ (∀ j : Nat, j < m → unhB W Hh xs (g61 l i) (g62 l i) (g63 l i) (g64 l i) (gi (mrkA (g65 l i) (g66 l i) t tu) j) t f tu le sl ra = true) ∧ F = [(4, .ptr (some (H.length, 0))), (6, .ptr (some (H.length + 1, 0))), (7, .ptr (some (H.length + 2, 0))), (11, .ptr (some (H.length + 3, 0))), (37, .sl (some (bs, 0)) l.length cs), (38, .int .i64 ((l.length : Nat) : Int)), (39, .int .i64 ((i : Nat) : Int)), (62, .sl (some (H.length + 4, 0)) ((mrkA (g65 l i) (g66 l i) t tu).length) none), (63, .int .i64 (((mrkA (g65 l i) (g66 l i) t tu).length : Nat) : Int)), (64, .int .i64 ((m : Nat) : Int))] ∧ Hx = H ++ [.cells true 0 [.int .i64 W, .int .i64 Hh, .sl (some (bpp, 0)) xs.length cpp], .cells true 0 [.int .i64 t, .int .i64 f], .cells true 0 [.int .i64 tu, .int .i64 le, .int .i64 sl, .int .i64 ra], .cells true 0 [.int .i64 (g61 l i), .int .i64 (g62 l i), .int .i64 (g63 l i), .int .i64 (g64 l i), .int .i64 (g65 l i), .int .i64 (g66 l i)], .cells true 1 (ints .i64 (mrkA (g65 l i) (g66 l i) t tu))]) ((mrkA (g65 l i) (g66 l i) t tu).length) ?_ ?_
                · refine ⟨_, _, _, ⟨0, by omega, fun j h => by omega, rfl, rfl⟩, Abs.byG hbel [] rfl [0, 1, 2, 3, 5] (by decide) ?_⟩
                  exact absR
                · rintro k1 F Hx ⟨m, hm1, him, rfl, rfl⟩ J1 hJ1
                  have g'10 := (jn @ints_len (jn @ints_ones g'9))
                  refine runTf g'10 ?_
                  refine cond_split (fun h8 => ?_) (fun h8 => ?_)
                  · have h8d := bsT h8
                    have hmL : m < (mrkA (g65 l i) (g66 l i) t tu).length := by omega
                    have q9 := ints_get (k := .i64) (xs := mrkA (g65 l i) (g66 l i) t tu) (j := m) (by omega)
                    have g'11 := (jn @h8 (jn @h8d (jn @q9 g'10)))
                    refine runTf g'11 ?_
                    refine call_d (by kernel_rfl) (rect_c _ (g61 l i) (g62 l i) (g63 l i) (g64 l i) (g65 l i) (g66 l i) (by assumption)) ?_
                    refine runTf g'11 ?_
                    refine call_d (by kernel_rfl) (unh_c _ W Hh _ xs (g61 l i) (g62 l i) (g63 l i) (g64 l i) (gi (mrkA (g65 l i) (g66 l i) t tu) m) t f tu le sl ra ⟨_, _, _, rfl, by first | exact hb0pp _ | exact hbpp⟩ hV) ?_
                    refine runTf g'11 ?_
                    refine cond_split (fun h10 => ?_) (fun h10 => ?_)
                    · have h10d := bsT h10
                      have hfinB : saB W Hh xs l t f tu le sl ra = false := saB_f hf0 (j := i) (by omega) (boxOK_f (m := m) (by exact hmL) h10d)
                      have g'12 := (jn @h10 (jn @h10d g'11))
                      refine runTf g'12 ?_
                      exact hQ _ _ (end_plain (.inl rfl) hbel (x := .tup [.bool false, .int .i64 0]) (resT Tryz.results39) rfl ⟨by first | (rw [hfinE, hfinB]; done) | (rw [hfinB, hfinE]; done), rfl⟩)
                    · have h10d := bsT h10
                      have hua := h10d
                      have g'13 := (jn @h10 (jn @h10d g'11))
                      refine runTf g'13 ?_
                      refine hJ1 _ _ ⟨k1 - 1, by omega, _, _, _, ⟨m + 1, by omega, fun j hj => by
                                  rcases Nat.lt_or_ge j m with hji | hji
                                  · exact him j hji
                                  · rw [show j = m by omega]; exact hua, rfl, rfl⟩, Abs.byG hbel [] rfl [0, 1, 2, 3, 4] (by decide) ?_⟩
                      exact absRf @h5d
                  · have h8d := bsT h8
                    obtain rfl : m = (mrkA (g65 l i) (g66 l i) t tu).length := by omega
                    have hbok : boxOK W Hh xs t f tu le sl ra (g6 l i) = true := boxOK_t him
                    have g'14 := (jn @h8 (jn @h8d g'10))
                    refine runTf g'14 ?_
                    refine hJ0 _ _ ⟨k0 - 1, by omega, _, _, _, ⟨i + 1, by omega, fun j hj => by
                                rcases Nat.lt_or_ge j i with hji | hji
                                · exact hout j hji
                                · rw [show j = i by omega]; exact hbok, rfl, rfl⟩, Abs.byG hbel [] rfl [0, 1, 2] (by decide) ?_⟩
                    exact absWf @h5d
              · have h6d := bsT h6
                obtain rfl : i = l.length := by omega
                have hfinB : saB W Hh xs l t f tu le sl ra = true := saB_t hfinE hout
                have g'15 := (jn @h6 (jn @h6d g'8))
                refine runTf g'15 ?_
                exact hQ _ _ (end_plain (.inl rfl) hbel (x := .tup [.bool true, .int .i64 0]) (resT Tryz.results39) rfl ⟨by first | (rw [hfinE, hfinB]; done) | (rw [hfinB, hfinE]; done), rfl⟩)
      · have h3d := bsT h3
        have hz := saE_1 (W := W) (Hh := Hh) (xs := xs) (l := l) (t := t) (f := f) (tu := tu) (le := le) (sl := sl) (ra := ra) (fun hh => by simp [hh.1, hh.2.1, hh.2.2.1, hh.2.2.2] at h3d)
        have hfinE := hz.1
        have hfinB := hz.2
        have g'16 := (jn @h3 (jn @h3d g'3))
        refine runTf g'16 ?_
        exact hQ _ _ (end_plain (.inl rfl) hbel (x := .tup [.bool false, .int .i64 1]) (resT Tryz.results39) rfl ⟨by first | (rw [hfinE, hfinB]; done) | (rw [hfinB, hfinE]; done), rfl⟩)
    · have h2d := bsT h2
      have hz := saE_1 (W := W) (Hh := Hh) (xs := xs) (l := l) (t := t) (f := f) (tu := tu) (le := le) (sl := sl) (ra := ra) (fun hh => by simp [hh.1, hh.2.1, hh.2.2.1, hh.2.2.2] at h2d)
      have hfinE := hz.1
      have hfinB := hz.2
      have g'17 := (jn @h2 (jn @h2d g'2))
      refine runTf g'17 ?_
      exact hQ _ _ (end_plain (.inl rfl) hbel (x := .tup [.bool false, .int .i64 1]) (resT Tryz.results39) rfl ⟨by first | (rw [hfinE, hfinB]; done) | (rw [hfinB, hfinE]; done), rfl⟩)
  · have h1d := bsT h1
    have hz := saE_1 (W := W) (Hh := Hh) (xs := xs) (l := l) (t := t) (f := f) (tu := tu) (le := le) (sl := sl) (ra := ra) (fun hh => by simp [hh.1, hh.2.1, hh.2.2.1, hh.2.2.2] at h1d)
    have hfinE := hz.1
    have hfinB := hz.2
    have g'18 := (jn @h1 (jn @h1d g'1))
    refine runTf g'18 ?_
    exact hQ _ _ (end_plain (.inl rfl) hbel (x := .tup [.bool false, .int .i64 1]) (resT Tryz.results39) rfl ⟨by first | (rw [hfinE, hfinB]; done) | (rw [hfinB, hfinE]; done), rfl⟩)
open Go.RowKit
theorem sqz_le {a b : Int} (hb : 0 ≤ b) (h : a * a ≤ b * b) : -b ≤ a ∧ a ≤ b := by
  constructor
  · refine Int.not_lt.1 fun hc => ?_
    have h1 : (b + 1) * (b + 1) ≤ (-a) * (-a) := Int.mul_le_mul (by omega) (by omega) (by omega) (by omega)
    rw [Int.neg_mul_neg] at h1
    have h2 : (b + 1) * (b + 1) = b * b + 2 * b + 1 := by rw [Int.add_mul, Int.mul_add]; omega
    omega
  · refine Int.not_lt.1 fun hc => ?_
    have h1 : (b + 1) * (b + 1) ≤ a * a := Int.mul_le_mul (by omega) (by omega) (by omega) (by omega)
    have h2 : (b + 1) * (b + 1) = b * b + 2 * b + 1 := by rw [Int.add_mul, Int.mul_add]; omega
    omega
theorem sqz_nn (a : Int) : 0 ≤ a * a := by
  rcases Int.le_total 0 a with h | h
  · exact Int.mul_nonneg h h
  · have := Int.mul_nonneg (show 0 ≤ -a by omega) (show 0 ≤ -a by omega)
    rwa [Int.neg_mul_neg] at this
/-- A point near a segment, by the foot of its perpendicular. -/
theorem near_geo {ux uy wx wy : Int} (hn : (ux * wy - uy * wx) * (ux * wy - uy * wx) ≤ 400 * (ux * ux + uy * uy)) :
    (-(20 * (ux * ux + uy * uy)) ≤ (ux * ux + uy * uy) * wx - (ux * wx + uy * wy) * ux ∧ (ux * ux + uy * uy) * wx - (ux * wx + uy * wy) * ux ≤ 20 * (ux * ux + uy * uy)) ∧
    (-(20 * (ux * ux + uy * uy)) ≤ (ux * ux + uy * uy) * wy - (ux * wx + uy * wy) * uy ∧ (ux * ux + uy * uy) * wy - (ux * wx + uy * wy) * uy ≤ 20 * (ux * ux + uy * uy)) := by
  have e1 : (ux * ux + uy * uy) * wx - (ux * wx + uy * wy) * ux = -(uy * (ux * wy - uy * wx)) := by grind
  have e2 : (ux * ux + uy * uy) * wy - (ux * wx + uy * wy) * uy = ux * (ux * wy - uy * wx) := by grind
  rw [e1, e2]
  have hx := sqz_nn ux
  have hy := sqz_nn uy
  have hLx : ux * ux ≤ ux * ux + uy * uy := by omega
  have hLy : uy * uy ≤ ux * ux + uy * uy := by omega
  have hLn : 0 ≤ ux * ux + uy * uy := by omega
  clear e1 e2
  generalize ux * wy - uy * wx = n at *
  generalize ux * ux + uy * uy = L at *
  have k : ∀ v : Int, v * v ≤ L → (v * n) * (v * n) ≤ (20 * L) * (20 * L) := fun v hv => by
    have h1 : v * v * (n * n) ≤ L * (400 * L) := Int.mul_le_mul hv hn (sqz_nn n) hLn
    have h2 : v * v * (n * n) = (v * n) * (v * n) := by grind
    have h3 : L * (400 * L) = (20 * L) * (20 * L) := by grind
    rw [h2, h3] at h1; exact h1
  have a1 := sqz_le (by omega) (k uy hLy)
  have a2 := sqz_le (by omega) (k ux hLx)
  omega
/-- Floors of a direction's multiples keep their proportion. -/
theorem flo_geo {v D n m : Int} (hD : 0 < D) (hn : 0 ≤ n ∧ n ≤ m) : -m ≤ m * (n * v / D) - n * (m * v / D) ∧ m * (n * v / D) - n * (m * v / D) ≤ m := by
  have a1 := Int.mul_ediv_self_le (x := n * v) (k := D) (by omega)
  have a2 := Int.lt_mul_ediv_self_add (x := n * v) hD
  have b1 := Int.mul_ediv_self_le (x := m * v) (k := D) (by omega)
  have b2 := Int.lt_mul_ediv_self_add (x := m * v) hD
  generalize n * v / D = p at *
  generalize m * v / D = q at *
  have hm : 0 ≤ m := by omega
  have e1 : m * (D * p) ≤ m * (n * v) := Int.mul_le_mul_of_nonneg_left a1 hm
  have e2 : m * (n * v) ≤ m * (D * p + D) := Int.mul_le_mul_of_nonneg_left (by omega) hm
  have f1 : n * (D * q) ≤ n * (m * v) := Int.mul_le_mul_of_nonneg_left b1 hn.1
  have f2 : n * (m * v) ≤ n * (D * q + D) := Int.mul_le_mul_of_nonneg_left (by omega) hn.1
  have g : D * n ≤ D * m := Int.mul_le_mul_of_nonneg_left hn.2 (by omega)
  constructor
  · refine Int.le_of_mul_le_mul_left (a := D) ?_ hD
    have : D * (m * p - n * q) = m * (D * p) - n * (D * q) := by grind
    have h2 : m * (D * p + D) = m * (D * p) + D * m := by grind
    have h3 : D * -m = -(D * m) := by grind
    have h4 : m * (n * v) = n * (m * v) := by grind
    omega
  · refine Int.le_of_mul_le_mul_left (a := D) ?_ hD
    have : D * (m * p - n * q) = m * (D * p) - n * (D * q) := by grind
    have h2 : n * (D * q + D) = n * (D * q) + D * n := by grind
    have h4 : m * (n * v) = n * (m * v) := by grind
    omega
def absZ (x : Int) : Int := if x < 0 then -x else x
theorem absZ_le {x k : Int} : absZ x ≤ k ↔ -k ≤ x ∧ x ≤ k := by unfold absZ; split <;> omega
theorem mul_absZ {a b k : Int} (h : -k ≤ b ∧ b ≤ k) : -(absZ a * k) ≤ a * b ∧ a * b ≤ absZ a * k := by
  have hk : 0 ≤ k := by omega
  unfold absZ
  split
  · have h1 := Int.mul_le_mul_of_nonneg_left h.1 (show 0 ≤ -a by omega)
    have h2 := Int.mul_le_mul_of_nonneg_left h.2 (show 0 ≤ -a by omega)
    have e : -a * b = -(a * b) := by grind
    have e2 : -a * -k = -(-a * k) := by grind
    omega
  · have h1 := Int.mul_le_mul_of_nonneg_left h.1 (show 0 ≤ a by omega)
    have h2 := Int.mul_le_mul_of_nonneg_left h.2 (show 0 ≤ a by omega)
    have e2 : a * -k = -(a * k) := by grind
    omega
/-- No direction keeps them apart. -/
theorem core_geo {n1 n2 U d1 d2 r1 r2 σ w1 w2 K1 K2 : Int} (hU : 0 < U) (h1 : U * d1 = r1 + σ * w1) (h2 : U * d2 = r2 + σ * w2) (b1 : -(U * K1) ≤ r1 ∧ r1 ≤ U * K1) (b2 : -(U * K2) ≤ r2 ∧ r2 ≤ U * K2) (bs : -U ≤ σ ∧ σ ≤ U) :
    absZ (n1 * d1 + n2 * d2) ≤ absZ n1 * K1 + absZ n2 * K2 + absZ (n1 * w1 + n2 * w2) := by
  rw [absZ_le]
  have m1 := mul_absZ (a := n1) b1
  have m2 := mul_absZ (a := n2) b2
  have m3 := mul_absZ (a := n1 * w1 + n2 * w2) bs
  have e : U * (n1 * d1 + n2 * d2) = n1 * r1 + n2 * r2 + (n1 * w1 + n2 * w2) * σ := by
    have : U * (n1 * d1 + n2 * d2) = n1 * (U * d1) + n2 * (U * d2) := by grind
    rw [this, h1, h2]; grind
  have f : U * (absZ n1 * K1 + absZ n2 * K2 + absZ (n1 * w1 + n2 * w2)) = absZ n1 * (U * K1) + absZ n2 * (U * K2) + absZ (n1 * w1 + n2 * w2) * U := by grind
  constructor
  · refine Int.le_of_mul_le_mul_left (a := U) ?_ hU
    rw [Int.mul_neg, f, e]; omega
  · refine Int.le_of_mul_le_mul_left (a := U) ?_ hU
    rw [f, e]; omega
/-- One coordinate of the way (c: the cell's first line; p: where the robot is; dl: its way; A/T: how far; a, b: the rectangle). -/
theorem coord_geo {c p dl A T a b w w' e m n' s : Int} (hT : 0 < T) (hA : 0 ≤ A ∧ A ≤ T) (hm : 0 ≤ n' ∧ n' ≤ m) (hP : T * (c - 20) ≤ T * p + A * dl ∧ T * p + A * dl ≤ T * (c + 84)) (hr : a ≤ p ∧ p ≤ b) (hd : dl = w' + e) (he : -s ≤ e ∧ e ≤ s) (hw : -m ≤ m * w' - n' * w ∧ m * w' - n' * w ≤ m) :
    ∃ r : Int, (T * m) * (2 * c + 64 - (a + b + w)) = r + (2 * A * n' - T * m) * w ∧ -((T * m) * (b - a + 2 * s + 2 + 104)) ≤ r ∧ r ≤ (T * m) * (b - a + 2 * s + 2 + 104) := by
  refine ⟨m * (T * (2 * c + 64) - 2 * (T * p + A * dl)) + m * (T * (2 * p - a - b)) + m * (2 * (A * e)) + 2 * (A * (m * w' - n' * w)), by subst hd; grind, ?_⟩
  have hmm : 0 ≤ m := by omega
  have e1 : T * (c - 20) = T * c - 20 * T := by grind
  have e2 : T * (c + 84) = T * c + 84 * T := by grind
  have e3 : T * (2 * c + 64) = 2 * (T * c) + 64 * T := by grind
  have k1 : -(104 * T) ≤ T * (2 * c + 64) - 2 * (T * p + A * dl) ∧ T * (2 * c + 64) - 2 * (T * p + A * dl) ≤ 104 * T := by omega
  have k2a := Int.mul_le_mul_of_nonneg_left (show -(b - a) ≤ 2 * p - a - b by omega) (Int.le_of_lt hT)
  have k2b := Int.mul_le_mul_of_nonneg_left (show 2 * p - a - b ≤ b - a by omega) (Int.le_of_lt hT)
  have k3a := Int.mul_le_mul_of_nonneg_left he.1 hA.1
  have k3b := Int.mul_le_mul_of_nonneg_left he.2 hA.1
  have k3c := Int.mul_le_mul_of_nonneg_right hA.2 (show 0 ≤ s by omega)
  have k4a := Int.mul_le_mul_of_nonneg_left hw.1 hA.1
  have k4b := Int.mul_le_mul_of_nonneg_left hw.2 hA.1
  have k4c := Int.mul_le_mul_of_nonneg_right hA.2 hmm
  have e4 : A * -s = -(A * s) := by grind
  have e5 : A * -m = -(A * m) := by grind
  have e6 : T * -(b - a) = -(T * (b - a)) := by grind
  generalize T * (2 * c + 64) - 2 * (T * p + A * dl) = x1 at *
  generalize T * (2 * p - a - b) = x2 at *
  generalize A * (m * w' - n' * w) = x4 at *
  generalize A * e = x3 at *
  have l1a := Int.mul_le_mul_of_nonneg_left k1.1 hmm
  have l1b := Int.mul_le_mul_of_nonneg_left k1.2 hmm
  have l2a := Int.mul_le_mul_of_nonneg_left (show -(T * (b - a)) ≤ x2 by omega) hmm
  have l2b := Int.mul_le_mul_of_nonneg_left k2b hmm
  have l3a := Int.mul_le_mul_of_nonneg_left (show -(2 * (T * s)) ≤ 2 * x3 by omega) hmm
  have l3b := Int.mul_le_mul_of_nonneg_left (show 2 * x3 ≤ 2 * (T * s) by omega) hmm
  have g : (T * m) * (b - a + 2 * s + 2 + 104) = m * (T * (b - a)) + m * (2 * (T * s)) + 2 * (T * m) + m * (104 * T) := by grind
  have g1 : m * -(104 * T) = -(m * (104 * T)) := by grind
  have g2 : m * -(T * (b - a)) = -(m * (T * (b - a))) := by grind
  have g3 : m * -(2 * (T * s)) = -(m * (2 * (T * s))) := by grind
  rw [g]
  omega

def lnP (x y : Int) : Bool := within x 2097152 && within y 2097152
def lnR (x0 y0 x1 y1 : Int) : Bool := decide (-2097152 ≤ x0) && (decide (x0 ≤ x1) && (decide (x1 ≤ 2097152) && (decide (-2097152 ≤ y0) && (decide (y0 ≤ y1) && decide (y1 ≤ 2097152)))))
theorem lnP_iff {x y : Int} : lnP x y = true ↔ (-2097152 ≤ x ∧ x ≤ 2097152) ∧ -2097152 ≤ y ∧ y ≤ 2097152 := by unfold lnP; rw [Bool.and_eq_true, within_iff, within_iff]
theorem lnR_iff {x0 y0 x1 y1 : Int} : lnR x0 y0 x1 y1 = true ↔ (-2097152 ≤ x0 ∧ x0 ≤ x1 ∧ x1 ≤ 2097152) ∧ -2097152 ≤ y0 ∧ y0 ≤ y1 ∧ y1 ≤ 2097152 := by
  unfold lnR; simp only [Bool.and_eq_true, decide_eq_true_eq]; omega
def clgI (n lo hi : Int) : Int := if lo < (if hi < n then hi else n) then (if hi < n then hi else n) else lo
/-- Where the disc touches. -/
def TouP (px py qx qy x0 y0 : Int) : Prop := ∃ A T : Int, 0 < T ∧ (0 ≤ A ∧ A ≤ T) ∧ (T * (x0 - 20) ≤ T * px + A * (qx - px) ∧ T * px + A * (qx - px) ≤ T * (x0 + 84)) ∧ T * (y0 - 20) ≤ T * py + A * (qy - py) ∧ T * py + A * (qy - py) ≤ T * (y0 + 84)
theorem mul20 {T : Int} (hT : 0 < T) (x k : Int) (hk : 0 ≤ k) : T * (x - k) ≤ T * x ∧ T * x ≤ T * (x + k) := ⟨Int.mul_le_mul_of_nonneg_left (by omega) (by omega), Int.mul_le_mul_of_nonneg_left (by omega) (by omega)⟩
theorem TouP.swap {px py qx qy x0 y0 : Int} (h : TouP py px qy qx y0 x0) : TouP px py qx qy x0 y0 := by
  obtain ⟨A, T, a, b, c, d⟩ := h; exact ⟨A, T, a, b, d, c⟩
open Go.RowKit
set_option maxHeartbeats 800000
theorem absI_Z (x : Int) : absI x = absZ x := rfl
theorem absI_mul {a k : Int} (hk : 0 ≤ k) : absI (a * k) = absI a * k := by
  have h1 := mul_absZ (a := a) (b := k) (k := k) (by omega)
  unfold absI
  rcases Int.lt_or_le a 0 with h | h
  · have h2 := Int.mul_le_mul_of_nonneg_right (show a ≤ 0 by omega) hk
    rw [if_pos h]
    have e : -a * k = -(a * k) := by grind
    rw [e]; split <;> omega
  · have h2 := Int.mul_nonneg h hk
    rw [if_neg (by omega), if_neg (by omega)]
theorem spr_rec (n : Pt) {g k : Int} (hg : 0 ≤ g) (hk : 0 ≤ k) : spr n [(g, 0), (0, k)] = absI n.1 * g + absI n.2 * k := by
  simp only [spr, dotP, Int.mul_zero, Int.add_zero, Int.zero_add]
  rw [absI_mul hg, absI_mul hk]
def wwX (h f le : Int) : Int := if f = 0 then 0 else wayX h (f + le)
def wwY (h f le : Int) : Int := if f = 0 then 0 else wayY h (f + le)
theorem spr_sw (n : Pt) {x0 y0 x1 y1 h f le sl : Int} (hx : x0 ≤ x1) (hy : y0 ≤ y1) (hs : 0 ≤ sl) : spr n (sweL x0 y0 x1 y1 h f le sl) = absI n.1 * (x1 - x0 + 2 * hlf f sl) + absI n.2 * (y1 - y0 + 2 * hlf f sl) + absI (n.1 * wwX h f le + n.2 * wwY h f le) := by
  unfold sweL
  have hh : 0 ≤ hlf f sl := by unfold hlf; split <;> omega
  rw [spr_canon, spr_app, spr_app]
  unfold recL sqrL
  rw [spr_rec n (by omega) (by omega), spr_rec n (by omega) (by omega)]
  have e : spr n (wayL h f le) = absI (n.1 * wwX h f le + n.2 * wwY h f le) := by
    unfold wayL wwX wwY
    split
    · simp [spr, absI]
    · simp [spr, dotP]
  rw [e]
  have e1 : hlf f sl - (0 - hlf f sl) = 2 * hlf f sl := by omega
  rw [e1]; grind
/-- The robot's way (f: its steps; n', e: what came of them). -/
def WayP (h f le sl dx dy : Int) : Prop := (f = 0 ∧ dx = 0 ∧ dy = 0) ∨ (0 < f ∧ ∃ n' ex ey : Int, (0 ≤ n' ∧ n' ≤ f + le) ∧ (-sl ≤ ex ∧ ex ≤ sl) ∧ (-sl ≤ ey ∧ ey ≤ sl) ∧ dx = wayX h n' + ex ∧ dy = wayY h n' + ey)
theorem not_apart {x0 y0 x1 y1 h f le sl px py dx dy cx cy : Int} (hx : x0 ≤ px ∧ px ≤ x1) (hy : y0 ≤ py ∧ py ≤ y1) (hl : 0 ≤ le) (hs : 0 ≤ sl) (hw : WayP h f le sl dx dy) (ht : TouP px py (px + dx) (py + dy) (cx * 64) (cy * 64)) (n : Pt) :
    absI (n.1 * (2 * (cx * 64) + 64 - sweX x0 x1 h f le) + n.2 * (2 * (cy * 64) + 64 - sweY y0 y1 h f le)) ≤ spr n (sweL x0 y0 x1 y1 h f le sl) + (absI n.1 * 64 + absI n.2 * 64) := by
  rw [spr_sw n (by omega) (by omega) hs]
  obtain ⟨A, T, hT, hA, hX, hY⟩ := ht
  have ex1 : px + dx - px = dx := by omega
  have ey1 : py + dy - py = dy := by omega
  rw [ex1] at hX
  rw [ey1] at hY
  have esx : sweX x0 x1 h f le = x0 + x1 + wwX h f le := rfl
  have esy : sweY y0 y1 h f le = y0 + y1 + wwY h f le := rfl
  rcases hw with ⟨rfl, rfl, rfl⟩ | ⟨hf, n', ex, ey, hn, hex, hey, rfl, rfl⟩
  · have w1 : wwX h 0 le = 0 := rfl
    have w2 : wwY h 0 le = 0 := rfl
    have hh : hlf 0 sl = 20 := rfl
    rw [esx, esy, w1, w2, hh]
    simp only [Int.mul_zero, Int.add_zero] at hX hY ⊢
    have c := core_geo (n1 := n.1) (n2 := n.2) (U := T) (d1 := 2 * (cx * 64) + 64 - (x0 + x1)) (d2 := 2 * (cy * 64) + 64 - (y0 + y1)) (σ := 0) (w1 := 0) (w2 := 0) (K1 := x1 - x0 + 104) (K2 := y1 - y0 + 104) (r1 := T * (2 * (cx * 64) + 64 - (x0 + x1))) (r2 := T * (2 * (cy * 64) + 64 - (y0 + y1))) hT (by rw [Int.zero_mul, Int.add_zero]) (by rw [Int.zero_mul, Int.add_zero]) (by
        have a1 := Int.mul_le_mul_of_nonneg_left hx.1 (show 0 ≤ T by omega)
        have a2 := Int.mul_le_mul_of_nonneg_left hx.2 (show 0 ≤ T by omega)
        have e1 : T * (2 * (cx * 64) + 64 - (x0 + x1)) = 2 * (T * (cx * 64)) + 64 * T - T * x0 - T * x1 := by grind
        have e2 : T * (x1 - x0 + 104) = T * x1 - T * x0 + 104 * T := by grind
        have e3 : T * (cx * 64 - 20) = T * (cx * 64) - 20 * T := by grind
        have e4 : T * (cx * 64 + 84) = T * (cx * 64) + 84 * T := by grind
        omega) (by
        have a1 := Int.mul_le_mul_of_nonneg_left hy.1 (show 0 ≤ T by omega)
        have a2 := Int.mul_le_mul_of_nonneg_left hy.2 (show 0 ≤ T by omega)
        have e1 : T * (2 * (cy * 64) + 64 - (y0 + y1)) = 2 * (T * (cy * 64)) + 64 * T - T * y0 - T * y1 := by grind
        have e2 : T * (y1 - y0 + 104) = T * y1 - T * y0 + 104 * T := by grind
        have e3 : T * (cy * 64 - 20) = T * (cy * 64) - 20 * T := by grind
        have e4 : T * (cy * 64 + 84) = T * (cy * 64) + 84 * T := by grind
        omega) (by omega)
    have k1 : absI n.1 * (x1 - x0 + 104) = absI n.1 * (x1 - x0 + 2 * 20) + absI n.1 * 64 := by grind
    have k2 : absI n.2 * (y1 - y0 + 104) = absI n.2 * (y1 - y0 + 2 * 20) + absI n.2 * 64 := by grind
    have z : absZ (n.1 * 0 + n.2 * 0) = 0 := by simp [absZ]
    have z2 : absI 0 = 0 := rfl
    rw [z] at c
    rw [z2]
    simp only [← absI_Z] at c
    omega
  · have hf0 : ¬ f = 0 := by omega
    have w1 : wwX h f le = wayX h (f + le) := if_neg hf0
    have w2 : wwY h f le = wayY h (f + le) := if_neg hf0
    have hh : hlf f sl = sl + 21 := if_neg hf0
    rw [esx, esy, w1, w2, hh]
    have hD : 0 < (dirV h).2.2 := (vecOK_iff.1 (dirV_ok h)).1.1
    have fx := flo_geo (v := (dirV h).1) hD hn
    have fy := flo_geo (v := (dirV h).2.1) hD hn
    obtain ⟨r1, q1, q2⟩ := coord_geo (c := cx * 64) (w := wayX h (f + le)) (w' := wayX h n') hT hA hn hX hx rfl hex fx
    obtain ⟨r2, p1, p2⟩ := coord_geo (c := cy * 64) (w := wayY h (f + le)) (w' := wayY h n') hT hA hn hY hy rfl hey fy
    have hU : 0 < T * (f + le) := Int.mul_pos hT (by omega)
    have hs2 : -(T * (f + le)) ≤ 2 * A * n' - T * (f + le) ∧ 2 * A * n' - T * (f + le) ≤ T * (f + le) := by
      have a1 := Int.mul_nonneg hA.1 hn.1
      have a2 : A * n' ≤ T * (f + le) := Int.mul_le_mul hA.2 hn.2 hn.1 (by omega)
      have e : 2 * A * n' = 2 * (A * n') := by grind
      omega
    have c := core_geo (n1 := n.1) (n2 := n.2) hU q1 p1 q2 p2 hs2
    have k1 : absI n.1 * (x1 - x0 + 2 * sl + 2 + 104) = absI n.1 * (x1 - x0 + 2 * (sl + 21)) + absI n.1 * 64 := by grind
    have k2 : absI n.2 * (y1 - y0 + 2 * sl + 2 + 104) = absI n.2 * (y1 - y0 + 2 * (sl + 21)) + absI n.2 * 64 := by grind
    simp only [← absI_Z] at c
    omega
theorem ww_bd (h : Int) {f le : Int} (hf : 0 ≤ f ∧ f ≤ 32) (hl : 0 ≤ le ∧ le ≤ 16) : (-48 ≤ wwX h f le ∧ wwX h f le ≤ 48) ∧ -48 ≤ wwY h f le ∧ wwY h f le ≤ 48 := by
  have := way_bd h (m := f + le) (by omega)
  unfold wwX wwY; split <;> omega
theorem dbl64 (c X : Int) : c * 64 + (c + 1) * 64 - X = 2 * (c * 64) + 64 - X := by omega
theorem gen64 (c : Int) : (c + 1) * 64 - c * 64 = 64 := by omega
theorem cel_mem {a b c : Int} (h1 : a ≤ c * 64 + 64) (h2 : c * 64 ≤ b) (hab : a ≤ b) : spl a ≤ c ∧ c < spl a + (celN a b : Int) := by unfold celN spl sph; omega
open Go.RowKit
set_option maxHeartbeats 4000000
theorem clg_r (n lo hi : Int) : (if lo < (if hi < n then hi else n) then (if hi < n then hi else n) else lo) = clgI n lo hi := rfl
theorem bclipg_c (H : AHeap) (n lo hi : Int) : ACalls Tryz.prog 37 [.int .i64 n, .int .i64 lo, .int .i64 hi] H (fun v H' => v = .int .i64 (clgI n lo hi) ∧ H' = H) := by
  have hcl := clg_r n lo hi
  refine AcT true Tryz.func37 ?_; intro hbel Q hQ
  have g'1 := @hcl
  refine runTf g'1 ?_
  exact hQ _ _ (end_plain0 (.inl rfl) hbel (x := .int .i64 (clgI n lo hi)) (resT Tryz.results37) rfl ⟨rfl, rfl⟩)
open Go.RowKit
def clipI (d : Int) : Int := if d < -32 then -32 else if 32 < d then 32 else d
theorem delta_c (H : AHeap) (a : Int) (b : Int) (ka : -1152921504606846976 ≤ a ∧ a ≤ 1152921504606846976) (kb : -1152921504606846976 ≤ b ∧ b ≤ 1152921504606846976) : ACalls Tryz.prog 134 [.int .i64 a, .int .i64 b] H (fun v H' => v = .int .i64 (delI a b) ∧ H' = H) := by
  refine AcT true Tryz.func134 ?_; intro hbel Q hQ
  refine runT ?_
  refine call_v (by kernel_rfl) (mark_c _ (b - a)) ?_
  refine runT ?_
  refine cond_split (fun h1 => ?_) (fun h1 => ?_)
  · have h1d := bsT h1
    have g'1 := (jn @h1 @h1d)
    refine runTf g'1 ?_
    exact hQ _ _ (end_plain0 (.inl rfl) hbel (x := .int .i64 (((((b - a) % 256).toNat : Nat) : Int) - 256)) (resT Tryz.results134) rfl ⟨congrArg (AV.int .i64) (by unfold delI; split <;> omega), rfl⟩)
  · have h1d := bsT h1
    have g'2 := (jn @h1 @h1d)
    refine runTf g'2 ?_
    exact hQ _ _ (end_plain0 (.inl rfl) hbel (x := .int .i64 ((((b - a) % 256).toNat : Nat) : Int)) (resT Tryz.results134) rfl ⟨congrArg (AV.int .i64) (by unfold delI; split <;> omega), rfl⟩)
open Go.RowKit
open Go.RowKit
theorem tow_spec {x y : Int} (hd : ¬ (x = 0 ∧ y = 0)) : ∀ n : Nat, 1 ≤ n → towN x y n < n ∧ beyB (dirN (towN x y n)) x y = false ∧ ∀ j : Nat, towN x y n < j → j < n → beyB (dirN j) x y = true
  | 0, h => by omega
  | n + 1, _ => by
    rw [towN]
    cases hb : beyB (dirN n) x y with
    | false => simp only [Bool.false_eq_true, if_false]; exact ⟨Nat.lt_succ_self n, hb, fun j h1 h2 => by omega⟩
    | true =>
      simp only [if_true]
      rcases Nat.eq_zero_or_pos n with rfl | h0
      · rw [bey_0 hd] at hb; cases hb
      · obtain ⟨h1, h2, h3⟩ := tow_spec hd n h0
        exact ⟨by omega, h2, fun j k1 k2 => by
          rcases Nat.lt_or_ge j n with h | h
          · exact h3 j k1 h
          · rw [show j = n by omega]; exact hb⟩
theorem towE0 {fx fy tx ty : Int} (h : towE fx fy tx ty = 0) : ((-1048576 ≤ fx ∧ fx ≤ 1048576) ∧ -1048576 ≤ fy ∧ fy ≤ 1048576) ∧ ((-1048576 ≤ tx ∧ tx ≤ 1048576) ∧ -1048576 ≤ ty ∧ ty ≤ 1048576) ∧ ¬ (tx - fx = 0 ∧ ty - fy = 0) ∧ towI fx fy tx ty = ((towN (tx - fx) (ty - fy) 256 : Nat) : Int) := by
  have hI : towI fx fy tx ty = ((towN (tx - fx) (ty - fy) 256 : Nat) : Int) := if_pos h
  unfold towE at h
  split at h
  · rename_i h1
    simp only [ptB, Bool.and_eq_true, within_iff] at h1
    split at h
    · omega
    · rename_i h2; exact ⟨by omega, by omega, by omega, hI⟩
  · omega
theorem tow_bey {fx fy tx ty : Int} (h : towE fx fy tx ty = 0) : (0 ≤ towI fx fy tx ty ∧ towI fx fy tx ty ≤ 255) ∧ beyR (dirV (towI fx fy tx ty)).1 (dirV (towI fx fy tx ty)).2.1 (tx - fx) (ty - fy) = false ∧ (¬ towI fx fy tx ty = 255 → beyR (dirV (towI fx fy tx ty + 1)).1 (dirV (towI fx fy tx ty + 1)).2.1 (tx - fx) (ty - fy) = true) := by
  obtain ⟨-, -, hd, hI⟩ := towE0 h
  obtain ⟨s1, s2, s3⟩ := tow_spec hd 256 (by decide)
  rw [hI, beyR_eq (dirV_ok _) hd, dirV_nat s1]
  refine ⟨by omega, s2, fun hn => ?_⟩
  rw [beyR_eq (dirV_ok _) hd]
  have e : ((towN (tx - fx) (ty - fy) 256 : Nat) : Int) + 1 = ((towN (tx - fx) (ty - fy) 256 + 1 : Nat) : Int) := by omega
  rw [e, dirV_nat (by omega)]
  exact s3 _ (by omega) (by omega)
open Go.RowKit
/-- The steps of a forward motion: at most k more than n. -/
def fwM (q : Int) : Nat → Nat → Nat
  | 0, n => n
  | k + 1, n => if ((n : Int) + 1) * ((n : Int) + 1) ≤ q then fwM q k (n + 1) else n
theorem fwM_le (q : Int) : ∀ k n : Nat, n ≤ fwM q k n ∧ fwM q k n ≤ n + k
  | 0, n => ⟨Nat.le_refl _, Nat.le_refl _⟩
  | k + 1, n => by
    rw [fwM]; split
    · have := fwM_le q k (n + 1); omega
    · omega
theorem fwM_go {q : Int} {k n : Nat} (hk : 0 < k) (h : ((n : Int) + 1) * ((n : Int) + 1) ≤ q) : fwM q k n = fwM q (k - 1) (n + 1) := by
  obtain ⟨j, rfl⟩ : ∃ j, k = j + 1 := ⟨k - 1, by omega⟩
  rw [fwM, if_pos h, Nat.add_sub_cancel]
theorem fwM_stop {q : Int} {k n : Nat} (h : ¬ ((n : Int) + 1) * ((n : Int) + 1) ≤ q) : fwM q k n = n := by
  cases k with
  | zero => rfl
  | succ j => rw [fwM, if_neg h]
def aimE (x y h tx ty : Int) : Int := if btw h 0 255 = true then towE x y tx ty else 1
def aimT (x y h tx ty : Int) : Int := if aimE x y h tx ty = 0 then clipI (delI h (towI x y tx ty)) else 0
def aimF (x y h tx ty : Int) : Int := if aimE x y h tx ty = 0 ∧ btw (delI h (towI x y tx ty)) (-8) 8 = true then ((fwM (((tx - x) * (tx - x)) + ((ty - y) * (ty - y))) 32 0 : Nat) : Int) else 0
theorem aim_cmd (x y h tx ty : Int) : cmdB (aimT x y h tx ty) (aimF x y h tx ty) = true := by
  unfold cmdB
  rw [Bool.and_eq_true, within_iff, btw_iff]
  constructor
  · unfold aimT clipI; split
    · split
      · omega
      · split <;> omega
    · omega
  · unfold aimF; split
    · have := fwM_le (((tx - x) * (tx - x)) + ((ty - y) * (ty - y))) 32 0; omega
    · omega
def poseB (x y h : Int) : Bool := within x 1048576 && (within y 1048576 && (decide (0 ≤ h) && decide (h < 256)))
theorem poseB_iff {x y h : Int} : poseB x y h = true ↔ (ptB x y = true ∧ btw h 0 255 = true) := by
  unfold poseB ptB; simp only [Bool.and_eq_true, within_iff, btw_iff, decide_eq_true_eq]; omega
theorem clip_r (d : Int) : (if (-32) < (if 32 < d then 32 else d) then (if 32 < d then 32 else d) else (-32)) = clipI d := by
  unfold clipI; repeat' split
  all_goals omega
theorem bpose_c (H : AHeap) (x : Int) (y : Int) (h : Int) : ACalls Tryz.prog 41 [.agg [.int .i64 x, .int .i64 y, .int .i64 h]] H (fun v H' => v = .bool (poseB x y h) ∧ H' = H) := by
  refine AcT true Tryz.func41 ?_; intro hbel Q hQ
  refine runT ?_
  refine call_v (by kernel_rfl) (bsize_c _ _ _ (by decide)) ?_
  refine runT ?_
  refine gd_split (fun h1 => ?_) (fun h1 => ?_)
  · have h1d := bsT h1
    have g'2 := (jn @h1 @h1d)
    refine runTf g'2 ?_
    refine call_v (by kernel_rfl) (bsize_c _ _ _ (by decide)) ?_
    refine runTf g'2 ?_
    refine gd_split (fun h2 => ?_) (fun h2 => ?_)
    · have h2d := bsT h2
      have g'3 := (jn @h2 (jn @h2d g'2))
      refine runTf g'3 ?_
      refine gd_split (fun h3 => ?_) (fun h3 => ?_)
      · have h3d := bsT h3
        have g'4 := (jn @h3 (jn @h3d g'3))
        refine runTf g'4 ?_
        exact hQ _ _ (end_plain (.inl rfl) hbel (x := .bool (decide (h < 256))) (resT Tryz.results41) rfl ⟨by simp [poseB, h1d, h2d, h3d], rfl⟩)
      · have h3d := bsT h3
        have g'5 := (jn @h3 (jn @h3d g'3))
        refine runTf g'5 ?_
        exact hQ _ _ (end_plain (.inl rfl) hbel (x := .bool false) (resT Tryz.results41) rfl ⟨by simp [poseB, h1d, h2d, h3d], rfl⟩)
    · have h2d := bsT h2
      have g'6 := (jn @h2 (jn @h2d g'2))
      refine runTf g'6 ?_
      exact hQ _ _ (end_plain (.inl rfl) hbel (x := .bool false) (resT Tryz.results41) rfl ⟨by simp [poseB, h1d, h2d], rfl⟩)
  · have h1d := bsT h1
    have g'7 := (jn @h1 @h1d)
    refine runTf g'7 ?_
    exact hQ _ _ (end_plain (.inl rfl) hbel (x := .bool false) (resT Tryz.results41) rfl ⟨by simp [poseB, h1d], rfl⟩)
theorem aim_c (H : AHeap) (x : Int) (y : Int) (h : Int) (tx : Int) (ty : Int) : ACalls Tryz.prog 108 [.agg [.int .i64 x, .int .i64 y, .int .i64 h], .agg [.int .i64 tx, .int .i64 ty]] H (fun v H' => v = .tup [.agg [.int .i64 (aimT x y h tx ty), .int .i64 (aimF x y h tx ty)], .int .i64 (aimE x y h tx ty)] ∧ H' = H) := by
  have hcl := clip_r (delI h (towI x y tx ty))
  refine AcT true Tryz.func108 ?_; intro hbel Q hQ
  have g'8 := @hcl
  refine runTf g'8 ?_
  refine call_v (by kernel_rfl) (mwithin_c _ h 0 255) ?_
  refine runTf g'8 ?_
  refine cond_split (fun h1 => ?_) (fun h1 => ?_)
  · have h1d := bsT h1
    have hfinE0 : aimE x y h tx ty = 1 := if_neg (by simp [h1d])
    have hfinT0 : aimT x y h tx ty = 0 := if_neg (by rw [hfinE0]; decide)
    have hfinF0 : aimF x y h tx ty = 0 := if_neg (fun hh => by rw [hfinE0] at hh; exact absurd hh.1 (by decide))
    have g'9 := (jn @h1 (jn @h1d g'8))
    refine runTf g'9 ?_
    exact hQ _ _ (end_plain (.inl rfl) hbel (x := .tup [.agg [.int .i64 0, .int .i64 0], .int .i64 1]) (resT Tryz.results108) rfl ⟨by first | (rw [hfinE0, hfinT0, hfinF0]; done) | (rw [hfinE, hfinT, hfinF0]; done) | (rw [hfinE, hfinT, hfinF, hfinN]; first | done | rfl), rfl⟩)
  · have h1d := bsT h1
    have hbt : btw h 0 255 = true := h1d
    have hbi := btw_iff.1 hbt
    have hae : aimE x y h tx ty = towE x y tx ty := if_pos hbt
    have g'10 := (jn @h1 (jn @h1d g'8))
    refine runTf g'10 ?_
    refine call_v (by kernel_rfl) (toward_c _ x y tx ty) ?_
    refine runTf g'10 ?_
    refine cond_split (fun h2 => ?_) (fun h2 => ?_)
    · have h2d := bsT h2
      have h2n := bnT h2
      have hne : ¬ towE x y tx ty = 0 := by simpa using h2d
      have hfinE0 := hae
      have hfinT0 : aimT x y h tx ty = 0 := if_neg (by rw [hae]; exact hne)
      have hfinF0 : aimF x y h tx ty = 0 := if_neg (fun hh => hne (by rw [← hae]; exact hh.1))
      have g'11 := (jn @h2 (jn @h2n (jn @int_bne (jn @int_beq g'10))))
      refine runTf g'11 ?_
      exact hQ _ _ (end_plain (.inl rfl) hbel (x := .tup [.agg [.int .i64 0, .int .i64 0], .int .i64 (towE x y tx ty)]) (resT Tryz.results108) rfl ⟨by first | (rw [hfinE0, hfinT0, hfinF0]; done) | (rw [hfinE, hfinT, hfinF0]; done) | (rw [hfinE, hfinT, hfinF, hfinN]; first | done | rfl), rfl⟩)
    · have h2d := bsT h2
      have h2n := bnT h2
      have he0 : towE x y tx ty = 0 := by simpa using h2d
      obtain ⟨hp1, hp2, hpd, -⟩ := towE0 he0
      obtain ⟨hm, -, -⟩ := tow_bey he0
      have hq1 := mul_bd (a := tx - x) (b := tx - x) (A := 2097152) (B := 2097152) (by omega) (by omega)
      have hq2 := mul_bd (a := ty - y) (b := ty - y) (A := 2097152) (B := 2097152) (by omega) (by omega)
      have hfinE : aimE x y h tx ty = 0 := by rw [hae]; exact he0
      have hfinT : aimT x y h tx ty = clipI (delI h (towI x y tx ty)) := if_pos hfinE
      have g'12 := (jn @h2 (jn @h2n (jn @int_bne (jn @int_beq g'10))))
      refine runTf g'12 ?_
      refine call_v (by kernel_rfl) (delta_c _ h (towI x y tx ty) (by omega) (by omega)) ?_
      refine runTf g'12 ?_
      refine call_v (by kernel_rfl) (mwithin_c _ (delI h (towI x y tx ty)) (-8) 8) ?_
      refine runTf g'12 ?_
      refine cond_split (fun h3 => ?_) (fun h3 => ?_)
      · have h3d := bsT h3
        have hfinF0 : aimF x y h tx ty = 0 := if_neg (fun hh => by rw [hh.2] at h3d; exact absurd h3d (by decide))
        have g'13 := (jn @h3 (jn @h3d g'12))
        refine runTf g'13 ?_
        exact hQ _ _ (end_plain (.inl rfl) hbel (x := .tup [.agg [.int .i64 (clipI (delI h (towI x y tx ty))), .int .i64 0], .int .i64 0]) (resT Tryz.results108) rfl ⟨by first | (rw [hfinE0, hfinT0, hfinF0]; done) | (rw [hfinE, hfinT, hfinF0]; done) | (rw [hfinE, hfinT, hfinF, hfinN]; first | done | rfl), rfl⟩)
      · have h3d := bsT h3
        have hfinF : aimF x y h tx ty = ((fwM (((tx - x) * (tx - x)) + ((ty - y) * (ty - y))) 32 0 : Nat) : Int) := if_pos ⟨hfinE, h3d⟩
        have g'14 := (jn @h3 (jn @h3d g'12))
        refine runTf g'14 ?_
        refine go_loop try_mixed (by kernel_rfl) (fun k F Hx => ∃ n : Nat, n + k = 32 ∧ fwM (((tx - x) * (tx - x)) + ((ty - y) * (ty - y))) k n = fwM (((tx - x) * (tx - x)) + ((ty - y) * (ty - y))) 32 0 ∧ F = [(4, .ptr (some (H.length, 0))), (10, .ptr (some (H.length + 1, 0))), (11, .int .i64 (tx - x)), (12, .int .i64 (ty - y))] ∧ Hx = H ++ [.cells true 0 [.int .i64 0, .int .i64 0], .cells true 0 [.int .i64 (clipI (delI h (towI x y tx ty))), .int .i64 ((n : Nat) : Int)]]) (32) ?_ ?_
        · refine ⟨_, _, _, ⟨0, by omega, rfl, rfl, rfl⟩, Abs.byG hbel [] rfl [2, 4] (by decide) ?_⟩
          exact absWf @Int.natCast_zero
        · rintro k0 F Hx ⟨n, hm0, hf, rfl, rfl⟩ J0 hJ0
          refine runTf g'14 ?_
          refine gd_split (fun h4 => ?_) (fun h4 => ?_)
          · have h4d := bsT h4
            have hnn := mul_bd (a := ((n : Nat) : Int) + 1) (b := ((n : Nat) : Int) + 1) (A := 33) (B := 33) (by omega) (by omega)
            have g'15 := (jn @h4 (jn @h4d g'14))
            refine runTf g'15 ?_
            refine cond_split (fun h5 => ?_) (fun h5 => ?_)
            · have h5d := bsT h5
              have hgo := h5d
              have g'16 := (jn @h5 (jn @h5d g'15))
              refine runTf g'16 ?_
              refine hJ0 _ _ ⟨k0 - 1, by omega, _, _, _, ⟨n + 1, by omega, by rw [← hf]; exact (fwM_go (by omega) hgo).symm, rfl, rfl⟩, Abs.byG hbel [] rfl [0, 1] (by decide) ?_⟩
              exact absWf (jn @Int.natCast_add @Int.natCast_one)
            · have h5d := bsT h5
              have hfinN : fwM (((tx - x) * (tx - x)) + ((ty - y) * (ty - y))) 32 0 = n := by rw [← hf]; exact fwM_stop (by omega)
              have g'17 := (jn @h5 (jn @h5d g'15))
              refine runTf g'17 ?_
              exact hQ _ _ (end_plain (.inl rfl) hbel (x := .tup [.agg [.int .i64 (clipI (delI h (towI x y tx ty))), .int .i64 ((n : Nat) : Int)], .int .i64 0]) (resT Tryz.results108) rfl ⟨by first | (rw [hfinE0, hfinT0, hfinF0]; done) | (rw [hfinE, hfinT, hfinF0]; done) | (rw [hfinE, hfinT, hfinF, hfinN]; first | done | rfl), rfl⟩)
          · have h4d := bsT h4
            obtain rfl : n = 32 := by omega
            have hfinN : fwM (((tx - x) * (tx - x)) + ((ty - y) * (ty - y))) 32 0 = 32 := by rw [← hf, show k0 = 0 by omega]; rfl
            have g'18 := (jn @h4 (jn @h4d g'14))
            refine runTf g'18 ?_
            exact hQ _ _ (end_plain (.inl rfl) hbel (x := .tup [.agg [.int .i64 (clipI (delI h (towI x y tx ty))), .int .i64 32], .int .i64 0]) (resT Tryz.results108) rfl ⟨by first | (rw [hfinE0, hfinT0, hfinF0]; done) | (rw [hfinE, hfinT, hfinF0]; done) | (rw [hfinE, hfinT, hfinF, hfinN]; first | done | rfl), rfl⟩)
open Go.RowKit
def errB (eT eL eX eY : Int) : Bool := within eT 64 && (within eL 64 && (within eX 64 && within eY 64))
def nhI (ah t eT : Int) : Int := (((((ah + t) + eT) % 256).toNat : Nat) : Int)
def rwX (ax h f eL eX : Int) : Int := if f = 0 then ax else ax + (wayX h (mxI (f + eL) 0) + eX)
def rwY (ay h f eL eY : Int) : Int := if f = 0 then ay else ay + (wayY h (mxI (f + eL) 0) + eY)
/-- The pose after a motion, and the error. -/
def nxE (ax ay ah t f eT eL eX eY : Int) : Int := if (poseB ax ay ah && cmdB t f) = true then (if errB eT eL eX eY = true then (if f = 0 then 0 else if poseB (rwX ax (nhI ah t eT) f eL eX) (rwY ay (nhI ah t eT) f eL eY) (nhI ah t eT) = true then 0 else 2) else 2) else 1
def nxX (ax ay ah t f eT eL eX eY : Int) : Int := if nxE ax ay ah t f eT eL eX eY = 0 then rwX ax (nhI ah t eT) f eL eX else 0
def nxY (ax ay ah t f eT eL eX eY : Int) : Int := if nxE ax ay ah t f eT eL eX eY = 0 then rwY ay (nhI ah t eT) f eL eY else 0
def nxH (ax ay ah t f eT eL eX eY : Int) : Int := if nxE ax ay ah t f eT eL eX eY = 0 then nhI ah t eT else 0
theorem nx_err {ax ay ah t f eT eL eX eY : Int} {e : Int} (h : nxE ax ay ah t f eT eL eX eY = e) (he : ¬ e = 0) : nxX ax ay ah t f eT eL eX eY = 0 ∧ nxY ax ay ah t f eT eL eX eY = 0 ∧ nxH ax ay ah t f eT eL eX eY = 0 := ⟨if_neg (by rw [h]; exact he), if_neg (by rw [h]; exact he), if_neg (by rw [h]; exact he)⟩
theorem nx_ok {ax ay ah t f eT eL eX eY : Int} (h : nxE ax ay ah t f eT eL eX eY = 0) : nxX ax ay ah t f eT eL eX eY = rwX ax (nhI ah t eT) f eL eX ∧ nxY ax ay ah t f eT eL eX eY = rwY ay (nhI ah t eT) f eL eY ∧ nxH ax ay ah t f eT eL eX eY = nhI ah t eT := ⟨if_pos h, if_pos h, if_pos h⟩
theorem clg_bd {n k : Int} (hk : 0 ≤ k) : -k ≤ clgI n (0 - k) k ∧ clgI n (0 - k) k ≤ k := by
  unfold clgI; repeat' split
  all_goals omega
theorem next_way {ax ay ah t f eT eL eX eY le sl : Int} (h : nxE ax ay ah t f eT eL eX eY = 0) (hf : 0 ≤ f) (h1 : -le ≤ eL ∧ eL ≤ le) (h2 : -sl ≤ eX ∧ eX ≤ sl) (h3 : -sl ≤ eY ∧ eY ≤ sl) : WayP (nxH ax ay ah t f eT eL eX eY) f le sl (nxX ax ay ah t f eT eL eX eY - ax) (nxY ax ay ah t f eT eL eX eY - ay) := by
  obtain ⟨e1, e2, e3⟩ := nx_ok h
  rw [e1, e2, e3]
  unfold rwX rwY
  by_cases h0 : f = 0
  · left; rw [if_pos h0, if_pos h0]; omega
  · right; rw [if_neg h0, if_neg h0]
    refine ⟨by omega, mxI (f + eL) 0, eX, eY, by unfold mxI; split <;> omega, h2, h3, by omega, by omega⟩
theorem nx_dist {ax ay ah t f eT eL eX eY : Int} (h : nxE ax ay ah t f eT eL eX eY = 0) : (-1024 ≤ ax - nxX ax ay ah t f eT eL eX eY ∧ ax - nxX ax ay ah t f eT eL eX eY ≤ 1024) ∧ -1024 ≤ ay - nxY ax ay ah t f eT eL eX eY ∧ ay - nxY ax ay ah t f eT eL eX eY ≤ 1024 := by
  obtain ⟨e1, e2, -⟩ := nx_ok h
  have hg : errB eT eL eX eY = true ∧ cmdB t f = true := by
    unfold nxE at h; split at h
    · rename_i hc
      rw [Bool.and_eq_true] at hc
      split at h
      · rename_i he; exact ⟨he, hc.2⟩
      · omega
    · omega
  unfold errB cmdB at hg
  simp only [Bool.and_eq_true, within_iff, btw_iff] at hg
  rw [e1, e2]
  have hw := way_bd (nhI ah t eT) (m := mxI (f + eL) 0) (by unfold mxI; split <;> omega)
  have hm : mxI (f + eL) 0 ≤ 96 := by unfold mxI; split <;> omega
  unfold rwX rwY
  split <;> omega
theorem nx_pose {ax ay ah t f eT eL eX eY : Int} (h : nxE ax ay ah t f eT eL eX eY = 0) (ha : poseB ax ay ah = true) : poseB (nxX ax ay ah t f eT eL eX eY) (nxY ax ay ah t f eT eL eX eY) (nxH ax ay ah t f eT eL eX eY) = true := by
  obtain ⟨e1, e2, e3⟩ := nx_ok h
  rw [e1, e2, e3]
  unfold nxE at h
  split at h
  · split at h
    · split at h
      · rename_i h0
        unfold rwX rwY; rw [if_pos h0, if_pos h0]
        have := poseB_iff.1 ha
        exact poseB_iff.2 ⟨this.1, btw_iff.2 (by unfold nhI; omega)⟩
      · split at h
        · assumption
        · omega
    · omega
  · omega
open Go.RowKit
def bldB (W Hh : Int) (xs : List Int) : Bool := vldB W Hh xs && !(xs.any fun v => v == 0)
theorem bld_c (H : AHeap) (W : Int) (Hh : Int) (pp : AV) (xs : List Int) (hpp : Sl H 1 pp xs.length (ints .u8 xs)) : ACalls Tryz.prog 16 [.agg [.int .i64 W, .int .i64 Hh, pp]] H (fun v H' => v = .bool (bldB W Hh xs) ∧ H' = H) := by
  obtain ⟨bpp, opp, cpp, rfl, hbpp⟩ := hpp
  have hblpp := getElem?_lt hbpp
  have hb0pp := fun l => get_app (l := l) hbpp
  refine AcT true Tryz.func16 ?_; intro hbel Q hQ
  have g'1 := (jn @hbpp @hb0pp)
  refine runTf g'1 ?_
  refine call_v (by kernel_rfl) (rplan_a _ W Hh _ xs (.inr ⟨_, _, _, rfl, by first | exact hb0pp _ | exact hbpp⟩)) ?_
  refine runTf g'1 ?_
  refine cond_split (fun h1 => ?_) (fun h1 => ?_)
  · have h1d := bsT h1
    have hfinD : bldB W Hh xs = false := by unfold bldB; rw [h1d]; rfl
    have g'2 := (jn @h1 (jn @h1d g'1))
    refine runTf g'2 ?_
    exact hQ _ _ (end_plain (.inl rfl) hbel (x := .bool false) (resT Tryz.results16) rfl ⟨by first | (rw [hfinD]; done) | (unfold bldB; simp [h1d, hfinD]; done), rfl⟩)
  · have h1d := bsT h1
    have hV := h1d
    have hVl := vld_iff.1 hV
    have g'3 := (jn @h1 (jn @h1d g'1))
    refine runTf g'3 ?_
    refine go_loop try_mixed (by kernel_rfl) (fun k F Hx => ∃ i : Nat, i + k = xs.length ∧ (∀ j : Nat, j < i → ¬ gi xs j = 0) ∧ F = [(1, .ptr (some (H.length, 0))), (3, .int .i64 ((i : Nat) : Int))] ∧ Hx = H ++ [.cells true 0 [.int .i64 W, .int .i64 Hh, .sl (some (bpp, 0)) xs.length cpp]]) (xs.length) ?_ ?_
    · refine ⟨_, _, _, ⟨0, by omega, fun j h => by omega, rfl, rfl⟩, Abs.byG hbel [] rfl [0] (by decide) ?_⟩
      exact absW
    · rintro k0 F Hx ⟨i, hm0, hal, rfl, rfl⟩ J0 hJ0
      have hl4 := hVl.len
      have hl5 := hVl.pos
      refine runTf g'3 ?_
      refine cond_split (fun h2 => ?_) (fun h2 => ?_)
      · have h2d := bsT h2
        have q3 := ints_get (k := .u8) (xs := xs) (j := i) (by omega)
        have g'4 := (jn @h2 (jn @h2d (jn @q3 g'3)))
        refine runTf g'4 ?_
        refine cond_split (fun h4 => ?_) (fun h4 => ?_)
        · have h4d := bsT h4
          have h4n := bnT h4
          have hfinD : bldB W Hh xs = false := by
            unfold bldB
            have e : xs.any (fun v => v == 0) = true := List.any_eq_true.2 ⟨xs[i]'(by omega), List.getElem_mem _, by rw [← gi_eq (show i < xs.length by omega)]; simpa using h4d⟩
            rw [e]; simp
          have g'5 := (jn @h4 (jn @h4n (jn @int_bne (jn @int_beq g'4))))
          refine runTf g'5 ?_
          exact hQ _ _ (end_plain (.inl rfl) hbel (x := .bool false) (resT Tryz.results16) rfl ⟨by first | (rw [hfinD]; done) | (unfold bldB; simp [h1d, h2d, h4d, hfinD]; done), rfl⟩)
        · have h4d := bsT h4
          have h4n := bnT h4
          have hnz : ¬ gi xs i = 0 := by simpa using h4d
          have g'6 := (jn @h4 (jn @h4n (jn @int_bne (jn @int_beq g'4))))
          refine runTf g'6 ?_
          refine hJ0 _ _ ⟨k0 - 1, by omega, _, _, _, ⟨i + 1, by omega, fun j hj => by
                      rcases Nat.lt_or_ge j i with hji | hji
                      · exact hal j hji
                      · rw [show j = i by omega]; exact hnz, rfl, rfl⟩, Abs.byG hbel [] rfl [0] (by decide) ?_⟩
          exact absW
      · have h2d := bsT h2
        have hfinD : bldB W Hh xs = true := by
          unfold bldB
          have e : xs.any (fun v => v == 0) = false := List.any_eq_false.2 fun v hv => by
            obtain ⟨j, hj, rfl⟩ := List.mem_iff_getElem.1 hv
            rw [← gi_eq hj]; simpa using hal j (by omega)
          rw [e, hV]; rfl
        have g'7 := (jn @h2 (jn @h2d g'3))
        refine runTf g'7 ?_
        exact hQ _ _ (end_plain (.inl rfl) hbel (x := .bool true) (resT Tryz.results16) rfl ⟨by first | (rw [hfinD]; done) | (unfold bldB; simp [h1d, h2d, hfinD]; done), rfl⟩)
open Go.RowKit
open Go.RowKit
section
variable {P : Program} {H : AHeap} {n : Nat}
end
set_option linter.unusedSimpArgs false
set_option linter.unusedVariables false
open Go.RowKit
open Go.RowKit
open Go.RowKit
open Go.RowKit
open Go.RowKit
set_option maxHeartbeats 4000000
set_option maxRecDepth 100000
def mkV (b : Bool) (n : Int) : Int := if b = true then n else 0
theorem snear_c (H : AHeap) (n : Int) : ACalls Tryz.prog 283 [.int .i64 n] H (fun v H' => v = .bool (within n 2097152) ∧ H' = H) := by
  refine AcT true Tryz.func283 ?_; intro hbel Q hQ
  refine runT ?_
  refine gd_split (fun h1 => ?_) (fun h1 => ?_)
  · have h1d := bsT h1
    have g'1 := (jn @h1 @h1d)
    refine runTf g'1 ?_
    exact hQ _ _ (end_plain0 (.inl rfl) hbel (x := .bool (decide (n ≤ 2097152))) (resT Tryz.results283) rfl ⟨by simp [within, h1d], rfl⟩)
  · have h1d := bsT h1
    have g'2 := (jn @h1 @h1d)
    refine runTf g'2 ?_
    exact hQ _ _ (end_plain0 (.inl rfl) hbel (x := .bool false) (resT Tryz.results283) rfl ⟨by simp [within, h1d], rfl⟩)
theorem svpt_c (H : AHeap) (x : Int) (y : Int) : ACalls Tryz.prog 211 [.agg [.int .i64 x, .int .i64 y]] H (fun v H' => v = .bool (lnP x y) ∧ H' = H) := by
  refine AcT true Tryz.func211 ?_; intro hbel Q hQ
  refine runT ?_
  refine call_v (by kernel_rfl) (snear_c _ x) ?_
  refine runT ?_
  refine gd_split (fun h1 => ?_) (fun h1 => ?_)
  · have h1d := bsT h1
    have g'3 := (jn @h1 @h1d)
    refine runTf g'3 ?_
    refine call_v (by kernel_rfl) (snear_c _ y) ?_
    refine runTf g'3 ?_
    exact hQ _ _ (end_plain (.inl rfl) hbel (x := .bool (within y 2097152)) (resT Tryz.results211) rfl ⟨by simp [lnP, h1d], rfl⟩)
  · have h1d := bsT h1
    have g'4 := (jn @h1 @h1d)
    refine runTf g'4 ?_
    exact hQ _ _ (end_plain (.inl rfl) hbel (x := .bool false) (resT Tryz.results211) rfl ⟨by simp [lnP, h1d], rfl⟩)
theorem svrc_c (H : AHeap) (x0 : Int) (y0 : Int) (x1 : Int) (y1 : Int) : ACalls Tryz.prog 212 [.agg [.int .i64 x0, .int .i64 y0, .int .i64 x1, .int .i64 y1]] H (fun v H' => v = .bool (lnR x0 y0 x1 y1) ∧ H' = H) := by
  refine AcT true Tryz.func212 ?_; intro hbel Q hQ
  refine runT ?_
  refine call_v (by kernel_rfl) (snear_c _ x0) ?_
  refine runT ?_
  refine gd_split (fun h1 => ?_) (fun h1 => ?_)
  · have h1d := bsT h1
    have wx0 := within_iff.1 h1d
    have g'17 := (jn @h1 @h1d)
    refine runTf g'17 ?_
    refine call_v (by kernel_rfl) (snear_c _ y0) ?_
    refine runTf g'17 ?_
    refine gd_split (fun h2 => ?_) (fun h2 => ?_)
    · have h2d := bsT h2
      have wy0 := within_iff.1 h2d
      have g'18 := (jn @h2 (jn @h2d g'17))
      refine runTf g'18 ?_
      refine call_v (by kernel_rfl) (snear_c _ x1) ?_
      refine runTf g'18 ?_
      refine gd_split (fun h3 => ?_) (fun h3 => ?_)
      · have h3d := bsT h3
        have wx1 := within_iff.1 h3d
        have g'19 := (jn @h3 (jn @h3d g'18))
        refine runTf g'19 ?_
        refine call_v (by kernel_rfl) (snear_c _ y1) ?_
        refine runTf g'19 ?_
        refine gd_split (fun h4 => ?_) (fun h4 => ?_)
        · have h4d := bsT h4
          have wy1 := within_iff.1 h4d
          have g'20 := (jn @h4 (jn @h4d g'19))
          refine runTf g'20 ?_
          refine gd_split (fun h5 => ?_) (fun h5 => ?_)
          · have h5d := bsT h5
            have g'21 := (jn @h5 (jn @h5d g'20))
            refine runTf g'21 ?_
            exact hQ _ _ (end_plain (.inl rfl) hbel (x := .bool (decide (y0 ≤ y1))) (resT Tryz.results212) rfl ⟨by first | (refine congrArg AV.bool ?_; rw [Bool.eq_iff_iff, lnR_iff, decide_eq_true_eq]; omega) | (refine congrArg AV.bool ?_; rw [Bool.eq_iff_iff, lnR_iff]; exact ⟨fun e => (by cases e), fun k => (by omega)⟩), rfl⟩)
          · have h5d := bsT h5
            have g'22 := (jn @h5 (jn @h5d g'20))
            refine runTf g'22 ?_
            exact hQ _ _ (end_plain (.inl rfl) hbel (x := .bool false) (resT Tryz.results212) rfl ⟨by first | (refine congrArg AV.bool ?_; rw [Bool.eq_iff_iff, lnR_iff, decide_eq_true_eq]; omega) | (refine congrArg AV.bool ?_; rw [Bool.eq_iff_iff, lnR_iff]; exact ⟨fun e => (by cases e), fun k => (by omega)⟩), rfl⟩)
        · have h4d := bsT h4
          have wy1 : ¬ (-2097152 ≤ y1 ∧ y1 ≤ 2097152) := mt within_iff.2 (by rw [h4d]; decide)
          have g'23 := (jn @h4 (jn @h4d g'19))
          refine runTf g'23 ?_
          exact hQ _ _ (end_plain (.inl rfl) hbel (x := .bool false) (resT Tryz.results212) rfl ⟨by first | (refine congrArg AV.bool ?_; rw [Bool.eq_iff_iff, lnR_iff, decide_eq_true_eq]; omega) | (refine congrArg AV.bool ?_; rw [Bool.eq_iff_iff, lnR_iff]; exact ⟨fun e => (by cases e), fun k => (by omega)⟩), rfl⟩)
      · have h3d := bsT h3
        have wx1 : ¬ (-2097152 ≤ x1 ∧ x1 ≤ 2097152) := mt within_iff.2 (by rw [h3d]; decide)
        have g'24 := (jn @h3 (jn @h3d g'18))
        refine runTf g'24 ?_
        exact hQ _ _ (end_plain (.inl rfl) hbel (x := .bool false) (resT Tryz.results212) rfl ⟨by first | (refine congrArg AV.bool ?_; rw [Bool.eq_iff_iff, lnR_iff, decide_eq_true_eq]; omega) | (refine congrArg AV.bool ?_; rw [Bool.eq_iff_iff, lnR_iff]; exact ⟨fun e => (by cases e), fun k => (by omega)⟩), rfl⟩)
    · have h2d := bsT h2
      have wy0 : ¬ (-2097152 ≤ y0 ∧ y0 ≤ 2097152) := mt within_iff.2 (by rw [h2d]; decide)
      have g'25 := (jn @h2 (jn @h2d g'17))
      refine runTf g'25 ?_
      exact hQ _ _ (end_plain (.inl rfl) hbel (x := .bool false) (resT Tryz.results212) rfl ⟨by first | (refine congrArg AV.bool ?_; rw [Bool.eq_iff_iff, lnR_iff, decide_eq_true_eq]; omega) | (refine congrArg AV.bool ?_; rw [Bool.eq_iff_iff, lnR_iff]; exact ⟨fun e => (by cases e), fun k => (by omega)⟩), rfl⟩)
  · have h1d := bsT h1
    have wx0 : ¬ (-2097152 ≤ x0 ∧ x0 ≤ 2097152) := mt within_iff.2 (by rw [h1d]; decide)
    have g'26 := (jn @h1 @h1d)
    refine runTf g'26 ?_
    exact hQ _ _ (end_plain (.inl rfl) hbel (x := .bool false) (resT Tryz.results212) rfl ⟨by first | (refine congrArg AV.bool ?_; rw [Bool.eq_iff_iff, lnR_iff, decide_eq_true_eq]; omega) | (refine congrArg AV.bool ?_; rw [Bool.eq_iff_iff, lnR_iff]; exact ⟨fun e => (by cases e), fun k => (by omega)⟩), rfl⟩)
open Go.RowKit
theorem psquare_c (H : AHeap) (x : Int) (y : Int) (kbx : -2097152 ≤ x ∧ x ≤ 2097152) (kby : -2097152 ≤ y ∧ y ≤ 2097152) : ACalls Tryz.prog 210 [.agg [.int .i64 x, .int .i64 y]] H (fun v H' => v = .agg [.int .i64 (x * 64), .int .i64 (y * 64), .int .i64 (x * 64 + 64), .int .i64 (y * 64 + 64)] ∧ H' = H) := by
  refine AcT true Tryz.func210 ?_; intro hbel Q hQ
  refine runT ?_
  exact hQ _ _ (end_plain (.inl rfl) hbel (x := .agg [.int .i64 (x * 64), .int .i64 (y * 64), .int .i64 ((x * 64) + 64), .int .i64 ((y * 64) + 64)]) (resT Tryz.results210) rfl ⟨rfl, rfl⟩)
open Go.RowKit
def sqO (x y : Int) : Bool := within x 16384 && within y 16384
open Go.RowKit
def leC (a b : Int × Int) : Prop := a = b ∨ befP a b
instance (a b : Int × Int) : Decidable (befP a b) := by unfold befP; infer_instance
instance (a b : Int × Int) : Decidable (leC a b) := by unfold leC; infer_instance
open Go.RowKit
open Go.RowKit
open Go.RowKit
/-- What is known of a plan: each cell is not known, or as it is. -/
def BelP (ks xs : List Int) : Prop := ks.length = xs.length ∧ ∀ i : Nat, gi ks i = 0 ∨ gi ks i = gi xs i
theorem bel_free {W H x y : Int} {ks xs : List Int} (h : BelP ks xs) (k : atI W H ks x y = 1) : atI W H xs x y = 1 := by
  unfold atI at *
  split at k
  · rename_i hi
    rw [if_pos hi]
    rcases h.2 (y * W + x).toNat with q | q <;> omega
  · omega
theorem bel_vld {W H : Int} {ks xs : List Int} (h : BelP ks xs) (v : vldB W H xs = true) : vldB W H ks = true := by
  obtain ⟨a, b, c, d, e, f⟩ := vld_iff.1 v
  refine vld_iff.2 ⟨a, b, c, d, by rw [h.1]; exact e, fun v hv => ?_⟩
  obtain ⟨j, hj, rfl⟩ := List.mem_iff_getElem.1 hv
  rw [← gi_eq hj]
  rcases h.2 j with q | q
  · omega
  · rw [q]
    have hj' : j < xs.length := by rw [← h.1]; exact hj
    rw [gi_eq hj']; exact f _ (List.getElem_mem _)
theorem gi_setL {xs : List Int} {i j : Nat} {v : Int} (h : i < xs.length) : gi (xs.set i v) j = if i = j then v else gi xs j := by
  by_cases e : i = j
  · subst e; simp [gi, List.getD_eq_getElem?_getD, h]
  · simp [gi, List.getD_eq_getElem?_getD, e]
section
variable {W Hh : Int} {xs : List Int} {l : List T6} {sc : List (Int × Int)} {g : Int}
end
set_option linter.unusedSimpArgs false
set_option linter.unusedVariables false
open Go.RowKit
/-- A pose is in a box, as the program tests it. -/
def hsgB (f c h : Int) : Bool := arcB f c && decide ((((IntKind.i64.wrap (h - f) % 256).toNat : Nat) : Int) < c)
def hbB (x y h : Int) (b : T6) : Bool := bxB b.1 b.2.1 b.2.2.1 b.2.2.2.1 b.2.2.2.2.1 b.2.2.2.2.2 && (decide (b.1 ≤ x) && (decide (x ≤ b.2.2.1) && (decide (b.2.1 ≤ y) && (decide (y ≤ b.2.2.2.1) && hsgB b.2.2.2.2.1 b.2.2.2.2.2 h))))
def covB (l : List T6) (x y h : Int) : Bool := l.any (hbB x y h)
theorem covB_iff {l : List T6} {x y h : Int} (hh : 0 ≤ h ∧ h ≤ 255) (k : covB l x y h = true) : ∃ b ∈ l, (b.1 ≤ x ∧ x ≤ b.2.2.1) ∧ (b.2.1 ≤ y ∧ y ≤ b.2.2.2.1) ∧ inArc b.2.2.2.2.1 b.2.2.2.2.2 h ∧ arcB b.2.2.2.2.1 b.2.2.2.2.2 = true := by
  obtain ⟨b, hb, hk⟩ := List.any_eq_true.1 k
  unfold hbB hsgB at hk
  simp only [Bool.and_eq_true, decide_eq_true_eq] at hk
  obtain ⟨-, h1, h2, h3, h4, h5, h6⟩ := hk
  have ha := arcB_iff.1 h5
  rw [wrap_in (by omega) (by omega)] at h6
  exact ⟨b, hb, by omega, by omega, by unfold inArc; omega, h5⟩
def narB (l : List T6) : Bool := (l.all fun b => decide (b.2.2.2.2.2 ≤ 6)) && decide (l.length ≤ 3)
theorem narB_len {l : List T6} (h : narB l = true) : l.length ≤ 3 := by
  unfold narB at h; rw [Bool.and_eq_true, decide_eq_true_eq] at h; exact h.2
theorem nar_f {l : List T6} {i : Nat} (hi : i < l.length) (h : 6 < g66 l i) : narB l = false := by
  unfold narB
  rw [Bool.and_eq_false_iff]; left
  rw [← Bool.not_eq_true, List.all_eq_true]
  intro k
  have := k (g6 l i) (g6_mem hi)
  have q : g66 l i ≤ 6 := of_decide_eq_true this
  omega
theorem nar_e {l : List T6} (h : ∀ j : Nat, j < l.length → ¬ 6 < g66 l j) : narB l = decide ((l.length : Int) ≤ 3) := by
  unfold narB
  have e : (l.all fun b => decide (b.2.2.2.2.2 ≤ 6)) = true := List.all_eq_true.2 fun b hb => by
    obtain ⟨j, hj, rfl⟩ := List.mem_iff_getElem.1 hb
    have k := h j hj
    rw [← g6_eq hj]
    exact decide_eq_true (by have : g66 l j ≤ 6 := by omega
                             exact this)
  rw [e, Bool.true_and, decide_eq_decide]
  omega
open Go.RowKit
/-- A cell that is touched on the way is among the cells that the sweep touches, if there is no error. -/
theorem cell_in2 {x0 y0 x1 y1 h t f tu le sl ra px py dx dy cx cy : Int} (he : sweE x0 y0 x1 y1 h t f tu le sl ra = 0) (hE : stE x0 y0 x1 y1 h t f tu le sl ra = 0) (hpx : x0 ≤ px ∧ px ≤ x1) (hpy : y0 ≤ py ∧ py ≤ y1) (hwy : WayP h f le sl dx dy) (ht : TouP px py (px + dx) (py + dy) (cx * 64) (cy * 64)) : (cx, cy) ∈ stL x0 y0 x1 y1 h t f tu le sl ra := by
  have hB : sweB x0 y0 x1 y1 t f tu le sl ra = true := by
    unfold sweE at he; split at he
    · assumption
    · omega
  have bd := swe_bd hB
  have eX : swX x0 y0 x1 y1 h t f tu le sl ra = sweX x0 x1 h f le := if_pos he
  have eY : swY x0 y0 x1 y1 h t f tu le sl ra = sweY y0 y1 h f le := if_pos he
  have eL : swL x0 y0 x1 y1 h t f tu le sl ra = sweL x0 y0 x1 y1 h f le sl := if_pos he
  have hw := ww_bd h (f := f) (le := le) (by omega) (by omega)
  have hhl : 20 ≤ hlf f sl ∧ hlf f sl ≤ 29 := by unfold hlf; split <;> omega
  have s1 := spr_sw (1, 0) (h := h) (f := f) (le := le) (sl := sl) (show x0 ≤ x1 by omega) (show y0 ≤ y1 by omega) (by omega)
  have s2 := spr_sw (0, 1) (h := h) (f := f) (le := le) (sl := sl) (show x0 ≤ x1 by omega) (show y0 ≤ y1 by omega) (by omega)
  simp only [show absI 1 = 1 from rfl, show absI 0 = 0 from rfl, Int.one_mul, Int.zero_mul, Int.add_zero, Int.zero_add] at s1 s2
  have b1 := absI_bd (x := wwX h f le) (M := 48) hw.1
  have b2 := absI_bd (x := wwY h f le) (M := 48) hw.2
  have esx : sweX x0 x1 h f le = x0 + x1 + wwX h f le := rfl
  have esy : sweY y0 y1 h f le = y0 + y1 + wwY h f le := rfl
  have hv : validB (sweX x0 x1 h f le) (sweY y0 y1 h f le) (sweL x0 y0 x1 y1 h f le sl) = true := by
    unfold sweL at s1 s2 ⊢
    rw [spr_canon] at s1 s2
    refine canon_valid (by omega) (by omega) ?_ (by omega) (by omega)
    unfold recL wayL sqrL
    split <;> simp
  generalize hS1 : spr (1, 0) (sweL x0 y0 x1 y1 h f le sl) = S1 at *
  generalize hS2 : spr (0, 1) (sweL x0 y0 x1 y1 h f le sl) = S2 at *
  have hab1 : (sweX x0 x1 h f le - S1) / 2 ≤ 0 - (0 - (sweX x0 x1 h f le + S1)) / 2 := by omega
  have hab2 : (sweY y0 y1 h f le - S2) / 2 ≤ 0 - (0 - (sweY y0 y1 h f le + S2)) / 2 := by omega
  have hle0 : 0 ≤ le ∧ 0 ≤ sl := by omega
  have hq : touF (sweX x0 x1 h f le) (sweY y0 y1 h f le) (sweL x0 y0 x1 y1 h f le sl) = 0 := by
    have hh := hE
    unfold stE touE at hh
    rw [eX, eY, eL, if_pos hv] at hh; exact hh
  have hq' : Unit → touF (sweX x0 x1 h f le) (sweY y0 y1 h f le) (sweL x0 y0 x1 y1 h f le sl) = 0 := fun _ => hq
  have hE' : Unit → stE x0 y0 x1 y1 h t f tu le sl ra = 0 := fun _ => hE
  clear hq hE
  have hna := not_apart hpx hpy hle0.1 hle0.2 hwy ht
  have n1 := hna (1, 0)
  have n2 := hna (0, 1)
  simp only [show absI 1 = 1 from rfl, show absI 0 = 0 from rfl, Int.one_mul, Int.zero_mul, Int.add_zero, Int.zero_add, hS1, hS2] at n1 n2
  rw [absI_le] at n1 n2
  have m1 : spl ((sweX x0 x1 h f le - S1) / 2) ≤ cx ∧ cx < spl ((sweX x0 x1 h f le - S1) / 2) + (celN ((sweX x0 x1 h f le - S1) / 2) (0 - (0 - (sweX x0 x1 h f le + S1)) / 2) : Int) := cel_mem (by clear hna n2 hwy ht he eX eY eL s1 s2; omega) (by clear hna n2 hwy ht he eX eY eL s1 s2; omega) hab1
  have m2 : spl ((sweY y0 y1 h f le - S2) / 2) ≤ cy ∧ cy < spl ((sweY y0 y1 h f le - S2) / 2) + (celN ((sweY y0 y1 h f le - S2) / 2) (0 - (0 - (sweY y0 y1 h f le + S2)) / 2) : Int) := cel_mem (by clear hna n1 hwy ht he eX eY eL s1 s2; omega) (by clear hna n1 hwy ht he eX eY eL s1 s2; omega) hab2
  have hL : stL x0 y0 x1 y1 h t f tu le sl ra = delL (apP (sweX x0 x1 h f le) (sweY y0 y1 h f le) (sweL x0 y0 x1 y1 h f le sl)) (touQ (sweX x0 x1 h f le) (sweY y0 y1 h f le) (sweL x0 y0 x1 y1 h f le sl)) := by
    have h1 : stL x0 y0 x1 y1 h t f tu le sl ra = delL (apP (swX x0 y0 x1 y1 h t f tu le sl ra) (swY x0 y0 x1 y1 h t f tu le sl ra) (swL x0 y0 x1 y1 h t f tu le sl ra)) (touC (swX x0 y0 x1 y1 h t f tu le sl ra) (swY x0 y0 x1 y1 h t f tu le sl ra) (swL x0 y0 x1 y1 h t f tu le sl ra)) := if_pos (hE' ())
    rw [h1, eX, eY, eL]
    unfold touC; rw [if_pos hv]
  rw [hL]
  unfold delL
  rw [List.mem_filter]
  constructor
  · have hG : touQ (sweX x0 x1 h f le) (sweY y0 y1 h f le) (sweL x0 y0 x1 y1 h f le sl) = cellsG ((sweX x0 x1 h f le - S1) / 2) ((sweY y0 y1 h f le - S2) / 2) (0 - (0 - (sweX x0 x1 h f le + S1)) / 2) (0 - (0 - (sweY y0 y1 h f le + S2)) / 2) := by
      have hq := hq' ()
      unfold touQ cellsR mkL
      unfold touF at hq
      rw [ifv_t hv, ifv_t hv, ifv_t hv, ifv_t hv, hS1, hS2] at hq ⊢
      exact if_pos hq
    rw [hG]
    unfold cellsG
    rw [gridR_mem]
    simp only
    exact ⟨m1, m2, rfl⟩
  · have hap : apP (sweX x0 x1 h f le) (sweY y0 y1 h f le) (sweL x0 y0 x1 y1 h f le sl) (cx, cy) = false := by
      unfold apP apartB
      simp only
      have e : (nrmls (canonL (sweL x0 y0 x1 y1 h f le sl ++ [((cx + 1) * 64 - cx * 64, 0), (0, (cy + 1) * 64 - cy * 64)]))).any (beyond (canonL (sweL x0 y0 x1 y1 h f le sl ++ [((cx + 1) * 64 - cx * 64, 0), (0, (cy + 1) * 64 - cy * 64)])) (cx * 64 + (cx + 1) * 64 - sweX x0 x1 h f le, cy * 64 + (cy + 1) * 64 - sweY y0 y1 h f le)) = false := by
        refine List.any_eq_false.2 fun n _ => ?_
        unfold beyond
        rw [decide_eq_false]
        · decide
        · rw [gen64, gen64, spr_canon, spr_app, spr_rec n (by decide) (by decide)]
          have k := hna n
          unfold dotP
          simp only
          rw [dbl64, dbl64]
          exact Int.not_lt.2 k
      rw [e]; simp
    rw [hap]; rfl
theorem mark_in2 {bf bc ah t e tu : Int} (hb : arcB bf bc = true) (hi : inArc bf bc ah) (ha : 0 ≤ ah ∧ ah ≤ 255) (ht : 0 ≤ tu ∧ tu ≤ 8) (he : -tu ≤ e ∧ e ≤ tu) : nhI ah t e ∈ mrkA bf bc t tu := by
  have hbi := arcB_iff.1 hb
  unfold inArc at hi
  unfold mrkA mrkL
  rw [List.mem_map]
  by_cases hc : 256 ≤ bc + 2 * tu
  · have e1 : 256 ≤ arcC bc + 2 * tu := by unfold arcC; split <;> omega
    have e2 : grC (arcC bc) tu = 256 := if_pos e1
    have e3 : grF (shF bf bc t) (arcC bc) tu = 0 := if_pos e1
    refine ⟨(nhI ah t e).toNat, List.mem_range.2 ?_, ?_⟩
    · rw [e2]; unfold nhI; omega
    · rw [e3]; unfold nhI; omega
  · have e0 : arcC bc = bc := if_neg (by omega)
    have e2 : grC (arcC bc) tu = bc + 2 * tu := by rw [e0]; exact if_neg hc
    have e4 : shF bf bc t = (bf + (((t % 256).toNat : Nat) : Int)) % 256 := if_neg (by omega)
    have e3 : grF (shF bf bc t) (arcC bc) tu = (shF bf bc t - tu) % 256 := by rw [e0]; exact if_neg hc
    refine ⟨(tu + e + (ah - bf) % 256).toNat, List.mem_range.2 ?_, ?_⟩
    · rw [e2]; omega
    · rw [e3, e4]; unfold nhI; clear e0 e2 e3 e4 hc; omega
/-- A command that is safe for a set that has the pose: what is touched on the way is known to be free. -/
theorem safe_free {W Hh : Int} {xs : List Int} {l : List T6} {t f tu le sl ra : Int} {b : T6} {ax ay ah e dx dy cx cy : Int} (hs : saB W Hh xs l t f tu le sl ra = true) (hf : 0 < f) (hb : b ∈ l)
    (hx : b.1 ≤ ax ∧ ax ≤ b.2.2.1) (hy : b.2.1 ≤ ay ∧ ay ≤ b.2.2.2.1) (hi : inArc b.2.2.2.2.1 b.2.2.2.2.2 ah) (hbb : arcB b.2.2.2.2.1 b.2.2.2.2.2 = true) (ha : 0 ≤ ah ∧ ah ≤ 255) (htu : 0 ≤ tu ∧ tu ≤ 8) (he : -tu ≤ e ∧ e ≤ tu)
    (hw : WayP (nhI ah t e) f le sl dx dy) (ht : TouP ax ay (ax + dx) (ay + dy) (cx * 64) (cy * 64)) : atI W Hh xs cx cy = 1 := by
  unfold saB at hs
  rw [Bool.and_eq_true, Bool.or_eq_true] at hs
  obtain ⟨-, h | h⟩ := hs
  · have := of_decide_eq_true h; omega
  · rw [List.all_eq_true] at h
    have hk := h b hb
    unfold boxOK at hk
    rw [List.all_eq_true] at hk
    have hu := hk _ (mark_in2 hbb hi ha htu he)
    unfold unhB at hu
    simp only [Bool.and_eq_true, decide_eq_true_eq, Bool.not_eq_true'] at hu
    obtain ⟨u1, u2, u3⟩ := hu
    have hm := cell_in2 u1 u2 hx hy hw ht
    have := List.any_eq_false.1 u3 _ hm
    simpa using this
/-- A disc's square at the way's end is touched. -/
theorem tou_end {px py qx qy x0 y0 : Int} (hx : x0 - 20 ≤ qx ∧ qx ≤ x0 + 84) (hy : y0 - 20 ≤ qy ∧ qy ≤ y0 + 84) : TouP px py qx qy x0 y0 := ⟨1, 1, by omega, by omega, by omega, by omega⟩
/-- What is touched on the way of a safe command is free in the building. -/
theorem wsafe_free {W Hh : Int} {xs ks : List Int} {l : List T6} {t f tu le sl ra ax ay ah eT eL eX eY : Int} (hk : BelP ks xs) (hs : saB W Hh ks l t f tu le sl ra = true) (hc : covB l ax ay ah = true) (hP : poseB ax ay ah = true) (hb : bndB tu le sl ra = true) (h1 : -tu ≤ eT ∧ eT ≤ tu) (h2 : -le ≤ eL ∧ eL ≤ le) (h3 : -sl ≤ eX ∧ eX ≤ sl) (h4 : -sl ≤ eY ∧ eY ≤ sl) (cx cy : Int) (hf : 0 < f) (he : nxE ax ay ah t f eT eL eX eY = 0) (ht : TouP ax ay (nxX ax ay ah t f eT eL eX eY) (nxY ax ay ah t f eT eL eX eY) (cx * 64) (cy * 64)) : atI W Hh xs cx cy = 1 := by
  have hbt := btw_iff.1 (poseB_iff.1 hP).2
  obtain ⟨b, hbm, hx, hy, hi, ha⟩ := covB_iff (by omega) hc
  have hw := next_way he (by omega) h2 h3 h4
  rw [(nx_ok he).2.2] at hw
  have hbi := hb
  simp only [bndB, Bool.and_eq_true, btw_iff] at hbi
  refine bel_free hk (safe_free hs hf hbm hx hy hi ha (by omega) (by omega) h1 hw (cx := cx) (cy := cy) ?_)
  rw [show ax + (nxX ax ay ah t f eT eL eX eY - ax) = nxX ax ay ah t f eT eL eX eY by omega, show ay + (nxY ax ay ah t f eT eL eX eY - ay) = nxY ax ay ah t f eT eL eX eY by omega]
  exact ht
theorem clgs_bd {n k : Int} (hk : 0 ≤ k) : -k ≤ clgI n (0 - k) k ∧ clgI n (0 - k) k ≤ k := clg_bd hk
open Go.RowKit
open Go.RowKit
open Go.RowKit
open Go.RowKit
theorem corV_len {x y : Int} {l : List Pt} : (corV x y l).length ≤ 32 := by
  unfold corV
  split
  · rename_i hv
    have := (valid_bd hv).1
    have := canonL_len l
    rw [corR_len]; omega
  · simp
open Go.RowKit
open Go.RowKit
open Go.RowKit
open Go.RowKit
open Go.RowKit
set_option maxHeartbeats 4000000
set_option maxRecDepth 100000
/-- The pose in the middle. -/
def estX (l : List T6) : Int := if setB l = true ∧ 0 < l.length then ((estH l (l.length - 1)).1 + (estH l (l.length - 1)).2.2.1) / 2 else 0
def estY (l : List T6) : Int := if setB l = true ∧ 0 < l.length then ((estH l (l.length - 1)).2.1 + (estH l (l.length - 1)).2.2.2.1) / 2 else 0
def estG (l : List T6) : Int := if setB l = true ∧ 0 < l.length then ((estH l (l.length - 1)).2.2.2.2.1 + ((estH l (l.length - 1)).2.2.2.2.2 - 1) / 2) % 256 else 0
def estO (l : List T6) : Bool := decide (setB l = true ∧ 0 < l.length)
theorem est_c (H : AHeap) (s : AV) (l : List T6) (hs : Sl H 6 s l.length (r6 l)) (hl : l.length ≤ 1000000) : ACalls Tryz.prog 105 [s] H (fun v H' => v = .tup [.agg [.int .i64 (estX l), .int .i64 (estY l), .int .i64 (estG l)], .bool (estO l)] ∧ H' = H) := by
  obtain ⟨bs, os, cs, rfl, hbs⟩ := hs
  have hbls := getElem?_lt hbs
  have hb0s := fun l => get_app (l := l) hbs
  have htq : ∀ z : Int, 0 ≤ z → Int.tdiv z 2 = z / 2 := fun z h => Int.tdiv_eq_ediv_of_nonneg h
  have htm : ∀ z : Int, 0 ≤ z → Int.tmod z 256 = z % 256 := fun z h => Int.tmod_eq_emod_of_nonneg h
  refine AcT true Tryz.func105 ?_; intro hbel Q hQ
  have g'1 := (jn @hbs (jn @hb0s (jn @htq @htm)))
  refine runTf g'1 ?_
  refine gd_split (fun h1 => ?_) (fun h1 => ?_)
  · have h1d := bsT h1
    have h1n := bnT h1
    have hz1 : 0 < l.length := Nat.pos_of_ne_zero (by simpa using h1d)
    have g'2 := (jn @h1 (jn @h1n (jn @int_bne (jn @int_beq g'1))))
    refine runTf g'2 ?_
    refine call_v (by kernel_rfl) (vset_c _ _ l ⟨_, _, _, rfl, by first | exact hb0s _ | exact hbs⟩ (by omega)) ?_
    refine runTf g'2 ?_
    refine cond_split (fun h2 => ?_) (fun h2 => ?_)
    · have h2d := bsT h2
      have hneg : ¬ (setB l = true ∧ 0 < l.length) := fun hh => by first | (rw [hh.1] at h2d; exact absurd h2d (by decide)) | (have := hh.2; omega)
      have hfinX : estX l = 0 := if_neg hneg
      have hfinY : estY l = 0 := if_neg hneg
      have hfinG : estG l = 0 := if_neg hneg
      have hfinO : estO l = false := decide_eq_false hneg
      have g'3 := (jn @h2 (jn @h2d g'2))
      refine runTf g'3 ?_
      exact hQ _ _ (end_plain (.inl rfl) hbel (x := .tup [.agg [.int .i64 0, .int .i64 0, .int .i64 0], .bool false]) (resT Tryz.results105) rfl ⟨by first | (rw [hfinX, hfinY, hfinG, hfinO]; done) | (rw [hfinX, hfinY, hfinG, hfinO]; rfl), rfl⟩)
    · have h2d := bsT h2
      have hsv : setB l = true := h2d
      have hpos : setB l = true ∧ 0 < l.length := ⟨hsv, by omega⟩
      have hok := fun n hn => estH_ok (setB_iff.1 hsv).2 n hn
      have hfinX : estX l = ((estH l (l.length - 1)).1 + (estH l (l.length - 1)).2.2.1) / 2 := if_pos hpos
      have hfinY : estY l = ((estH l (l.length - 1)).2.1 + (estH l (l.length - 1)).2.2.2.1) / 2 := if_pos hpos
      have hfinG : estG l = ((estH l (l.length - 1)).2.2.2.2.1 + ((estH l (l.length - 1)).2.2.2.2.2 - 1) / 2) % 256 := if_pos hpos
      have hfinO : estO l = true := decide_eq_true hpos
      have q3 := r6_load0 (l := l) (by omega)
      have g'4 := (jn @h2 (jn @h2d (jn @r6_len (jn @q3 g'2))))
      refine runTf g'4 ?_
      refine go_loop try_mixed (by kernel_rfl) (fun k F Hx => ∃ i : Nat, i + k = l.length - 1 ∧ F = [(2, .ptr (some (H.length, 0))), (4, .ptr (some (H.length + 1, 0))), (20, .sl (some (bs, 6)) (l.length - 1) none), (21, .int .i64 ((l.length - 1 : Nat) : Int)), (22, .int .i64 ((i : Nat) : Int))] ∧ Hx = H ++ [.cells true 0 [.int .i64 0, .int .i64 0, .int .i64 0], .cells true 0 [.int .i64 ((estH l i).1), .int .i64 ((estH l i).2.1), .int .i64 ((estH l i).2.2.1), .int .i64 ((estH l i).2.2.2.1), .int .i64 ((estH l i).2.2.2.2.1), .int .i64 ((estH l i).2.2.2.2.2)]]) (l.length - 1) ?_ ?_
      · refine ⟨_, _, _, ⟨0, by omega, rfl, rfl⟩, Abs.byG hbel [] rfl [0, 1] (by decide) ?_⟩
        exact absWf @estH.eq_1
      · rintro k0 F Hx ⟨i, hm0, rfl, rfl⟩ J0 hJ0
        refine runTf g'4 ?_
        refine cond_split (fun h4 => ?_) (fun h4 => ?_)
        · have h4d := bsT h4
          have hb1 : bxB (estH l i).1 (estH l i).2.1 (estH l i).2.2.1 (estH l i).2.2.2.1 (estH l i).2.2.2.2.1 (estH l i).2.2.2.2.2 = true := hok i (by omega)
          have hb2 : bxB (g61 l (i + 1)) (g62 l (i + 1)) (g63 l (i + 1)) (g64 l (i + 1)) (g65 l (i + 1)) (g66 l (i + 1)) = true := (setB_iff.1 hsv).2 (g6 l (i + 1)) (g6_mem (by omega))
          have q5 := r6_load1 (l := l) (j := i) (by omega)
          have g'5 := (jn @h4 (jn @h4d (jn @q5 g'4)))
          refine runTf g'5 ?_
          refine call_v (by kernel_rfl) (bhull_c _ ((estH l i).1) ((estH l i).2.1) ((estH l i).2.2.1) ((estH l i).2.2.2.1) ((estH l i).2.2.2.2.1) ((estH l i).2.2.2.2.2) (g61 l (i + 1)) (g62 l (i + 1)) (g63 l (i + 1)) (g64 l (i + 1)) (g65 l (i + 1)) (g66 l (i + 1)) (by assumption) (by assumption)) ?_
          refine runTf g'5 ?_
          refine hJ0 _ _ ⟨k0 - 1, by omega, _, _, _, ⟨i + 1, by omega, rfl, rfl⟩, Abs.byG hbel [] rfl [0, 1] (by decide) ?_⟩
          exact absWf @estH.eq_2
        · have h4d := bsT h4
          obtain rfl : i = l.length - 1 := by omega
          have hlast := bxB_iff.1 (hok (l.length - 1) (by omega))
          have hla := arcB_iff.1 hlast.2.2
          have g'6 := (jn @h4 (jn @h4d g'4))
          refine runTf g'6 ?_
          refine call_d (by kernel_rfl) (mfloor_c _ (((estH l (l.length - 1)).1) + ((estH l (l.length - 1)).2.2.1)) 2 (by omega) (by omega)) ?_
          refine runTf g'6 ?_
          refine call_d (by kernel_rfl) (mfloor_c _ (((estH l (l.length - 1)).2.1) + ((estH l (l.length - 1)).2.2.2.1)) 2 (by omega) (by omega)) ?_
          refine runTf g'6 ?_
          exact hQ _ _ (end_plain (.inl rfl) hbel (x := .tup [.agg [.int .i64 ((((estH l (l.length - 1)).1) + ((estH l (l.length - 1)).2.2.1)) / 2), .int .i64 ((((estH l (l.length - 1)).2.1) + ((estH l (l.length - 1)).2.2.2.1)) / 2), .int .i64 ((((estH l (l.length - 1)).2.2.2.2.1) + ((((estH l (l.length - 1)).2.2.2.2.2) - 1) / 2)) % 256)], .bool true]) (resT Tryz.results105) rfl ⟨by first | (rw [hfinX, hfinY, hfinG, hfinO]; done) | (rw [hfinX, hfinY, hfinG, hfinO]; rfl), rfl⟩)
  · have h1d := bsT h1
    have h1n := bnT h1
    have hz0 : l.length = 0 := by simpa using h1d
    have hneg : ¬ (setB l = true ∧ 0 < l.length) := fun hh => by first | (rw [hh.1] at hz0; exact absurd hz0 (by decide)) | (have := hh.2; omega)
    have hfinX : estX l = 0 := if_neg hneg
    have hfinY : estY l = 0 := if_neg hneg
    have hfinG : estG l = 0 := if_neg hneg
    have hfinO : estO l = false := decide_eq_false hneg
    have g'7 := (jn @h1 (jn @h1n (jn @int_bne (jn @int_beq g'1))))
    refine runTf g'7 ?_
    exact hQ _ _ (end_plain (.inl rfl) hbel (x := .tup [.agg [.int .i64 0, .int .i64 0, .int .i64 0], .bool false]) (resT Tryz.results105) rfl ⟨by first | (rw [hfinX, hfinY, hfinG, hfinO]; done) | (rw [hfinX, hfinY, hfinG, hfinO]; rfl), rfl⟩)
open Go.RowKit
theorem TbOk.filter {P : Program} (p : Nat × Bool × Func → Bool) : ∀ {tb : List (Nat × Bool × Func)}, TbOk P tb → TbOk P (tb.filter p)
  | _, .nil => .nil
  | _, .cons (f := f) (q := q) (fn := fn) h1 h2 h3 hr => by
    rw [List.filter_cons]
    split
    · exact .cons h1 h2 h3 (TbOk.filter p hr)
    · exact TbOk.filter p hr
open Go.RowKit
open Go.RowKit
open Go.RowKit
theorem estO_t {l : List T6} (h : estO l = true) : setB l = true ∧ 0 < l.length := of_decide_eq_true h
end Go.Proofs.YtcokgigjmjlmnaaGreat
