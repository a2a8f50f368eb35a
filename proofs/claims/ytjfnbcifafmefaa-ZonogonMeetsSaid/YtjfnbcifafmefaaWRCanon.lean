/- Walk by the abstract machine: wayfinderref07.canon; canonical at any zonogon. Conditions: as each theorem states. -/
import Derived.Test.YtjfnbcifafmefaaWPut
namespace Go.Proofs.Ytjfnbcifafmefaa
set_option linter.unusedSimpArgs false
set_option linter.unusedVariables false
open Go.RowKit
theorem pst_bd {A B : Int} (hA : 0 ≤ A) (hB : 0 ≤ B) {g x : Pt} {st : List Pt × Bool} (h : ∀ e ∈ st.1, Bd (A + B) e) (hx : Bd A x) (hg : Bd B g) : ∀ e ∈ (pst g st x).1, Bd (A + B) e := by
  have hx' : Bd (A + B) x := by unfold Bd at *; omega
  have hg' : Bd (A + B) g := by unfold Bd at *; omega
  have hp : Bd (A + B) (padd x g) := by unfold Bd padd at *; simp only; omega
  unfold pst
  split
  · intro e he
    simp only [List.mem_append, List.mem_singleton] at he
    rcases he with he | rfl
    · exact h e he
    · exact hp
  · split
    · intro e he
      simp only [List.mem_append, List.mem_cons, List.not_mem_nil, or_false] at he
      rcases he with he | rfl | rfl
      · exact h e he
      · exact hg'
      · exact hx'
    · intro e he
      simp only [List.mem_append, List.mem_singleton] at he
      rcases he with he | rfl
      · exact h e he
      · exact hx'
theorem putC_bd {A B : Int} (hA : 0 ≤ A) (hB : 0 ≤ B) {g : Pt} {C : List Pt} (hC : ∀ e ∈ C, Bd A e) (hg : Bd B g) : ∀ e ∈ putC C g, Bd (A + B) e := by
  have gen : ∀ (D : List Pt) (st : List Pt × Bool), (∀ e ∈ D, Bd A e) → (∀ e ∈ st.1, Bd (A + B) e) → ∀ e ∈ (D.foldl (pst g) st).1, Bd (A + B) e := fun D => by
    induction D with
    | nil => intro st _ h; exact h
    | cons d D ih =>
      intro st hD h
      rw [List.foldl_cons]
      exact ih _ (fun e he => hD e (by simp [he])) (pst_bd hA hB h (hD d (by simp)) hg)
  have h1 := gen C ([], false) hC (by simp)
  have hg' : Bd (A + B) g := by unfold Bd at *; omega
  unfold putC
  simp only
  split
  · exact h1
  · intro e he
    simp only [List.mem_append, List.mem_singleton] at he
    rcases he with he | rfl
    · exact h1 e he
    · exact hg'
theorem canonL_snoc (l : List Pt) (g : Pt) : canonL (l ++ [g]) = putL (canonL l) g := by unfold canonL; rw [List.foldl_append]; rfl
theorem canonL_bd {M : Int} (hM : 0 ≤ M) {l : List Pt} (h : ∀ e ∈ l, Bd M e) : ∀ e ∈ canonL l, Bd (l.length * M) e := by
  revert h
  refine snoc_ind (P := fun l => (∀ e ∈ l, Bd M e) → ∀ e ∈ canonL l, Bd (l.length * M) e) (fun _ => by simp [canonL]) (fun l g ih h => ?_) l
  have ih := ih fun e he => h e (by simp [he])
  have hg := nrm_bd (h g (by simp))
  have e1 : ((l ++ [g]).length : Int) * M = l.length * M + M := by
    rw [List.length_append, Int.natCast_add, Int.add_mul]; simp
  have e2 : 0 ≤ (l.length : Int) * M := Int.mul_nonneg (by omega) hM
  rw [canonL_snoc, e1]
  unfold putL
  split
  · intro e he
    have := ih e he
    unfold Bd at *; omega
  · exact putC_bd e2 hM ih hg
theorem putC_len {C : List Pt} {g : Pt} (hg : up g) (hs : C.Pairwise fun a b => 0 < crs a b) (hu : ∀ e ∈ C, up e) : (putC C g).length ≤ C.length + 1 ∧ 0 < (putC C g).length := by
  rcases split_at hg C hs hu with ⟨A, B, rfl, h1, h2⟩ | ⟨A, e, B, rfl, h1, h0, h2⟩
  · rw [putC_none h1 h2]; simp; omega
  · rw [putC_some h1 h0 h2]; simp; omega
theorem canonL_len (l : List Pt) : (canonL l).length ≤ l.length := by
  refine snoc_ind (P := fun l => (canonL l).length ≤ l.length) (by simp [canonL]) (fun l g h => ?_) l
  rw [canonL_snoc, List.length_append, List.length_singleton]
  unfold putL
  split
  · omega
  · rename_i h0
    have hc := canonL_can l
    have := (putC_len (nrm_up h0) hc.sorted hc.ups).1
    omega
/-- One more generator, to a list that is none yet or a block of its own. -/
theorem put_c (H : AHeap) (s : AV) (C : List Pt) (hs : IsP H s C) (hl : C.length ≤ 40) (hC : ∀ e ∈ C, Bd 260000000 e) (g : Pt) (hg : Bd 4194304 g) :
    ACalls Try.prog 71 [s, pv g] H (fun v H' => v = (putV H s C g).1 ∧ H' = (putV H s C g).2) := by
  rcases hs with ⟨rfl, rfl⟩ | ⟨b, own, cap, rfl, hb⟩
  · exact put0_c H g.1 g.2 hg
  · exact put1_c H b own cap C hb hl hC g.1 g.2 hg
theorem putV_zero {H : AHeap} {s : AV} {C : List Pt} {g : Pt} (h : nrm g = (0, 0)) : putV H s C g = (s, H) := by unfold putV; rw [if_pos h]
theorem putV_pos {H : AHeap} {s : AV} {C : List Pt} {g : Pt} (h : nrm g ≠ (0, 0)) (h0 : 0 < (putC C (nrm g)).length) : putV H s C g = (.sl (some (H.length, 0)) (putC C (nrm g)).length none, H ++ [.cells true 2 (prs (putC C (nrm g)))]) := by
  unfold putV; rw [if_neg h, retP_pos h0]
set_option maxHeartbeats 4000000 in
set_option maxRecDepth 100000 in
theorem rcanon_c (H : AHeap) (x y : Int) (b : Nat) (own : Bool) (cap : Option Nat) (l : List Pt) (hb : H[b]? = some (.cells own 2 (prs l))) (hl : l.length ≤ 40) (hB : ∀ e ∈ l, Bd 4194304 e) :
    ACalls Try.prog 45 [.agg [.int .i64 x, .int .i64 y, .sl (some (b, 0)) l.length cap]] H (fun v H' => v = .agg [.int .i64 x, .int .i64 y, (retP H (canonL l)).1] ∧ H' = (retP H (canonL l)).2) := by
  have hbl := getElem?_lt hb
  have hb0 := fun l => get_app (l := l) hb
  generalize hn : l.length = n at *
  (refine ACalls_run try_mixed Try.func45 false _ rfl (Nat.le_of_ble_eq_true (by kernel_rfl)) (by kernel_rfl) ?_; intro hbel Q hQ hQ' c hc; unfold Try.f45 at hc; simp only [Option.some.injEq] at hc; subst hc; clear hQ')
  simp -implicitDefEqProofs (disch := omega) only [amset, tyset, gdL, lightOf, dsts, AGd.eq_1, AGd.eq_2, ADo, lateOk, belowV, lenV, Int.reduceToNat, Int.reduceBEq, Int.reduceBNe, Int.reduceLT, Int.reduceLE, calleeOf, aop, aev, look, putF, AV.ofValue, AV.ofCell, AV.cells, AV.flat, AV.one, aAlloc, aNew, aBox, aBuild, afill, splice, aBuildSlice, arep, aLoad, ard, ards, aStore, awrite, aFieldAddr, aField, aIndexAddr, aIndex, aExtract, aBound, aSlice, aInt, aBin, aUn, aConv, aLen, aAppend, aElems, aCopy, aMin2, aMax2, aFold, aBuiltin, aMakeSlice, aMapUpdate, aDelete, aLookup, argF, Nat.reduceBEq, Nat.reduceLT, isSh, aRes, one1, Nat.reduceMod, Nat.reducePow, Nat.reduceAdd, Nat.reduceLeDiff, Nat.reduceMul, Nat.reduceSub, Nat.reduceEqDiff, or_false, or_true, true_or]
  refine go_loop try_mixed (by kernel_rfl) (fun k F Hx => ∃ (i : Nat) (s : AV) (X : ABlk), i + k = n ∧ OutP (H.length + 3) s X (canonL (l.take i)) ∧
    F = [(1, .ptr (some (H.length, 0))), (2, .ptr (some (H.length + 1, 0))), (3, .ptr (some (H.length + 2, 0))), (4, .int .i64 (i : Nat))] ∧
    Hx = H ++ [.cells true 0 [.int .i64 x, .int .i64 y, .sl (some (b, 0)) n cap], .cells true 0 [.int .i64 0, .int .i64 0, .sl none 0 (some 0)], .cells true 0 [.int .i64 x, .int .i64 y, s], X]) n ?_ ?_
  · refine ⟨_, _, _, ⟨0, _, _, by omega, .inl ⟨rfl, rfl, rfl⟩, rfl, rfl⟩, Abs.by hbel [0, 1, 2, 3] (by decide) ?_⟩
    simp -implicitDefEqProofs (disch := omega) only [absF, absH, W_refl', W_any', W_agg, W_tup, Ws_cons, Ws_refl', Wc_refl', Wcs_cons, Wcs_nil, look, List.cons_append, List.nil_append, List.append_nil, List.length_cons, List.length_nil, Nat.zero_add, Nat.reduceAdd, AV.mv, AV.mvs, ABlk.mv, sig_new0, sig_newk, sig_lt, List.getElem?_cons_zero, List.getElem?_cons_succ, mvs_ints, mvs_bools, mvs_prs, mvs_append, cond_true, cond_false, beq_self_eq_true, Nat.reduceBEq, true_and, and_true, or_true, true_or, and_self, decide_true, Nat.add_zero, reduceCtorEq, false_or, or_false]
    repeat' (first | exact True.intro | exact Nat.add_lt_add_left (by decide) _ | exact Nat.lt_add_of_pos_right (by decide) | refine W_nils ?_ (Or.inr rfl) | refine W_nils ?_ (Or.inl rfl) | refine Wc_nils ?_ (Or.inr rfl) | refine Wc_nils ?_ (Or.inl rfl) | exact W_cap | rfl | refine And.intro ?_ ?_ | exact Or.inl rfl | exact Or.inr rfl | exact Or.inr (Or.inl rfl) | exact Or.inr (Or.inr BW.emp) | exact Or.inr BW.emp | exact BW.emp | refine Or.inr (BW.cells ?_) | refine BW.cells ?_ | refine Or.inr (Or.inr (BW.cells ?_)) | exact Wc_cap)
  · rintro k F Hx ⟨i, s, X, hik, hO, rfl, rfl⟩ J hJ
    by_cases hi : i < l.length
    · have hii : (i : Int) < (n : Int) := by omega
      have q0 := prs_load hi
      have hg : gp l i = l[i] := gp_eq hi
      have hgb := hB l[i] (List.getElem_mem hi)
      rw [← hg] at hgb
      have hst : canonL (l.take (i + 1)) = putL (canonL (l.take i)) (gp l i) := by rw [List.take_succ_eq_append_getElem hi, canonL_snoc, hg]
      have hml := canonL_len (l.take i)
      have hmb := canonL_bd (M := 4194304) (by decide) (l := l.take i) (fun e he => hB e (List.mem_of_mem_take he))
      have hcan := canonL_can (l.take i)
      have h40 : ((l.take i).length : Int) * 4194304 ≤ 40 * 4194304 := Int.mul_le_mul_of_nonneg_right (by rw [List.length_take]; omega) (by decide)
      have hmb2 : ∀ e ∈ canonL (l.take i), Bd 260000000 e := fun e he => by have := hmb e he; unfold Bd at *; omega
      rw [List.length_take] at hml
      generalize canonL (l.take i) = L at *
      rcases hO with ⟨rfl, rfl, rfl⟩ | ⟨hL1, rfl, rfl⟩
      · have hput := put_c (H ++ [.cells true 0 [.int .i64 x, .int .i64 y, .sl (some (b, 0)) n cap], .cells true 0 [.int .i64 0, .int .i64 0, .sl none 0 (some 0)], .cells true 0 [.int .i64 x, .int .i64 y, .sl none 0 (some 0)], .dead]) (.sl none 0 (some 0)) [] (.inl ⟨rfl, rfl⟩) (by simp) hmb2 (gp l i) hgb
        by_cases hz : nrm (gp l i) = (0, 0)
        · have hst2 : putL [] (gp l i) = [] := by unfold putL; rw [if_pos hz]
          rw [hst2] at hst
          rw [putV_zero hz] at hput
          simp -implicitDefEqProofs (disch := omega) only [hii, hb0, q0, amset, tyset, gdL, lightOf, dsts, AGd.eq_1, AGd.eq_2, ADo, lateOk, belowV, lenV, Int.reduceToNat, Int.reduceBEq, Int.reduceBNe, Int.reduceLT, Int.reduceLE, calleeOf, aop, aev, look, putF, AV.ofValue, AV.ofCell, AV.cells, AV.flat, AV.one, aAlloc, aNew, aBox, aBuild, afill, splice, aBuildSlice, arep, aLoad, ard, ards, aStore, awrite, aFieldAddr, aField, aIndexAddr, aIndex, aExtract, aBound, aSlice, aInt, aBin, aUn, aConv, aLen, aAppend, aElems, aCopy, aMin2, aMax2, aFold, aBuiltin, aMakeSlice, aMapUpdate, aDelete, aLookup, argF, Nat.reduceBEq, Nat.reduceLT, isSh, aRes, one1, Nat.reduceMod, Nat.reducePow, Nat.reduceAdd, Nat.reduceLeDiff, Nat.reduceMul, Nat.reduceSub, Nat.reduceEqDiff, or_false, or_true, true_or]
          repeat refine And.intro (by omega) ?_
          refine call_d (by kernel_rfl) hput ?_
          simp -implicitDefEqProofs (disch := omega) only [amset, tyset, gdL, lightOf, dsts, AGd.eq_1, AGd.eq_2, ADo, lateOk, belowV, lenV, Int.reduceToNat, Int.reduceBEq, Int.reduceBNe, Int.reduceLT, Int.reduceLE, calleeOf, aop, aev, look, putF, AV.ofValue, AV.ofCell, AV.cells, AV.flat, AV.one, aAlloc, aNew, aBox, aBuild, afill, splice, aBuildSlice, arep, aLoad, ard, ards, aStore, awrite, aFieldAddr, aField, aIndexAddr, aIndex, aExtract, aBound, aSlice, aInt, aBin, aUn, aConv, aLen, aAppend, aElems, aCopy, aMin2, aMax2, aFold, aBuiltin, aMakeSlice, aMapUpdate, aDelete, aLookup, argF, Nat.reduceBEq, Nat.reduceLT, isSh, aRes, one1, Nat.reduceMod, Nat.reducePow, Nat.reduceAdd, Nat.reduceLeDiff, Nat.reduceMul, Nat.reduceSub, Nat.reduceEqDiff, or_false, or_true, true_or]
          refine hJ _ _ ⟨k - 1, by omega, _, [(1, .ptr (some (H.length, 0))), (2, .ptr (some (H.length + 1, 0))), (3, .ptr (some (H.length + 2, 0))), (4, .int .i64 ((i + 1 : Nat) : Int))], H ++ [.cells true 0 [.int .i64 x, .int .i64 y, .sl (some (b, 0)) n cap], .cells true 0 [.int .i64 0, .int .i64 0, .sl none 0 (some 0)], .cells true 0 [.int .i64 x, .int .i64 y, .sl none 0 (some 0)], .dead], ⟨i + 1, .sl none 0 (some 0), .dead, by omega, by rw [hst]; exact .inl ⟨rfl, rfl, rfl⟩, rfl, rfl⟩, Abs.by hbel [0, 1, 2, 3] (by decide) ?_⟩
          simp -implicitDefEqProofs (disch := omega) only [absF, absH, W_refl', W_any', W_agg, W_tup, Ws_cons, Ws_refl', Wc_refl', Wcs_cons, Wcs_nil, look, List.cons_append, List.nil_append, List.append_nil, List.length_cons, List.length_nil, Nat.zero_add, Nat.reduceAdd, AV.mv, AV.mvs, ABlk.mv, sig_new0, sig_newk, sig_lt, List.getElem?_cons_zero, List.getElem?_cons_succ, mvs_ints, mvs_bools, mvs_prs, mvs_append, cond_true, cond_false, beq_self_eq_true, Nat.reduceBEq, true_and, and_true, or_true, true_or, and_self, decide_true, Nat.add_zero, reduceCtorEq, false_or, or_false]
          repeat' (first | exact True.intro | exact Nat.add_lt_add_left (by decide) _ | exact Nat.lt_add_of_pos_right (by decide) | refine W_nils ?_ (Or.inr rfl) | refine W_nils ?_ (Or.inl rfl) | refine Wc_nils ?_ (Or.inr rfl) | refine Wc_nils ?_ (Or.inl rfl) | exact W_cap | rfl | refine And.intro ?_ ?_ | exact Or.inl rfl | exact Or.inr rfl | exact Or.inr (Or.inl rfl) | exact Or.inr (Or.inr BW.emp) | exact Or.inr BW.emp | exact BW.emp | refine Or.inr (BW.cells ?_) | refine BW.cells ?_ | refine Or.inr (Or.inr (BW.cells ?_)) | exact Wc_cap)
        · have hst2 : putL [] (gp l i) = putC [] (nrm (gp l i)) := by unfold putL; rw [if_neg hz]
          rw [hst2] at hst
          have hpl := (putC_len (nrm_up hz) hcan.sorted hcan.ups).2
          rw [putV_pos hz hpl] at hput
          simp only [List.length_append, List.length_cons, List.length_nil, Nat.zero_add, Nat.reduceAdd] at hput
          generalize putC [] (nrm (gp l i)) = L2 at *
          simp -implicitDefEqProofs (disch := omega) only [hii, hb0, q0, amset, tyset, gdL, lightOf, dsts, AGd.eq_1, AGd.eq_2, ADo, lateOk, belowV, lenV, Int.reduceToNat, Int.reduceBEq, Int.reduceBNe, Int.reduceLT, Int.reduceLE, calleeOf, aop, aev, look, putF, AV.ofValue, AV.ofCell, AV.cells, AV.flat, AV.one, aAlloc, aNew, aBox, aBuild, afill, splice, aBuildSlice, arep, aLoad, ard, ards, aStore, awrite, aFieldAddr, aField, aIndexAddr, aIndex, aExtract, aBound, aSlice, aInt, aBin, aUn, aConv, aLen, aAppend, aElems, aCopy, aMin2, aMax2, aFold, aBuiltin, aMakeSlice, aMapUpdate, aDelete, aLookup, argF, Nat.reduceBEq, Nat.reduceLT, isSh, aRes, one1, Nat.reduceMod, Nat.reducePow, Nat.reduceAdd, Nat.reduceLeDiff, Nat.reduceMul, Nat.reduceSub, Nat.reduceEqDiff, or_false, or_true, true_or]
          repeat refine And.intro (by omega) ?_
          refine call_x (by kernel_rfl) (by simp) hput ?_
          simp -implicitDefEqProofs (disch := omega) only [amset, tyset, gdL, lightOf, dsts, AGd.eq_1, AGd.eq_2, ADo, lateOk, belowV, lenV, Int.reduceToNat, Int.reduceBEq, Int.reduceBNe, Int.reduceLT, Int.reduceLE, calleeOf, aop, aev, look, putF, AV.ofValue, AV.ofCell, AV.cells, AV.flat, AV.one, aAlloc, aNew, aBox, aBuild, afill, splice, aBuildSlice, arep, aLoad, ard, ards, aStore, awrite, aFieldAddr, aField, aIndexAddr, aIndex, aExtract, aBound, aSlice, aInt, aBin, aUn, aConv, aLen, aAppend, aElems, aCopy, aMin2, aMax2, aFold, aBuiltin, aMakeSlice, aMapUpdate, aDelete, aLookup, argF, Nat.reduceBEq, Nat.reduceLT, isSh, aRes, one1, Nat.reduceMod, Nat.reducePow, Nat.reduceAdd, Nat.reduceLeDiff, Nat.reduceMul, Nat.reduceSub, Nat.reduceEqDiff, or_false, or_true, true_or]
          refine hJ _ _ ⟨k - 1, by omega, _, [(1, .ptr (some (H.length, 0))), (2, .ptr (some (H.length + 1, 0))), (3, .ptr (some (H.length + 2, 0))), (4, .int .i64 ((i + 1 : Nat) : Int))], H ++ [.cells true 0 [.int .i64 x, .int .i64 y, .sl (some (b, 0)) n cap], .cells true 0 [.int .i64 0, .int .i64 0, .sl none 0 (some 0)], .cells true 0 [.int .i64 x, .int .i64 y, .sl (some (H.length + 3, 0)) L2.length none], .cells true 2 (prs L2)], ⟨i + 1, .sl (some (H.length + 3, 0)) L2.length none, .cells true 2 (prs L2), by omega, by rw [hst]; exact .inr ⟨hpl, rfl, rfl⟩, rfl, rfl⟩, Abs.by hbel [0, 1, 2, 4] (by decide) ?_⟩
          simp -implicitDefEqProofs (disch := omega) only [absF, absH, W_refl', W_any', W_agg, W_tup, Ws_cons, Ws_refl', Wc_refl', Wcs_cons, Wcs_nil, look, List.cons_append, List.nil_append, List.append_nil, List.length_cons, List.length_nil, Nat.zero_add, Nat.reduceAdd, AV.mv, AV.mvs, ABlk.mv, sig_new0, sig_newk, sig_lt, List.getElem?_cons_zero, List.getElem?_cons_succ, mvs_ints, mvs_bools, mvs_prs, mvs_append, cond_true, cond_false, beq_self_eq_true, Nat.reduceBEq, true_and, and_true, or_true, true_or, and_self, decide_true, Nat.add_zero, reduceCtorEq, false_or, or_false]
          repeat' (first | exact True.intro | exact Nat.add_lt_add_left (by decide) _ | exact Nat.lt_add_of_pos_right (by decide) | refine W_nils ?_ (Or.inr rfl) | refine W_nils ?_ (Or.inl rfl) | refine Wc_nils ?_ (Or.inr rfl) | refine Wc_nils ?_ (Or.inl rfl) | exact W_cap | rfl | refine And.intro ?_ ?_ | exact Or.inl rfl | exact Or.inr rfl | exact Or.inr (Or.inl rfl) | exact Or.inr (Or.inr BW.emp) | exact Or.inr BW.emp | exact BW.emp | refine Or.inr (BW.cells ?_) | refine BW.cells ?_ | refine Or.inr (Or.inr (BW.cells ?_)) | exact Wc_cap)
      · have hput := put_c (H ++ [.cells true 0 [.int .i64 x, .int .i64 y, .sl (some (b, 0)) n cap], .cells true 0 [.int .i64 0, .int .i64 0, .sl none 0 (some 0)], .cells true 0 [.int .i64 x, .int .i64 y, .sl (some (H.length + 3, 0)) L.length none], .cells true 2 (prs L)]) (.sl (some (H.length + 3, 0)) L.length none) L (.inr ⟨H.length + 3, true, none, rfl, by rw [get_newk]; rfl⟩) (by omega) hmb2 (gp l i) hgb
        by_cases hz : nrm (gp l i) = (0, 0)
        · have hst2 : putL L (gp l i) = L := by unfold putL; rw [if_pos hz]
          rw [hst2] at hst
          rw [putV_zero hz] at hput
          simp -implicitDefEqProofs (disch := omega) only [hii, hb0, q0, amset, tyset, gdL, lightOf, dsts, AGd.eq_1, AGd.eq_2, ADo, lateOk, belowV, lenV, Int.reduceToNat, Int.reduceBEq, Int.reduceBNe, Int.reduceLT, Int.reduceLE, calleeOf, aop, aev, look, putF, AV.ofValue, AV.ofCell, AV.cells, AV.flat, AV.one, aAlloc, aNew, aBox, aBuild, afill, splice, aBuildSlice, arep, aLoad, ard, ards, aStore, awrite, aFieldAddr, aField, aIndexAddr, aIndex, aExtract, aBound, aSlice, aInt, aBin, aUn, aConv, aLen, aAppend, aElems, aCopy, aMin2, aMax2, aFold, aBuiltin, aMakeSlice, aMapUpdate, aDelete, aLookup, argF, Nat.reduceBEq, Nat.reduceLT, isSh, aRes, one1, Nat.reduceMod, Nat.reducePow, Nat.reduceAdd, Nat.reduceLeDiff, Nat.reduceMul, Nat.reduceSub, Nat.reduceEqDiff, or_false, or_true, true_or]
          repeat refine And.intro (by omega) ?_
          refine call_d (by kernel_rfl) hput ?_
          simp -implicitDefEqProofs (disch := omega) only [amset, tyset, gdL, lightOf, dsts, AGd.eq_1, AGd.eq_2, ADo, lateOk, belowV, lenV, Int.reduceToNat, Int.reduceBEq, Int.reduceBNe, Int.reduceLT, Int.reduceLE, calleeOf, aop, aev, look, putF, AV.ofValue, AV.ofCell, AV.cells, AV.flat, AV.one, aAlloc, aNew, aBox, aBuild, afill, splice, aBuildSlice, arep, aLoad, ard, ards, aStore, awrite, aFieldAddr, aField, aIndexAddr, aIndex, aExtract, aBound, aSlice, aInt, aBin, aUn, aConv, aLen, aAppend, aElems, aCopy, aMin2, aMax2, aFold, aBuiltin, aMakeSlice, aMapUpdate, aDelete, aLookup, argF, Nat.reduceBEq, Nat.reduceLT, isSh, aRes, one1, Nat.reduceMod, Nat.reducePow, Nat.reduceAdd, Nat.reduceLeDiff, Nat.reduceMul, Nat.reduceSub, Nat.reduceEqDiff, or_false, or_true, true_or]
          refine hJ _ _ ⟨k - 1, by omega, _, [(1, .ptr (some (H.length, 0))), (2, .ptr (some (H.length + 1, 0))), (3, .ptr (some (H.length + 2, 0))), (4, .int .i64 ((i + 1 : Nat) : Int))], H ++ [.cells true 0 [.int .i64 x, .int .i64 y, .sl (some (b, 0)) n cap], .cells true 0 [.int .i64 0, .int .i64 0, .sl none 0 (some 0)], .cells true 0 [.int .i64 x, .int .i64 y, .sl (some (H.length + 3, 0)) L.length none], .cells true 2 (prs L)], ⟨i + 1, .sl (some (H.length + 3, 0)) L.length none, .cells true 2 (prs L), by omega, by rw [hst]; exact .inr ⟨hL1, rfl, rfl⟩, rfl, rfl⟩, Abs.by hbel [0, 1, 2, 3] (by decide) ?_⟩
          simp -implicitDefEqProofs (disch := omega) only [absF, absH, W_refl', W_any', W_agg, W_tup, Ws_cons, Ws_refl', Wc_refl', Wcs_cons, Wcs_nil, look, List.cons_append, List.nil_append, List.append_nil, List.length_cons, List.length_nil, Nat.zero_add, Nat.reduceAdd, AV.mv, AV.mvs, ABlk.mv, sig_new0, sig_newk, sig_lt, List.getElem?_cons_zero, List.getElem?_cons_succ, mvs_ints, mvs_bools, mvs_prs, mvs_append, cond_true, cond_false, beq_self_eq_true, Nat.reduceBEq, true_and, and_true, or_true, true_or, and_self, decide_true, Nat.add_zero, reduceCtorEq, false_or, or_false]
          repeat' (first | exact True.intro | exact Nat.add_lt_add_left (by decide) _ | exact Nat.lt_add_of_pos_right (by decide) | refine W_nils ?_ (Or.inr rfl) | refine W_nils ?_ (Or.inl rfl) | refine Wc_nils ?_ (Or.inr rfl) | refine Wc_nils ?_ (Or.inl rfl) | exact W_cap | rfl | refine And.intro ?_ ?_ | exact Or.inl rfl | exact Or.inr rfl | exact Or.inr (Or.inl rfl) | exact Or.inr (Or.inr BW.emp) | exact Or.inr BW.emp | exact BW.emp | refine Or.inr (BW.cells ?_) | refine BW.cells ?_ | refine Or.inr (Or.inr (BW.cells ?_)) | exact Wc_cap)
        · have hst2 : putL L (gp l i) = putC L (nrm (gp l i)) := by unfold putL; rw [if_neg hz]
          rw [hst2] at hst
          have hpl := (putC_len (nrm_up hz) hcan.sorted hcan.ups).2
          rw [putV_pos hz hpl] at hput
          simp only [List.length_append, List.length_cons, List.length_nil, Nat.zero_add, Nat.reduceAdd] at hput
          generalize putC L (nrm (gp l i)) = L2 at *
          simp -implicitDefEqProofs (disch := omega) only [hii, hb0, q0, amset, tyset, gdL, lightOf, dsts, AGd.eq_1, AGd.eq_2, ADo, lateOk, belowV, lenV, Int.reduceToNat, Int.reduceBEq, Int.reduceBNe, Int.reduceLT, Int.reduceLE, calleeOf, aop, aev, look, putF, AV.ofValue, AV.ofCell, AV.cells, AV.flat, AV.one, aAlloc, aNew, aBox, aBuild, afill, splice, aBuildSlice, arep, aLoad, ard, ards, aStore, awrite, aFieldAddr, aField, aIndexAddr, aIndex, aExtract, aBound, aSlice, aInt, aBin, aUn, aConv, aLen, aAppend, aElems, aCopy, aMin2, aMax2, aFold, aBuiltin, aMakeSlice, aMapUpdate, aDelete, aLookup, argF, Nat.reduceBEq, Nat.reduceLT, isSh, aRes, one1, Nat.reduceMod, Nat.reducePow, Nat.reduceAdd, Nat.reduceLeDiff, Nat.reduceMul, Nat.reduceSub, Nat.reduceEqDiff, or_false, or_true, true_or]
          repeat refine And.intro (by omega) ?_
          refine call_x (by kernel_rfl) (by simp) hput ?_
          simp -implicitDefEqProofs (disch := omega) only [amset, tyset, gdL, lightOf, dsts, AGd.eq_1, AGd.eq_2, ADo, lateOk, belowV, lenV, Int.reduceToNat, Int.reduceBEq, Int.reduceBNe, Int.reduceLT, Int.reduceLE, calleeOf, aop, aev, look, putF, AV.ofValue, AV.ofCell, AV.cells, AV.flat, AV.one, aAlloc, aNew, aBox, aBuild, afill, splice, aBuildSlice, arep, aLoad, ard, ards, aStore, awrite, aFieldAddr, aField, aIndexAddr, aIndex, aExtract, aBound, aSlice, aInt, aBin, aUn, aConv, aLen, aAppend, aElems, aCopy, aMin2, aMax2, aFold, aBuiltin, aMakeSlice, aMapUpdate, aDelete, aLookup, argF, Nat.reduceBEq, Nat.reduceLT, isSh, aRes, one1, Nat.reduceMod, Nat.reducePow, Nat.reduceAdd, Nat.reduceLeDiff, Nat.reduceMul, Nat.reduceSub, Nat.reduceEqDiff, or_false, or_true, true_or]
          refine hJ _ _ ⟨k - 1, by omega, _, [(1, .ptr (some (H.length, 0))), (2, .ptr (some (H.length + 1, 0))), (3, .ptr (some (H.length + 2, 0))), (4, .int .i64 ((i + 1 : Nat) : Int))], H ++ [.cells true 0 [.int .i64 x, .int .i64 y, .sl (some (b, 0)) n cap], .cells true 0 [.int .i64 0, .int .i64 0, .sl none 0 (some 0)], .cells true 0 [.int .i64 x, .int .i64 y, .sl (some (H.length + 3, 0)) L2.length none], .cells true 2 (prs L2)], ⟨i + 1, .sl (some (H.length + 3, 0)) L2.length none, .cells true 2 (prs L2), by omega, by rw [hst]; exact .inr ⟨hpl, rfl, rfl⟩, rfl, rfl⟩, Abs.by hbel [0, 1, 2, 4] (by decide) ?_⟩
          simp -implicitDefEqProofs (disch := omega) only [absF, absH, W_refl', W_any', W_agg, W_tup, Ws_cons, Ws_refl', Wc_refl', Wcs_cons, Wcs_nil, look, List.cons_append, List.nil_append, List.append_nil, List.length_cons, List.length_nil, Nat.zero_add, Nat.reduceAdd, AV.mv, AV.mvs, ABlk.mv, sig_new0, sig_newk, sig_lt, List.getElem?_cons_zero, List.getElem?_cons_succ, mvs_ints, mvs_bools, mvs_prs, mvs_append, cond_true, cond_false, beq_self_eq_true, Nat.reduceBEq, true_and, and_true, or_true, true_or, and_self, decide_true, Nat.add_zero, reduceCtorEq, false_or, or_false]
          repeat' (first | exact True.intro | exact Nat.add_lt_add_left (by decide) _ | exact Nat.lt_add_of_pos_right (by decide) | refine W_nils ?_ (Or.inr rfl) | refine W_nils ?_ (Or.inl rfl) | refine Wc_nils ?_ (Or.inr rfl) | refine Wc_nils ?_ (Or.inl rfl) | exact W_cap | rfl | refine And.intro ?_ ?_ | exact Or.inl rfl | exact Or.inr rfl | exact Or.inr (Or.inl rfl) | exact Or.inr (Or.inr BW.emp) | exact Or.inr BW.emp | exact BW.emp | refine Or.inr (BW.cells ?_) | refine BW.cells ?_ | refine Or.inr (Or.inr (BW.cells ?_)) | exact Wc_cap)
    · have hnn : ¬ ((i : Int) < (n : Int)) := by omega
      rw [List.take_of_length_le (by omega)] at hO
      rcases hO with ⟨h, rfl, rfl⟩ | ⟨h, rfl, rfl⟩
      · rw [h, retP_nil] at hQ
        simp -implicitDefEqProofs (disch := omega) only [hnn, amset, tyset, gdL, lightOf, dsts, AGd.eq_1, AGd.eq_2, ADo, lateOk, belowV, lenV, Int.reduceToNat, Int.reduceBEq, Int.reduceBNe, Int.reduceLT, Int.reduceLE, calleeOf, aop, aev, look, putF, AV.ofValue, AV.ofCell, AV.cells, AV.flat, AV.one, aAlloc, aNew, aBox, aBuild, afill, splice, aBuildSlice, arep, aLoad, ard, ards, aStore, awrite, aFieldAddr, aField, aIndexAddr, aIndex, aExtract, aBound, aSlice, aInt, aBin, aUn, aConv, aLen, aAppend, aElems, aCopy, aMin2, aMax2, aFold, aBuiltin, aMakeSlice, aMapUpdate, aDelete, aLookup, argF, Nat.reduceBEq, Nat.reduceLT, isSh, aRes, one1, Nat.reduceMod, Nat.reducePow, Nat.reduceAdd, Nat.reduceLeDiff, Nat.reduceMul, Nat.reduceSub, Nat.reduceEqDiff, or_false, or_true, true_or]
        exact hQ _ _ (end_plain (.inl rfl) hbel (x := .agg [.int .i64 x, .int .i64 y, .sl none 0 (some 0)]) (ret_of Try.results45 (by simp -implicitDefEqProofs (disch := omega) only [amset, tyset, gdL, lightOf, dsts, AGd.eq_1, AGd.eq_2, ADo, lateOk, belowV, lenV, Int.reduceToNat, Int.reduceBEq, Int.reduceBNe, Int.reduceLT, Int.reduceLE, calleeOf, aop, aev, look, putF, AV.ofValue, AV.ofCell, AV.cells, AV.flat, AV.one, aAlloc, aNew, aBox, aBuild, afill, splice, aBuildSlice, arep, aLoad, ard, ards, aStore, awrite, aFieldAddr, aField, aIndexAddr, aIndex, aExtract, aBound, aSlice, aInt, aBin, aUn, aConv, aLen, aAppend, aElems, aCopy, aMin2, aMax2, aFold, aBuiltin, aMakeSlice, aMapUpdate, aDelete, aLookup, argF, Nat.reduceBEq, Nat.reduceLT, isSh, aRes, one1, Nat.reduceMod, Nat.reducePow, Nat.reduceAdd, Nat.reduceLeDiff, Nat.reduceMul, Nat.reduceSub, Nat.reduceEqDiff, or_false, or_true, true_or])) rfl ⟨rfl, rfl⟩)
      · rw [retP_pos h] at hQ
        simp -implicitDefEqProofs (disch := omega) only [hnn, amset, tyset, gdL, lightOf, dsts, AGd.eq_1, AGd.eq_2, ADo, lateOk, belowV, lenV, Int.reduceToNat, Int.reduceBEq, Int.reduceBNe, Int.reduceLT, Int.reduceLE, calleeOf, aop, aev, look, putF, AV.ofValue, AV.ofCell, AV.cells, AV.flat, AV.one, aAlloc, aNew, aBox, aBuild, afill, splice, aBuildSlice, arep, aLoad, ard, ards, aStore, awrite, aFieldAddr, aField, aIndexAddr, aIndex, aExtract, aBound, aSlice, aInt, aBin, aUn, aConv, aLen, aAppend, aElems, aCopy, aMin2, aMax2, aFold, aBuiltin, aMakeSlice, aMapUpdate, aDelete, aLookup, argF, Nat.reduceBEq, Nat.reduceLT, isSh, aRes, one1, Nat.reduceMod, Nat.reducePow, Nat.reduceAdd, Nat.reduceLeDiff, Nat.reduceMul, Nat.reduceSub, Nat.reduceEqDiff, or_false, or_true, true_or]
        refine hQ _ _ (end_by (.inl rfl) hbel (x1 := .agg [.int .i64 x, .int .i64 y, .sl (some (H.length + 3, 0)) (canonL l).length none]) (.agg [.int .i64 x, .int .i64 y, .sl (some (H.length, 0)) (canonL l).length none]) (ret_of Try.results45 (by simp -implicitDefEqProofs (disch := omega) only [amset, tyset, gdL, lightOf, dsts, AGd.eq_1, AGd.eq_2, ADo, lateOk, belowV, lenV, Int.reduceToNat, Int.reduceBEq, Int.reduceBNe, Int.reduceLT, Int.reduceLE, calleeOf, aop, aev, look, putF, AV.ofValue, AV.ofCell, AV.cells, AV.flat, AV.one, aAlloc, aNew, aBox, aBuild, afill, splice, aBuildSlice, arep, aLoad, ard, ards, aStore, awrite, aFieldAddr, aField, aIndexAddr, aIndex, aExtract, aBound, aSlice, aInt, aBin, aUn, aConv, aLen, aAppend, aElems, aCopy, aMin2, aMax2, aFold, aBuiltin, aMakeSlice, aMapUpdate, aDelete, aLookup, argF, Nat.reduceBEq, Nat.reduceLT, isSh, aRes, one1, Nat.reduceMod, Nat.reducePow, Nat.reduceAdd, Nat.reduceLeDiff, Nat.reduceMul, Nat.reduceSub, Nat.reduceEqDiff, or_false, or_true, true_or])) [3] (by decide) ⟨rfl, rfl⟩ ?_)
        simp -implicitDefEqProofs (disch := omega) only [absF, absH, W_refl', W_any', W_agg, W_tup, Ws_cons, Ws_refl', Wc_refl', Wcs_cons, Wcs_nil, look, List.cons_append, List.nil_append, List.append_nil, List.length_cons, List.length_nil, Nat.zero_add, Nat.reduceAdd, AV.mv, AV.mvs, ABlk.mv, sig_new0, sig_newk, sig_lt, List.getElem?_cons_zero, List.getElem?_cons_succ, mvs_ints, mvs_bools, mvs_prs, mvs_append, cond_true, cond_false, beq_self_eq_true, Nat.reduceBEq, true_and, and_true, or_true, true_or, and_self, decide_true, Nat.add_zero, reduceCtorEq, false_or, or_false]
        repeat' (first | exact True.intro | exact Nat.add_lt_add_left (by decide) _ | exact Nat.lt_add_of_pos_right (by decide) | refine W_nils ?_ (Or.inr rfl) | refine W_nils ?_ (Or.inl rfl) | refine Wc_nils ?_ (Or.inr rfl) | refine Wc_nils ?_ (Or.inl rfl) | exact W_cap | rfl | refine And.intro ?_ ?_ | exact Or.inl rfl | exact Or.inr rfl | exact Or.inr (Or.inl rfl) | exact Or.inr (Or.inr BW.emp) | exact Or.inr BW.emp | exact BW.emp | refine Or.inr (BW.cells ?_) | refine BW.cells ?_ | refine Or.inr (Or.inr (BW.cells ?_)) | exact Wc_cap)
end Go.Proofs.Ytjfnbcifafmefaa
