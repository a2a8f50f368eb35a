/- Walk by the abstract machine: zonogon.canonical. Conditions: as each theorem states. -/
import Derived.Test.YtjfnbcifafmefaaWZ3
namespace Go.Proofs.Ytjfnbcifafmefaa
set_option linter.unusedSimpArgs false
set_option linter.unusedVariables false
open Go.RowKit
theorem sortnil_c (H : AHeap) : ACalls Try.prog 69 [.sl none 0 (some 0), .fn 70 []] H (fun v H' => v = .tup [] ∧ H' = H) :=
  ACalls.closed (ran try_mixed ext_ok tb tb_ok 300 30 (x := .tup []) (o := none) (by kernel_rfl)) rfl rfl H
theorem dirs_step {l : List Pt} {i : Nat} (h : i < l.length) : dirs (l.take (i + 1)) = dirs (l.take i) ++ if nrm (gp l i) = (0, 0) then [] else [nrm (gp l i)] := by
  rw [List.take_succ_eq_append_getElem h, ← gp_eq h]
  unfold dirs
  rw [List.map_append, List.filter_append]
  congr 1
  by_cases h0 : nrm (gp l i) = (0, 0)
  · simp [h0]
  · simp [h0]
theorem nrm_bd {M : Int} {g : Pt} (h : Bd M g) : Bd M (nrm g) := by
  unfold Bd at *
  unfold nrm
  split
  · simp only; omega
  · exact h
theorem dirs_bd {M : Int} {l : List Pt} (h : ∀ e ∈ l, Bd M e) : ∀ e ∈ dirs l, Bd M e := fun e he => by
  unfold dirs at he
  simp only [List.mem_filter, List.mem_map, decide_eq_true_eq] at he
  obtain ⟨⟨g, hg, rfl⟩, -⟩ := he
  exact nrm_bd (h g hg)
theorem dirs_len (l : List Pt) : (dirs l).length ≤ l.length := by
  unfold dirs
  exact Nat.le_trans (List.length_filter_le _ _) (by simp)
theorem mst_len (L : List Pt) (g : Pt) : (mst L g).length ≤ L.length + 1 := by
  rcases List.eq_nil_or_concat L with rfl | ⟨o, k, rfl⟩
  · simp [mst_nil]
  · rw [List.concat_eq_append, mst_snoc]; split <;> simp
theorem mergeL_snoc (S : List Pt) (g : Pt) : mergeL (S ++ [g]) = mst (mergeL S) g := by unfold mergeL; rw [List.foldl_append]; rfl
theorem snoc_ind {P : List Pt → Prop} (h0 : P []) (h1 : ∀ S g, P S → P (S ++ [g])) (S : List Pt) : P S := by
  have : ∀ n (S : List Pt), S.length = n → P S := fun n => by
    induction n with
    | zero => intro S h; rw [List.eq_nil_of_length_eq_zero h]; exact h0
    | succ n ih =>
      intro S h
      rcases List.eq_nil_or_concat S with rfl | ⟨o, k, rfl⟩
      · simp at h
      · rw [List.concat_eq_append] at *
        exact h1 o k (ih o (by simpa using h))
  exact this _ S rfl
theorem mergeL_len (S : List Pt) : (mergeL S).length ≤ S.length := by
  refine snoc_ind (P := fun S => (mergeL S).length ≤ S.length) (by simp [mergeL]) (fun S g h => ?_) S
  rw [mergeL_snoc]
  have := mst_len (mergeL S) g
  simp; omega
theorem mergeL_bd {M : Int} (hM : 0 ≤ M) {S : List Pt} (h : ∀ e ∈ S, Bd M e) : ∀ e ∈ mergeL S, Bd (S.length * M) e := by
  revert h
  refine snoc_ind (P := fun S => (∀ e ∈ S, Bd M e) → ∀ e ∈ mergeL S, Bd (S.length * M) e) (fun _ => by simp [mergeL]) (fun S g ih h => ?_) S
  have ih := ih fun e he => h e (by simp [he])
  have hg := h g (by simp)
  have e1 : ((S ++ [g]).length : Int) * M = S.length * M + M := by
    rw [List.length_append, Int.natCast_add, Int.add_mul]; simp
  have e2 : 0 ≤ (S.length : Int) * M := Int.mul_nonneg (by omega) hM
  rw [mergeL_snoc, e1]
  generalize (S.length : Int) * M = z at *
  have up : ∀ e, Bd z e → Bd (z + M) e := fun e he => by unfold Bd at *; omega
  have up2 : Bd (z + M) g := by unfold Bd at *; omega
  rcases List.eq_nil_or_concat (mergeL S) with h0 | ⟨o, k, h0⟩
  · rw [h0, mst_nil]
    intro e he
    simp at he; subst he; exact up2
  · rw [List.concat_eq_append] at h0
    rw [h0] at ih ⊢
    rw [mst_snoc]
    have hk := ih k (by simp)
    split
    · intro e he
      rcases List.mem_append.1 he with he | he
      · exact up e (ih e (by simp [he]))
      · simp at he; subst he
        unfold Bd padd at *; simp only; omega
    · intro e he
      rcases List.mem_append.1 he with he | he
      · exact up e (ih e he)
      · simp at he; subst he; exact up2
theorem mst_pos {L : List Pt} {g : Pt} {p : Nat} (h : L.length = p + 1) : mst L g = if crs (gp L p) g = 0 then L.set p (padd (gp L p) g) else L ++ [g] := by
  rcases List.eq_nil_or_concat L with rfl | ⟨o, k, rfl⟩
  · simp at h
  · rw [List.concat_eq_append] at *
    have hp : p = o.length := by simp at h; omega
    have e : gp (o ++ [k]) p = k := by rw [gp_eq (by omega)]; simp [hp]
    rw [mst_snoc, e]
    split
    · rw [List.set_append_right _ _ (by omega), hp, Nat.sub_self]; rfl
    · rfl
set_option maxHeartbeats 4000000 in
set_option maxRecDepth 100000 in
theorem canonical_c (H : AHeap) (x y : Int) (b : Nat) (own : Bool) (cap : Option Nat) (l : List Pt) (hb : H[b]? = some (.cells own 2 (prs l))) (hl : l.length ≤ 40) (hB : ∀ e ∈ l, Bd 4194304 e) :
    ACalls Try.prog 44 [.agg [.int .i64 x, .int .i64 y, .sl (some (b, 0)) l.length cap]] H (fun v H' => v = .agg [.int .i64 x, .int .i64 y, (retP H (canonL l)).1] ∧ H' = (retP H (canonL l)).2) := by
  have hbl := getElem?_lt hb
  have hb0 := fun l => get_app (l := l) hb
  generalize hn : l.length = n at *
  (refine ACalls_run try_mixed Try.func44 true _ rfl (Nat.le_of_ble_eq_true (by kernel_rfl)) (by kernel_rfl) ?_; intro hbel Q hQ hQ' c hc; unfold Try.f44 at hc; simp only [Option.some.injEq] at hc; subst hc; clear hQ')
  simp -implicitDefEqProofs (disch := omega) only [amset, tyset, gdL, lightOf, dsts, AGd.eq_1, AGd.eq_2, ADo, lateOk, belowV, lenV, Int.reduceToNat, Int.reduceBEq, Int.reduceBNe, Int.reduceLT, Int.reduceLE, calleeOf, aop, aev, look, putF, AV.ofValue, AV.ofCell, AV.cells, AV.flat, AV.one, aAlloc, aNew, aBox, aBuild, afill, splice, aBuildSlice, arep, aLoad, ard, ards, aStore, awrite, aFieldAddr, aField, aIndexAddr, aIndex, aExtract, aBound, aSlice, aInt, aBin, aUn, aConv, aLen, aAppend, aElems, aCopy, aMin2, aMax2, aFold, aBuiltin, aMakeSlice, aMapUpdate, aDelete, aLookup, argF, Nat.reduceBEq, Nat.reduceLT, isSh, aRes, one1, Nat.reduceMod, Nat.reducePow, Nat.reduceAdd, Nat.reduceLeDiff, Nat.reduceMul, Nat.reduceSub, Nat.reduceEqDiff, or_false, or_true, true_or]
  refine go_loop try_mixed (by kernel_rfl) (fun k F Hx => ∃ (i : Nat) (s : AV) (X : ABlk), i + k = n ∧ OutP (H.length + 2) s X (dirs (l.take i)) ∧
    F = [(1, .ptr (some (H.length, 0))), (2, .ptr (some (H.length + 1, 0))), (3, s), (11, .sl (some (b, 0)) n none), (12, .int .i64 n), (13, .int .i64 (i : Nat))] ∧
    Hx = H ++ [.cells true 0 [.int .i64 x, .int .i64 y, .sl (some (b, 0)) n cap], .cells true 0 [.int .i64 0, .int .i64 0, .sl none 0 (some 0)], X]) n ?_ ?_
  · refine ⟨_, _, _, ⟨0, _, _, by omega, .inl ⟨rfl, rfl, rfl⟩, rfl, rfl⟩, Abs.by hbel [0, 1, 2] (by decide) ?_⟩
    simp -implicitDefEqProofs (disch := omega) only [absF, absH, W_refl', W_any', W_agg, W_tup, Ws_cons, Ws_refl', Wc_refl', Wcs_cons, Wcs_nil, look, List.cons_append, List.nil_append, List.append_nil, List.length_cons, List.length_nil, Nat.zero_add, Nat.reduceAdd, AV.mv, AV.mvs, ABlk.mv, sig_new0, sig_newk, sig_lt, List.getElem?_cons_zero, List.getElem?_cons_succ, mvs_ints, mvs_bools, mvs_prs, mvs_append, cond_true, cond_false, beq_self_eq_true, Nat.reduceBEq, true_and, and_true, or_true, true_or, and_self, decide_true, Nat.add_zero, reduceCtorEq, false_or, or_false]
    repeat' (first | exact True.intro | exact Nat.add_lt_add_left (by decide) _ | exact Nat.lt_add_of_pos_right (by decide) | refine W_nils ?_ (Or.inr rfl) | refine W_nils ?_ (Or.inl rfl) | refine Wc_nils ?_ (Or.inr rfl) | refine Wc_nils ?_ (Or.inl rfl) | exact W_cap | rfl | refine And.intro ?_ ?_ | exact Or.inl rfl | exact Or.inr rfl | exact Or.inr (Or.inl rfl) | exact Or.inr (Or.inr BW.emp) | exact Or.inr BW.emp | exact BW.emp | refine Or.inr (BW.cells ?_) | refine BW.cells ?_ | refine Or.inr (Or.inr (BW.cells ?_)) | exact Wc_cap)
  · rintro k F Hx ⟨i, s, X, hik, hO, rfl, rfl⟩ J hJ
    by_cases hi : i < l.length
    · have hii : (i : Int) < (n : Int) := by omega
      have q0 := prs_load hi
      have hg : gp l i = l[i] := gp_eq hi
      have hgb := hB l[i] (List.getElem_mem hi)
      rw [← hg] at hgb
      have hds := dirs_step hi
      simp -implicitDefEqProofs (disch := omega) only [hii, hb0, q0, amset, tyset, gdL, lightOf, dsts, AGd.eq_1, AGd.eq_2, ADo, lateOk, belowV, lenV, Int.reduceToNat, Int.reduceBEq, Int.reduceBNe, Int.reduceLT, Int.reduceLE, calleeOf, aop, aev, look, putF, AV.ofValue, AV.ofCell, AV.cells, AV.flat, AV.one, aAlloc, aNew, aBox, aBuild, afill, splice, aBuildSlice, arep, aLoad, ard, ards, aStore, awrite, aFieldAddr, aField, aIndexAddr, aIndex, aExtract, aBound, aSlice, aInt, aBin, aUn, aConv, aLen, aAppend, aElems, aCopy, aMin2, aMax2, aFold, aBuiltin, aMakeSlice, aMapUpdate, aDelete, aLookup, argF, Nat.reduceBEq, Nat.reduceLT, isSh, aRes, one1, Nat.reduceMod, Nat.reducePow, Nat.reduceAdd, Nat.reduceLeDiff, Nat.reduceMul, Nat.reduceSub, Nat.reduceEqDiff, or_false, or_true, true_or]
      repeat refine And.intro (by omega) ?_
      have hbd : -4194304 ≤ g1 l i ∧ g1 l i ≤ 4194304 ∧ -4194304 ≤ g2 l i ∧ g2 l i ≤ 4194304 := hgb
      have hdl := dirs_len (l.take i)
      rw [List.length_take] at hdl
      have fin0 : nrm (gp l i) = (0, 0) → ∀ (F : Fr) (l1 : AHeap), (absF (H.length + l1.length) (sig H.length l1.length [0, 1, 2]) F [(1, .ptr (some (H.length, 0))), (2, .ptr (some (H.length + 1, 0))), (3, s), (11, .sl (some (b, 0)) n none), (12, .int .i64 n), (13, .int .i64 ((i + 1 : Nat) : Int))] ∧ absH (H.length + l1.length) (sig H.length l1.length [0, 1, 2]) l1 [0, 1, 2] [.cells true 0 [.int .i64 x, .int .i64 y, .sl (some (b, 0)) n cap], .cells true 0 [.int .i64 0, .int .i64 0, .sl none 0 (some 0)], X]) → J F (H ++ l1) := fun hf F l1 ha =>
        hJ _ _ ⟨k - 1, by omega, _, _, _, ⟨i + 1, _, _, by omega, by rw [hds, if_pos hf, List.append_nil]; exact hO, rfl, rfl⟩, Abs.by hbel [0, 1, 2] (by decide) ha⟩
      have fin1 : ∀ u v : Int, nrm (gp l i) = (u, v) → (u, v) ≠ ((0 : Int), (0 : Int)) → ∀ (F : Fr) (l1 : AHeap), (absF (H.length + l1.length) (sig H.length l1.length [0, 1, 5]) F [(1, .ptr (some (H.length, 0))), (2, .ptr (some (H.length + 1, 0))), (3, .sl (some (H.length + 2, 0)) ((dirs (l.take i)).length + 1) none), (11, .sl (some (b, 0)) n none), (12, .int .i64 n), (13, .int .i64 ((i + 1 : Nat) : Int))] ∧ absH (H.length + l1.length) (sig H.length l1.length [0, 1, 5]) l1 [0, 1, 5] [.cells true 0 [.int .i64 x, .int .i64 y, .sl (some (b, 0)) n cap], .cells true 0 [.int .i64 0, .int .i64 0, .sl none 0 (some 0)], .cells true 2 (prs (dirs (l.take i) ++ [(u, v)]))]) → J F (H ++ l1) := fun u v hf hne F l1 ha =>
        hJ _ _ ⟨k - 1, by omega, _, _, _, ⟨i + 1, _, _, by omega, by rw [hds, if_neg (by rw [hf]; exact hne), hf]; exact .inr ⟨by simp, by simp, rfl⟩, rfl, rfl⟩, Abs.by hbel [0, 1, 5] (by decide) ha⟩
      generalize dirs (l.take i) = L at *
      have hLt : List.take (L.length * 2) (prs L) = prs L := List.take_of_length_le (by rw [prs_len]; omega)
      by_cases h1 : g2 l i < 0
      · have hz : (0 - g2 l i == 0) = false := beq_eq_false_iff_ne.2 (by omega)
        have hf : nrm (gp l i) = (0 - g1 l i, 0 - g2 l i) := by unfold nrm; rw [if_pos (by simp only [gp]; omega)]; simp only [gp, Int.zero_sub]
        have hne : ((0 - g1 l i, 0 - g2 l i) : Int × Int) ≠ (0, 0) := by intro h; simp only [Prod.mk.injEq] at h; omega
        rcases hO with ⟨rfl, rfl, rfl⟩ | ⟨hL0, rfl, rfl⟩
        · simp -implicitDefEqProofs (disch := omega) only [h1, hz, Bool.and_false, amset, tyset, gdL, lightOf, dsts, AGd.eq_1, AGd.eq_2, ADo, lateOk, belowV, lenV, Int.reduceToNat, Int.reduceBEq, Int.reduceBNe, Int.reduceLT, Int.reduceLE, calleeOf, aop, aev, look, putF, AV.ofValue, AV.ofCell, AV.cells, AV.flat, AV.one, aAlloc, aNew, aBox, aBuild, afill, splice, aBuildSlice, arep, aLoad, ard, ards, aStore, awrite, aFieldAddr, aField, aIndexAddr, aIndex, aExtract, aBound, aSlice, aInt, aBin, aUn, aConv, aLen, aAppend, aElems, aCopy, aMin2, aMax2, aFold, aBuiltin, aMakeSlice, aMapUpdate, aDelete, aLookup, argF, Nat.reduceBEq, Nat.reduceLT, isSh, aRes, one1, Nat.reduceMod, Nat.reducePow, Nat.reduceAdd, Nat.reduceLeDiff, Nat.reduceMul, Nat.reduceSub, Nat.reduceEqDiff, or_false, or_true, true_or]
          repeat refine And.intro (by omega) ?_
          refine fin1 _ _ hf hne _ _ ?_
          simp -implicitDefEqProofs (disch := omega) only [absF, absH, W_refl', W_any', W_agg, W_tup, Ws_cons, Ws_refl', Wc_refl', Wcs_cons, Wcs_nil, look, List.cons_append, List.nil_append, List.append_nil, List.length_cons, List.length_nil, Nat.zero_add, Nat.reduceAdd, AV.mv, AV.mvs, ABlk.mv, sig_new0, sig_newk, sig_lt, List.getElem?_cons_zero, List.getElem?_cons_succ, mvs_ints, mvs_bools, mvs_prs, mvs_append, cond_true, cond_false, beq_self_eq_true, Nat.reduceBEq, true_and, and_true, or_true, true_or, and_self, decide_true, Nat.add_zero, reduceCtorEq, false_or, or_false]
          repeat' (first | exact True.intro | exact Nat.add_lt_add_left (by decide) _ | exact Nat.lt_add_of_pos_right (by decide) | refine W_nils ?_ (Or.inr rfl) | refine W_nils ?_ (Or.inl rfl) | refine Wc_nils ?_ (Or.inr rfl) | refine Wc_nils ?_ (Or.inl rfl) | exact W_cap | rfl | refine And.intro ?_ ?_ | exact Or.inl rfl | exact Or.inr rfl | exact Or.inr (Or.inl rfl) | exact Or.inr (Or.inr BW.emp) | exact Or.inr BW.emp | exact BW.emp | refine Or.inr (BW.cells ?_) | refine BW.cells ?_ | refine Or.inr (Or.inr (BW.cells ?_)) | exact Wc_cap)
        · simp -implicitDefEqProofs (disch := omega) only [prs_snoc, hLt, h1, hz, Bool.and_false, amset, tyset, gdL, lightOf, dsts, AGd.eq_1, AGd.eq_2, ADo, lateOk, belowV, lenV, Int.reduceToNat, Int.reduceBEq, Int.reduceBNe, Int.reduceLT, Int.reduceLE, calleeOf, aop, aev, look, putF, AV.ofValue, AV.ofCell, AV.cells, AV.flat, AV.one, aAlloc, aNew, aBox, aBuild, afill, splice, aBuildSlice, arep, aLoad, ard, ards, aStore, awrite, aFieldAddr, aField, aIndexAddr, aIndex, aExtract, aBound, aSlice, aInt, aBin, aUn, aConv, aLen, aAppend, aElems, aCopy, aMin2, aMax2, aFold, aBuiltin, aMakeSlice, aMapUpdate, aDelete, aLookup, argF, Nat.reduceBEq, Nat.reduceLT, isSh, aRes, one1, Nat.reduceMod, Nat.reducePow, Nat.reduceAdd, Nat.reduceLeDiff, Nat.reduceMul, Nat.reduceSub, Nat.reduceEqDiff, or_false, or_true, true_or]
          repeat refine And.intro (by omega) ?_
          refine fin1 _ _ hf hne _ _ ?_
          simp -implicitDefEqProofs (disch := omega) only [absF, absH, W_refl', W_any', W_agg, W_tup, Ws_cons, Ws_refl', Wc_refl', Wcs_cons, Wcs_nil, look, List.cons_append, List.nil_append, List.append_nil, List.length_cons, List.length_nil, Nat.zero_add, Nat.reduceAdd, AV.mv, AV.mvs, ABlk.mv, sig_new0, sig_newk, sig_lt, List.getElem?_cons_zero, List.getElem?_cons_succ, mvs_ints, mvs_bools, mvs_prs, mvs_append, cond_true, cond_false, beq_self_eq_true, Nat.reduceBEq, true_and, and_true, or_true, true_or, and_self, decide_true, Nat.add_zero, reduceCtorEq, false_or, or_false]
          repeat' (first | exact True.intro | exact Nat.add_lt_add_left (by decide) _ | exact Nat.lt_add_of_pos_right (by decide) | refine W_nils ?_ (Or.inr rfl) | refine W_nils ?_ (Or.inl rfl) | refine Wc_nils ?_ (Or.inr rfl) | refine Wc_nils ?_ (Or.inl rfl) | exact W_cap | rfl | refine And.intro ?_ ?_ | exact Or.inl rfl | exact Or.inr rfl | exact Or.inr (Or.inl rfl) | exact Or.inr (Or.inr BW.emp) | exact Or.inr BW.emp | exact BW.emp | refine Or.inr (BW.cells ?_) | refine BW.cells ?_ | refine Or.inr (Or.inr (BW.cells ?_)) | exact Wc_cap)
      · cases h2 : (g2 l i == 0)
        · have h2' := beq_eq_false_iff_ne.1 h2
          have hf : nrm (gp l i) = (g1 l i, g2 l i) := by unfold nrm; rw [if_neg (by simp only [gp]; omega)]; rfl
          have hne : ((g1 l i, g2 l i) : Int × Int) ≠ (0, 0) := by intro h; simp only [Prod.mk.injEq] at h; omega
          rcases hO with ⟨rfl, rfl, rfl⟩ | ⟨hL0, rfl, rfl⟩
          · simp -implicitDefEqProofs (disch := omega) only [h1, h2, Bool.and_false, amset, tyset, gdL, lightOf, dsts, AGd.eq_1, AGd.eq_2, ADo, lateOk, belowV, lenV, Int.reduceToNat, Int.reduceBEq, Int.reduceBNe, Int.reduceLT, Int.reduceLE, calleeOf, aop, aev, look, putF, AV.ofValue, AV.ofCell, AV.cells, AV.flat, AV.one, aAlloc, aNew, aBox, aBuild, afill, splice, aBuildSlice, arep, aLoad, ard, ards, aStore, awrite, aFieldAddr, aField, aIndexAddr, aIndex, aExtract, aBound, aSlice, aInt, aBin, aUn, aConv, aLen, aAppend, aElems, aCopy, aMin2, aMax2, aFold, aBuiltin, aMakeSlice, aMapUpdate, aDelete, aLookup, argF, Nat.reduceBEq, Nat.reduceLT, isSh, aRes, one1, Nat.reduceMod, Nat.reducePow, Nat.reduceAdd, Nat.reduceLeDiff, Nat.reduceMul, Nat.reduceSub, Nat.reduceEqDiff, or_false, or_true, true_or]
            repeat refine And.intro (by omega) ?_
            refine fin1 _ _ hf hne _ _ ?_
            simp -implicitDefEqProofs (disch := omega) only [absF, absH, W_refl', W_any', W_agg, W_tup, Ws_cons, Ws_refl', Wc_refl', Wcs_cons, Wcs_nil, look, List.cons_append, List.nil_append, List.append_nil, List.length_cons, List.length_nil, Nat.zero_add, Nat.reduceAdd, AV.mv, AV.mvs, ABlk.mv, sig_new0, sig_newk, sig_lt, List.getElem?_cons_zero, List.getElem?_cons_succ, mvs_ints, mvs_bools, mvs_prs, mvs_append, cond_true, cond_false, beq_self_eq_true, Nat.reduceBEq, true_and, and_true, or_true, true_or, and_self, decide_true, Nat.add_zero, reduceCtorEq, false_or, or_false]
            repeat' (first | exact True.intro | exact Nat.add_lt_add_left (by decide) _ | exact Nat.lt_add_of_pos_right (by decide) | refine W_nils ?_ (Or.inr rfl) | refine W_nils ?_ (Or.inl rfl) | refine Wc_nils ?_ (Or.inr rfl) | refine Wc_nils ?_ (Or.inl rfl) | exact W_cap | rfl | refine And.intro ?_ ?_ | exact Or.inl rfl | exact Or.inr rfl | exact Or.inr (Or.inl rfl) | exact Or.inr (Or.inr BW.emp) | exact Or.inr BW.emp | exact BW.emp | refine Or.inr (BW.cells ?_) | refine BW.cells ?_ | refine Or.inr (Or.inr (BW.cells ?_)) | exact Wc_cap)
          · simp -implicitDefEqProofs (disch := omega) only [prs_snoc, hLt, h1, h2, Bool.and_false, amset, tyset, gdL, lightOf, dsts, AGd.eq_1, AGd.eq_2, ADo, lateOk, belowV, lenV, Int.reduceToNat, Int.reduceBEq, Int.reduceBNe, Int.reduceLT, Int.reduceLE, calleeOf, aop, aev, look, putF, AV.ofValue, AV.ofCell, AV.cells, AV.flat, AV.one, aAlloc, aNew, aBox, aBuild, afill, splice, aBuildSlice, arep, aLoad, ard, ards, aStore, awrite, aFieldAddr, aField, aIndexAddr, aIndex, aExtract, aBound, aSlice, aInt, aBin, aUn, aConv, aLen, aAppend, aElems, aCopy, aMin2, aMax2, aFold, aBuiltin, aMakeSlice, aMapUpdate, aDelete, aLookup, argF, Nat.reduceBEq, Nat.reduceLT, isSh, aRes, one1, Nat.reduceMod, Nat.reducePow, Nat.reduceAdd, Nat.reduceLeDiff, Nat.reduceMul, Nat.reduceSub, Nat.reduceEqDiff, or_false, or_true, true_or]
            repeat refine And.intro (by omega) ?_
            refine fin1 _ _ hf hne _ _ ?_
            simp -implicitDefEqProofs (disch := omega) only [absF, absH, W_refl', W_any', W_agg, W_tup, Ws_cons, Ws_refl', Wc_refl', Wcs_cons, Wcs_nil, look, List.cons_append, List.nil_append, List.append_nil, List.length_cons, List.length_nil, Nat.zero_add, Nat.reduceAdd, AV.mv, AV.mvs, ABlk.mv, sig_new0, sig_newk, sig_lt, List.getElem?_cons_zero, List.getElem?_cons_succ, mvs_ints, mvs_bools, mvs_prs, mvs_append, cond_true, cond_false, beq_self_eq_true, Nat.reduceBEq, true_and, and_true, or_true, true_or, and_self, decide_true, Nat.add_zero, reduceCtorEq, false_or, or_false]
            repeat' (first | exact True.intro | exact Nat.add_lt_add_left (by decide) _ | exact Nat.lt_add_of_pos_right (by decide) | refine W_nils ?_ (Or.inr rfl) | refine W_nils ?_ (Or.inl rfl) | refine Wc_nils ?_ (Or.inr rfl) | refine Wc_nils ?_ (Or.inl rfl) | exact W_cap | rfl | refine And.intro ?_ ?_ | exact Or.inl rfl | exact Or.inr rfl | exact Or.inr (Or.inl rfl) | exact Or.inr (Or.inr BW.emp) | exact Or.inr BW.emp | exact BW.emp | refine Or.inr (BW.cells ?_) | refine BW.cells ?_ | refine Or.inr (Or.inr (BW.cells ?_)) | exact Wc_cap)
        · have h2' := beq_iff_eq.1 h2
          by_cases h3 : g1 l i < 0
          · have hz : (0 - g1 l i == 0) = false := beq_eq_false_iff_ne.2 (by omega)
            have hf : nrm (gp l i) = (0 - g1 l i, 0 - g2 l i) := by unfold nrm; rw [if_pos (by simp only [gp]; omega)]; simp only [gp, Int.zero_sub]
            have hne : ((0 - g1 l i, 0 - g2 l i) : Int × Int) ≠ (0, 0) := by intro h; simp only [Prod.mk.injEq] at h; omega
            rcases hO with ⟨rfl, rfl, rfl⟩ | ⟨hL0, rfl, rfl⟩
            · simp -implicitDefEqProofs (disch := omega) only [h1, h2, h3, hz, Bool.false_and, amset, tyset, gdL, lightOf, dsts, AGd.eq_1, AGd.eq_2, ADo, lateOk, belowV, lenV, Int.reduceToNat, Int.reduceBEq, Int.reduceBNe, Int.reduceLT, Int.reduceLE, calleeOf, aop, aev, look, putF, AV.ofValue, AV.ofCell, AV.cells, AV.flat, AV.one, aAlloc, aNew, aBox, aBuild, afill, splice, aBuildSlice, arep, aLoad, ard, ards, aStore, awrite, aFieldAddr, aField, aIndexAddr, aIndex, aExtract, aBound, aSlice, aInt, aBin, aUn, aConv, aLen, aAppend, aElems, aCopy, aMin2, aMax2, aFold, aBuiltin, aMakeSlice, aMapUpdate, aDelete, aLookup, argF, Nat.reduceBEq, Nat.reduceLT, isSh, aRes, one1, Nat.reduceMod, Nat.reducePow, Nat.reduceAdd, Nat.reduceLeDiff, Nat.reduceMul, Nat.reduceSub, Nat.reduceEqDiff, or_false, or_true, true_or]
              repeat refine And.intro (by omega) ?_
              refine fin1 _ _ hf hne _ _ ?_
              simp -implicitDefEqProofs (disch := omega) only [absF, absH, W_refl', W_any', W_agg, W_tup, Ws_cons, Ws_refl', Wc_refl', Wcs_cons, Wcs_nil, look, List.cons_append, List.nil_append, List.append_nil, List.length_cons, List.length_nil, Nat.zero_add, Nat.reduceAdd, AV.mv, AV.mvs, ABlk.mv, sig_new0, sig_newk, sig_lt, List.getElem?_cons_zero, List.getElem?_cons_succ, mvs_ints, mvs_bools, mvs_prs, mvs_append, cond_true, cond_false, beq_self_eq_true, Nat.reduceBEq, true_and, and_true, or_true, true_or, and_self, decide_true, Nat.add_zero, reduceCtorEq, false_or, or_false]
              repeat' (first | exact True.intro | exact Nat.add_lt_add_left (by decide) _ | exact Nat.lt_add_of_pos_right (by decide) | refine W_nils ?_ (Or.inr rfl) | refine W_nils ?_ (Or.inl rfl) | refine Wc_nils ?_ (Or.inr rfl) | refine Wc_nils ?_ (Or.inl rfl) | exact W_cap | rfl | refine And.intro ?_ ?_ | exact Or.inl rfl | exact Or.inr rfl | exact Or.inr (Or.inl rfl) | exact Or.inr (Or.inr BW.emp) | exact Or.inr BW.emp | exact BW.emp | refine Or.inr (BW.cells ?_) | refine BW.cells ?_ | refine Or.inr (Or.inr (BW.cells ?_)) | exact Wc_cap)
            · simp -implicitDefEqProofs (disch := omega) only [prs_snoc, hLt, h1, h2, h3, hz, Bool.false_and, amset, tyset, gdL, lightOf, dsts, AGd.eq_1, AGd.eq_2, ADo, lateOk, belowV, lenV, Int.reduceToNat, Int.reduceBEq, Int.reduceBNe, Int.reduceLT, Int.reduceLE, calleeOf, aop, aev, look, putF, AV.ofValue, AV.ofCell, AV.cells, AV.flat, AV.one, aAlloc, aNew, aBox, aBuild, afill, splice, aBuildSlice, arep, aLoad, ard, ards, aStore, awrite, aFieldAddr, aField, aIndexAddr, aIndex, aExtract, aBound, aSlice, aInt, aBin, aUn, aConv, aLen, aAppend, aElems, aCopy, aMin2, aMax2, aFold, aBuiltin, aMakeSlice, aMapUpdate, aDelete, aLookup, argF, Nat.reduceBEq, Nat.reduceLT, isSh, aRes, one1, Nat.reduceMod, Nat.reducePow, Nat.reduceAdd, Nat.reduceLeDiff, Nat.reduceMul, Nat.reduceSub, Nat.reduceEqDiff, or_false, or_true, true_or]
              repeat refine And.intro (by omega) ?_
              refine fin1 _ _ hf hne _ _ ?_
              simp -implicitDefEqProofs (disch := omega) only [absF, absH, W_refl', W_any', W_agg, W_tup, Ws_cons, Ws_refl', Wc_refl', Wcs_cons, Wcs_nil, look, List.cons_append, List.nil_append, List.append_nil, List.length_cons, List.length_nil, Nat.zero_add, Nat.reduceAdd, AV.mv, AV.mvs, ABlk.mv, sig_new0, sig_newk, sig_lt, List.getElem?_cons_zero, List.getElem?_cons_succ, mvs_ints, mvs_bools, mvs_prs, mvs_append, cond_true, cond_false, beq_self_eq_true, Nat.reduceBEq, true_and, and_true, or_true, true_or, and_self, decide_true, Nat.add_zero, reduceCtorEq, false_or, or_false]
              repeat' (first | exact True.intro | exact Nat.add_lt_add_left (by decide) _ | exact Nat.lt_add_of_pos_right (by decide) | refine W_nils ?_ (Or.inr rfl) | refine W_nils ?_ (Or.inl rfl) | refine Wc_nils ?_ (Or.inr rfl) | refine Wc_nils ?_ (Or.inl rfl) | exact W_cap | rfl | refine And.intro ?_ ?_ | exact Or.inl rfl | exact Or.inr rfl | exact Or.inr (Or.inl rfl) | exact Or.inr (Or.inr BW.emp) | exact Or.inr BW.emp | exact BW.emp | refine Or.inr (BW.cells ?_) | refine BW.cells ?_ | refine Or.inr (Or.inr (BW.cells ?_)) | exact Wc_cap)
          · cases h4 : (g1 l i == 0)
            · have h4' := beq_eq_false_iff_ne.1 h4
              have hf : nrm (gp l i) = (g1 l i, g2 l i) := by unfold nrm; rw [if_neg (by simp only [gp]; omega)]; rfl
              have hne : ((g1 l i, g2 l i) : Int × Int) ≠ (0, 0) := by intro h; simp only [Prod.mk.injEq] at h; omega
              rcases hO with ⟨rfl, rfl, rfl⟩ | ⟨hL0, rfl, rfl⟩
              · simp -implicitDefEqProofs (disch := omega) only [h1, h2, h3, h4, Bool.false_and, amset, tyset, gdL, lightOf, dsts, AGd.eq_1, AGd.eq_2, ADo, lateOk, belowV, lenV, Int.reduceToNat, Int.reduceBEq, Int.reduceBNe, Int.reduceLT, Int.reduceLE, calleeOf, aop, aev, look, putF, AV.ofValue, AV.ofCell, AV.cells, AV.flat, AV.one, aAlloc, aNew, aBox, aBuild, afill, splice, aBuildSlice, arep, aLoad, ard, ards, aStore, awrite, aFieldAddr, aField, aIndexAddr, aIndex, aExtract, aBound, aSlice, aInt, aBin, aUn, aConv, aLen, aAppend, aElems, aCopy, aMin2, aMax2, aFold, aBuiltin, aMakeSlice, aMapUpdate, aDelete, aLookup, argF, Nat.reduceBEq, Nat.reduceLT, isSh, aRes, one1, Nat.reduceMod, Nat.reducePow, Nat.reduceAdd, Nat.reduceLeDiff, Nat.reduceMul, Nat.reduceSub, Nat.reduceEqDiff, or_false, or_true, true_or]
                repeat refine And.intro (by omega) ?_
                refine fin1 _ _ hf hne _ _ ?_
                simp -implicitDefEqProofs (disch := omega) only [absF, absH, W_refl', W_any', W_agg, W_tup, Ws_cons, Ws_refl', Wc_refl', Wcs_cons, Wcs_nil, look, List.cons_append, List.nil_append, List.append_nil, List.length_cons, List.length_nil, Nat.zero_add, Nat.reduceAdd, AV.mv, AV.mvs, ABlk.mv, sig_new0, sig_newk, sig_lt, List.getElem?_cons_zero, List.getElem?_cons_succ, mvs_ints, mvs_bools, mvs_prs, mvs_append, cond_true, cond_false, beq_self_eq_true, Nat.reduceBEq, true_and, and_true, or_true, true_or, and_self, decide_true, Nat.add_zero, reduceCtorEq, false_or, or_false]
                repeat' (first | exact True.intro | exact Nat.add_lt_add_left (by decide) _ | exact Nat.lt_add_of_pos_right (by decide) | refine W_nils ?_ (Or.inr rfl) | refine W_nils ?_ (Or.inl rfl) | refine Wc_nils ?_ (Or.inr rfl) | refine Wc_nils ?_ (Or.inl rfl) | exact W_cap | rfl | refine And.intro ?_ ?_ | exact Or.inl rfl | exact Or.inr rfl | exact Or.inr (Or.inl rfl) | exact Or.inr (Or.inr BW.emp) | exact Or.inr BW.emp | exact BW.emp | refine Or.inr (BW.cells ?_) | refine BW.cells ?_ | refine Or.inr (Or.inr (BW.cells ?_)) | exact Wc_cap)
              · simp -implicitDefEqProofs (disch := omega) only [prs_snoc, hLt, h1, h2, h3, h4, Bool.false_and, amset, tyset, gdL, lightOf, dsts, AGd.eq_1, AGd.eq_2, ADo, lateOk, belowV, lenV, Int.reduceToNat, Int.reduceBEq, Int.reduceBNe, Int.reduceLT, Int.reduceLE, calleeOf, aop, aev, look, putF, AV.ofValue, AV.ofCell, AV.cells, AV.flat, AV.one, aAlloc, aNew, aBox, aBuild, afill, splice, aBuildSlice, arep, aLoad, ard, ards, aStore, awrite, aFieldAddr, aField, aIndexAddr, aIndex, aExtract, aBound, aSlice, aInt, aBin, aUn, aConv, aLen, aAppend, aElems, aCopy, aMin2, aMax2, aFold, aBuiltin, aMakeSlice, aMapUpdate, aDelete, aLookup, argF, Nat.reduceBEq, Nat.reduceLT, isSh, aRes, one1, Nat.reduceMod, Nat.reducePow, Nat.reduceAdd, Nat.reduceLeDiff, Nat.reduceMul, Nat.reduceSub, Nat.reduceEqDiff, or_false, or_true, true_or]
                repeat refine And.intro (by omega) ?_
                refine fin1 _ _ hf hne _ _ ?_
                simp -implicitDefEqProofs (disch := omega) only [absF, absH, W_refl', W_any', W_agg, W_tup, Ws_cons, Ws_refl', Wc_refl', Wcs_cons, Wcs_nil, look, List.cons_append, List.nil_append, List.append_nil, List.length_cons, List.length_nil, Nat.zero_add, Nat.reduceAdd, AV.mv, AV.mvs, ABlk.mv, sig_new0, sig_newk, sig_lt, List.getElem?_cons_zero, List.getElem?_cons_succ, mvs_ints, mvs_bools, mvs_prs, mvs_append, cond_true, cond_false, beq_self_eq_true, Nat.reduceBEq, true_and, and_true, or_true, true_or, and_self, decide_true, Nat.add_zero, reduceCtorEq, false_or, or_false]
                repeat' (first | exact True.intro | exact Nat.add_lt_add_left (by decide) _ | exact Nat.lt_add_of_pos_right (by decide) | refine W_nils ?_ (Or.inr rfl) | refine W_nils ?_ (Or.inl rfl) | refine Wc_nils ?_ (Or.inr rfl) | refine Wc_nils ?_ (Or.inl rfl) | exact W_cap | rfl | refine And.intro ?_ ?_ | exact Or.inl rfl | exact Or.inr rfl | exact Or.inr (Or.inl rfl) | exact Or.inr (Or.inr BW.emp) | exact Or.inr BW.emp | exact BW.emp | refine Or.inr (BW.cells ?_) | refine BW.cells ?_ | refine Or.inr (Or.inr (BW.cells ?_)) | exact Wc_cap)
            · have h4' := beq_iff_eq.1 h4
              simp -implicitDefEqProofs (disch := omega) only [h1, h2, h3, h4, amset, tyset, gdL, lightOf, dsts, AGd.eq_1, AGd.eq_2, ADo, lateOk, belowV, lenV, Int.reduceToNat, Int.reduceBEq, Int.reduceBNe, Int.reduceLT, Int.reduceLE, calleeOf, aop, aev, look, putF, AV.ofValue, AV.ofCell, AV.cells, AV.flat, AV.one, aAlloc, aNew, aBox, aBuild, afill, splice, aBuildSlice, arep, aLoad, ard, ards, aStore, awrite, aFieldAddr, aField, aIndexAddr, aIndex, aExtract, aBound, aSlice, aInt, aBin, aUn, aConv, aLen, aAppend, aElems, aCopy, aMin2, aMax2, aFold, aBuiltin, aMakeSlice, aMapUpdate, aDelete, aLookup, argF, Nat.reduceBEq, Nat.reduceLT, isSh, aRes, one1, Nat.reduceMod, Nat.reducePow, Nat.reduceAdd, Nat.reduceLeDiff, Nat.reduceMul, Nat.reduceSub, Nat.reduceEqDiff, or_false, or_true, true_or]
              refine fin0 (by unfold nrm; rw [if_neg (by simp only [gp]; omega)]; exact Prod.ext h4' h2') _ _ ?_
              rcases hO with ⟨-, rfl, rfl⟩ | ⟨-, rfl, rfl⟩
              · simp -implicitDefEqProofs (disch := omega) only [absF, absH, W_refl', W_any', W_agg, W_tup, Ws_cons, Ws_refl', Wc_refl', Wcs_cons, Wcs_nil, look, List.cons_append, List.nil_append, List.append_nil, List.length_cons, List.length_nil, Nat.zero_add, Nat.reduceAdd, AV.mv, AV.mvs, ABlk.mv, sig_new0, sig_newk, sig_lt, List.getElem?_cons_zero, List.getElem?_cons_succ, mvs_ints, mvs_bools, mvs_prs, mvs_append, cond_true, cond_false, beq_self_eq_true, Nat.reduceBEq, true_and, and_true, or_true, true_or, and_self, decide_true, Nat.add_zero, reduceCtorEq, false_or, or_false]
                repeat' (first | exact True.intro | exact Nat.add_lt_add_left (by decide) _ | exact Nat.lt_add_of_pos_right (by decide) | refine W_nils ?_ (Or.inr rfl) | refine W_nils ?_ (Or.inl rfl) | refine Wc_nils ?_ (Or.inr rfl) | refine Wc_nils ?_ (Or.inl rfl) | exact W_cap | rfl | refine And.intro ?_ ?_ | exact Or.inl rfl | exact Or.inr rfl | exact Or.inr (Or.inl rfl) | exact Or.inr (Or.inr BW.emp) | exact Or.inr BW.emp | exact BW.emp | refine Or.inr (BW.cells ?_) | refine BW.cells ?_ | refine Or.inr (Or.inr (BW.cells ?_)) | exact Wc_cap)
              · simp -implicitDefEqProofs (disch := omega) only [absF, absH, W_refl', W_any', W_agg, W_tup, Ws_cons, Ws_refl', Wc_refl', Wcs_cons, Wcs_nil, look, List.cons_append, List.nil_append, List.append_nil, List.length_cons, List.length_nil, Nat.zero_add, Nat.reduceAdd, AV.mv, AV.mvs, ABlk.mv, sig_new0, sig_newk, sig_lt, List.getElem?_cons_zero, List.getElem?_cons_succ, mvs_ints, mvs_bools, mvs_prs, mvs_append, cond_true, cond_false, beq_self_eq_true, Nat.reduceBEq, true_and, and_true, or_true, true_or, and_self, decide_true, Nat.add_zero, reduceCtorEq, false_or, or_false]
                repeat' (first | exact True.intro | exact Nat.add_lt_add_left (by decide) _ | exact Nat.lt_add_of_pos_right (by decide) | refine W_nils ?_ (Or.inr rfl) | refine W_nils ?_ (Or.inl rfl) | refine Wc_nils ?_ (Or.inr rfl) | refine Wc_nils ?_ (Or.inl rfl) | exact W_cap | rfl | refine And.intro ?_ ?_ | exact Or.inl rfl | exact Or.inr rfl | exact Or.inr (Or.inl rfl) | exact Or.inr (Or.inr BW.emp) | exact Or.inr BW.emp | exact BW.emp | refine Or.inr (BW.cells ?_) | refine BW.cells ?_ | refine Or.inr (Or.inr (BW.cells ?_)) | exact Wc_cap)
    · have hnn : ¬ ((i : Int) < (n : Int)) := by omega
      rw [List.take_of_length_le (by omega)] at hO
      have hdb := dirs_bd hB
      have hdu := dirs_up (l := l)
      have hdl := dirs_len l
      have hme := fun S => merge_eq (l := l) (S := S)
      generalize dirs l = L at *
      rcases hO with ⟨rfl, rfl, rfl⟩ | ⟨hL0, rfl, rfl⟩
      · have hc0 : canonL l = [] := (hme [] (.refl _) .nil).symm
        rw [hc0, retP_nil] at hQ
        simp -implicitDefEqProofs (disch := omega) only [hnn, amset, tyset, gdL, lightOf, dsts, AGd.eq_1, AGd.eq_2, ADo, lateOk, belowV, lenV, Int.reduceToNat, Int.reduceBEq, Int.reduceBNe, Int.reduceLT, Int.reduceLE, calleeOf, aop, aev, look, putF, AV.ofValue, AV.ofCell, AV.cells, AV.flat, AV.one, aAlloc, aNew, aBox, aBuild, afill, splice, aBuildSlice, arep, aLoad, ard, ards, aStore, awrite, aFieldAddr, aField, aIndexAddr, aIndex, aExtract, aBound, aSlice, aInt, aBin, aUn, aConv, aLen, aAppend, aElems, aCopy, aMin2, aMax2, aFold, aBuiltin, aMakeSlice, aMapUpdate, aDelete, aLookup, argF, Nat.reduceBEq, Nat.reduceLT, isSh, aRes, one1, Nat.reduceMod, Nat.reducePow, Nat.reduceAdd, Nat.reduceLeDiff, Nat.reduceMul, Nat.reduceSub, Nat.reduceEqDiff, or_false, or_true, true_or]
        refine call_v (by kernel_rfl) (sortnil_c _) ?_
        simp -implicitDefEqProofs (disch := omega) only [amset, tyset, gdL, lightOf, dsts, AGd.eq_1, AGd.eq_2, ADo, lateOk, belowV, lenV, Int.reduceToNat, Int.reduceBEq, Int.reduceBNe, Int.reduceLT, Int.reduceLE, calleeOf, aop, aev, look, putF, AV.ofValue, AV.ofCell, AV.cells, AV.flat, AV.one, aAlloc, aNew, aBox, aBuild, afill, splice, aBuildSlice, arep, aLoad, ard, ards, aStore, awrite, aFieldAddr, aField, aIndexAddr, aIndex, aExtract, aBound, aSlice, aInt, aBin, aUn, aConv, aLen, aAppend, aElems, aCopy, aMin2, aMax2, aFold, aBuiltin, aMakeSlice, aMapUpdate, aDelete, aLookup, argF, Nat.reduceBEq, Nat.reduceLT, isSh, aRes, one1, Nat.reduceMod, Nat.reducePow, Nat.reduceAdd, Nat.reduceLeDiff, Nat.reduceMul, Nat.reduceSub, Nat.reduceEqDiff, or_false, or_true, true_or]
        refine go_loop try_mixed (by kernel_rfl) (fun k F Hx => F = [(2, .ptr (some (H.length, 0))), (6, .ptr (some (H.length + 1, 0))), (53, .int .i64 0), (54, .int .i64 0)] ∧ Hx = H ++ [.cells true 0 [.int .i64 0, .int .i64 0, .sl none 0 (some 0)], .cells true 0 [.int .i64 x, .int .i64 y, .sl none 0 (some 0)]]) 1 ?_ ?_
        · refine ⟨_, _, _, ⟨rfl, rfl⟩, Abs.by hbel [1, 3] (by decide) ?_⟩
          simp -implicitDefEqProofs (disch := omega) only [absF, absH, W_refl', W_any', W_agg, W_tup, Ws_cons, Ws_refl', Wc_refl', Wcs_cons, Wcs_nil, look, List.cons_append, List.nil_append, List.append_nil, List.length_cons, List.length_nil, Nat.zero_add, Nat.reduceAdd, AV.mv, AV.mvs, ABlk.mv, sig_new0, sig_newk, sig_lt, List.getElem?_cons_zero, List.getElem?_cons_succ, mvs_ints, mvs_bools, mvs_prs, mvs_append, cond_true, cond_false, beq_self_eq_true, Nat.reduceBEq, true_and, and_true, or_true, true_or, and_self, decide_true, Nat.add_zero, reduceCtorEq, false_or, or_false]
          repeat' (first | exact True.intro | exact Nat.add_lt_add_left (by decide) _ | exact Nat.lt_add_of_pos_right (by decide) | refine W_nils ?_ (Or.inr rfl) | refine W_nils ?_ (Or.inl rfl) | refine Wc_nils ?_ (Or.inr rfl) | refine Wc_nils ?_ (Or.inl rfl) | exact W_cap | rfl | refine And.intro ?_ ?_ | exact Or.inl rfl | exact Or.inr rfl | exact Or.inr (Or.inl rfl) | exact Or.inr (Or.inr BW.emp) | exact Or.inr BW.emp | exact BW.emp | refine Or.inr (BW.cells ?_) | refine BW.cells ?_ | refine Or.inr (Or.inr (BW.cells ?_)) | exact Wc_cap)
        · rintro k F Hx ⟨rfl, rfl⟩ J hJ
          simp -implicitDefEqProofs (disch := omega) only [Int.lt_irrefl, amset, tyset, gdL, lightOf, dsts, AGd.eq_1, AGd.eq_2, ADo, lateOk, belowV, lenV, Int.reduceToNat, Int.reduceBEq, Int.reduceBNe, Int.reduceLT, Int.reduceLE, calleeOf, aop, aev, look, putF, AV.ofValue, AV.ofCell, AV.cells, AV.flat, AV.one, aAlloc, aNew, aBox, aBuild, afill, splice, aBuildSlice, arep, aLoad, ard, ards, aStore, awrite, aFieldAddr, aField, aIndexAddr, aIndex, aExtract, aBound, aSlice, aInt, aBin, aUn, aConv, aLen, aAppend, aElems, aCopy, aMin2, aMax2, aFold, aBuiltin, aMakeSlice, aMapUpdate, aDelete, aLookup, argF, Nat.reduceBEq, Nat.reduceLT, isSh, aRes, one1, Nat.reduceMod, Nat.reducePow, Nat.reduceAdd, Nat.reduceLeDiff, Nat.reduceMul, Nat.reduceSub, Nat.reduceEqDiff, or_false, or_true, true_or]
          exact hQ _ _ (end_plain (.inl rfl) hbel (x := .agg [.int .i64 x, .int .i64 y, .sl none 0 (some 0)]) (ret_of Try.results44 (by simp -implicitDefEqProofs (disch := omega) only [amset, tyset, gdL, lightOf, dsts, AGd.eq_1, AGd.eq_2, ADo, lateOk, belowV, lenV, Int.reduceToNat, Int.reduceBEq, Int.reduceBNe, Int.reduceLT, Int.reduceLE, calleeOf, aop, aev, look, putF, AV.ofValue, AV.ofCell, AV.cells, AV.flat, AV.one, aAlloc, aNew, aBox, aBuild, afill, splice, aBuildSlice, arep, aLoad, ard, ards, aStore, awrite, aFieldAddr, aField, aIndexAddr, aIndex, aExtract, aBound, aSlice, aInt, aBin, aUn, aConv, aLen, aAppend, aElems, aCopy, aMin2, aMax2, aFold, aBuiltin, aMakeSlice, aMapUpdate, aDelete, aLookup, argF, Nat.reduceBEq, Nat.reduceLT, isSh, aRes, one1, Nat.reduceMod, Nat.reducePow, Nat.reduceAdd, Nat.reduceLeDiff, Nat.reduceMul, Nat.reduceSub, Nat.reduceEqDiff, or_false, or_true, true_or])) rfl ⟨rfl, rfl⟩)
      · simp -implicitDefEqProofs (disch := omega) only [hnn, amset, tyset, gdL, lightOf, dsts, AGd.eq_1, AGd.eq_2, ADo, lateOk, belowV, lenV, Int.reduceToNat, Int.reduceBEq, Int.reduceBNe, Int.reduceLT, Int.reduceLE, calleeOf, aop, aev, look, putF, AV.ofValue, AV.ofCell, AV.cells, AV.flat, AV.one, aAlloc, aNew, aBox, aBuild, afill, splice, aBuildSlice, arep, aLoad, ard, ards, aStore, awrite, aFieldAddr, aField, aIndexAddr, aIndex, aExtract, aBound, aSlice, aInt, aBin, aUn, aConv, aLen, aAppend, aElems, aCopy, aMin2, aMax2, aFold, aBuiltin, aMakeSlice, aMapUpdate, aDelete, aLookup, argF, Nat.reduceBEq, Nat.reduceLT, isSh, aRes, one1, Nat.reduceMod, Nat.reducePow, Nat.reduceAdd, Nat.reduceLeDiff, Nat.reduceMul, Nat.reduceSub, Nat.reduceEqDiff, or_false, or_true, true_or]
        refine call_of (by kernel_rfl) (sortz_a (l := L) (by rw [get_newk]; rfl) (fun e he => ⟨hdu e he, ?_⟩) rfl hL0 (by omega)) ?_
        · have := hdb e he
          unfold Bd at *
          omega
        rintro x1 H1 ⟨rfl, S, hp, hs, rfl⟩
        have hcan := hme S hp hs
        have hSl : L.length = S.length := hp.length_eq.symm
        have hSb : ∀ e ∈ S, Bd 4194304 e := fun e he => hdb e (hp.mem_iff.1 he)
        clear hme
        have hm40 : S.length ≤ 40 := by omega
        rw [hSl]
        generalize hm : S.length = m at *
        simp -implicitDefEqProofs (disch := omega) only [amset, tyset, gdL, lightOf, dsts, AGd.eq_1, AGd.eq_2, ADo, lateOk, belowV, lenV, Int.reduceToNat, Int.reduceBEq, Int.reduceBNe, Int.reduceLT, Int.reduceLE, calleeOf, aop, aev, look, putF, AV.ofValue, AV.ofCell, AV.cells, AV.flat, AV.one, aAlloc, aNew, aBox, aBuild, afill, splice, aBuildSlice, arep, aLoad, ard, ards, aStore, awrite, aFieldAddr, aField, aIndexAddr, aIndex, aExtract, aBound, aSlice, aInt, aBin, aUn, aConv, aLen, aAppend, aElems, aCopy, aMin2, aMax2, aFold, aBuiltin, aMakeSlice, aMapUpdate, aDelete, aLookup, argF, Nat.reduceBEq, Nat.reduceLT, isSh, aRes, one1, Nat.reduceMod, Nat.reducePow, Nat.reduceAdd, Nat.reduceLeDiff, Nat.reduceMul, Nat.reduceSub, Nat.reduceEqDiff, or_false, or_true, true_or]
        refine go_loop try_mixed (by kernel_rfl) (fun k F Hx => ∃ (j : Nat) (s : AV) (X : ABlk), j + k = m ∧ OutP (H.length + 3) s X (mergeL (S.take j)) ∧
          F = [(2, .ptr (some (H.length, 0))), (6, .ptr (some (H.length + 2, 0))), (52, .sl (some (H.length + 1, 0)) m none), (53, .int .i64 m), (54, .int .i64 (j : Nat))] ∧
          Hx = H ++ [.cells true 0 [.int .i64 0, .int .i64 0, .sl none 0 (some 0)], .cells true 2 (prs S), .cells true 0 [.int .i64 x, .int .i64 y, s], X]) m ?_ ?_
        · refine ⟨_, _, _, ⟨0, _, _, by omega, .inl ⟨rfl, rfl, rfl⟩, rfl, rfl⟩, Abs.by hbel [1, 2, 3, 4] (by decide) ?_⟩
          simp -implicitDefEqProofs (disch := omega) only [absF, absH, W_refl', W_any', W_agg, W_tup, Ws_cons, Ws_refl', Wc_refl', Wcs_cons, Wcs_nil, look, List.cons_append, List.nil_append, List.append_nil, List.length_cons, List.length_nil, Nat.zero_add, Nat.reduceAdd, AV.mv, AV.mvs, ABlk.mv, sig_new0, sig_newk, sig_lt, List.getElem?_cons_zero, List.getElem?_cons_succ, mvs_ints, mvs_bools, mvs_prs, mvs_append, cond_true, cond_false, beq_self_eq_true, Nat.reduceBEq, true_and, and_true, or_true, true_or, and_self, decide_true, Nat.add_zero, reduceCtorEq, false_or, or_false]
          repeat' (first | exact True.intro | exact Nat.add_lt_add_left (by decide) _ | exact Nat.lt_add_of_pos_right (by decide) | refine W_nils ?_ (Or.inr rfl) | refine W_nils ?_ (Or.inl rfl) | refine Wc_nils ?_ (Or.inr rfl) | refine Wc_nils ?_ (Or.inl rfl) | exact W_cap | rfl | refine And.intro ?_ ?_ | exact Or.inl rfl | exact Or.inr rfl | exact Or.inr (Or.inl rfl) | exact Or.inr (Or.inr BW.emp) | exact Or.inr BW.emp | exact BW.emp | refine Or.inr (BW.cells ?_) | refine BW.cells ?_ | refine Or.inr (Or.inr (BW.cells ?_)) | exact Wc_cap)
        · rintro k F Hx ⟨j, s, X, hjk, hO, rfl, rfl⟩ J hJ
          by_cases hj : j < S.length
          · have hjj : (j : Int) < (m : Int) := by omega
            have q0 := prs_load hj
            have hg : gp S j = S[j] := gp_eq hj
            have hgb := hSb S[j] (List.getElem_mem hj)
            rw [← hg] at hgb
            have hbd : -4194304 ≤ g1 S j ∧ g1 S j ≤ 4194304 ∧ -4194304 ≤ g2 S j ∧ g2 S j ≤ 4194304 := hgb
            have hst : mergeL (S.take (j + 1)) = mst (mergeL (S.take j)) (gp S j) := by rw [List.take_succ_eq_append_getElem hj, mergeL, List.foldl_append, hg]; rfl
            have hmb := mergeL_bd (M := 4194304) (by decide) (S := S.take j) (fun e he => hSb e (List.mem_of_mem_take he))
            have hml := mergeL_len (S.take j)
            rw [List.length_take] at hmb hml
            generalize mergeL (S.take j) = L at *
            have hLt : List.take (L.length * 2) (prs L) = prs L := List.take_of_length_le (by rw [prs_len]; omega)
            rcases hO with ⟨rfl, rfl, rfl⟩ | ⟨hL1, rfl, rfl⟩
            · have hneg : ¬ (0 : Int) ≤ 0 - 1 := by omega
              simp -implicitDefEqProofs (disch := omega) only [hjj, q0, hneg, amset, tyset, gdL, lightOf, dsts, AGd.eq_1, AGd.eq_2, ADo, lateOk, belowV, lenV, Int.reduceToNat, Int.reduceBEq, Int.reduceBNe, Int.reduceLT, Int.reduceLE, calleeOf, aop, aev, look, putF, AV.ofValue, AV.ofCell, AV.cells, AV.flat, AV.one, aAlloc, aNew, aBox, aBuild, afill, splice, aBuildSlice, arep, aLoad, ard, ards, aStore, awrite, aFieldAddr, aField, aIndexAddr, aIndex, aExtract, aBound, aSlice, aInt, aBin, aUn, aConv, aLen, aAppend, aElems, aCopy, aMin2, aMax2, aFold, aBuiltin, aMakeSlice, aMapUpdate, aDelete, aLookup, argF, Nat.reduceBEq, Nat.reduceLT, isSh, aRes, one1, Nat.reduceMod, Nat.reducePow, Nat.reduceAdd, Nat.reduceLeDiff, Nat.reduceMul, Nat.reduceSub, Nat.reduceEqDiff, or_false, or_true, true_or]
              repeat refine And.intro (by omega) ?_
              refine hJ _ _ ⟨k - 1, by omega, _, [(2, .ptr (some (H.length, 0))), (6, .ptr (some (H.length + 2, 0))), (52, .sl (some (H.length + 1, 0)) m none), (53, .int .i64 m), (54, .int .i64 ((j + 1 : Nat) : Int))], H ++ [.cells true 0 [.int .i64 0, .int .i64 0, .sl none 0 (some 0)], .cells true 2 (prs S), .cells true 0 [.int .i64 x, .int .i64 y, .sl (some (H.length + 3, 0)) (0 + 1) none], .cells true 2 (prs [gp S j])], ⟨j + 1, .sl (some (H.length + 3, 0)) (0 + 1) none, .cells true 2 (prs [gp S j]), by omega, by rw [hst, mst_nil]; exact .inr ⟨by simp, rfl, rfl⟩, rfl, rfl⟩, Abs.by hbel [0, 1, 2, 6] (by decide) ?_⟩
              simp -implicitDefEqProofs (disch := omega) only [absF, absH, W_refl', W_any', W_agg, W_tup, Ws_cons, Ws_refl', Wc_refl', Wcs_cons, Wcs_nil, look, List.cons_append, List.nil_append, List.append_nil, List.length_cons, List.length_nil, Nat.zero_add, Nat.reduceAdd, AV.mv, AV.mvs, ABlk.mv, sig_new0, sig_newk, sig_lt, List.getElem?_cons_zero, List.getElem?_cons_succ, mvs_ints, mvs_bools, mvs_prs, mvs_append, cond_true, cond_false, beq_self_eq_true, Nat.reduceBEq, true_and, and_true, or_true, true_or, and_self, decide_true, Nat.add_zero, reduceCtorEq, false_or, or_false]
              repeat' (first | exact True.intro | exact Nat.add_lt_add_left (by decide) _ | exact Nat.lt_add_of_pos_right (by decide) | refine W_nils ?_ (Or.inr rfl) | refine W_nils ?_ (Or.inl rfl) | refine Wc_nils ?_ (Or.inr rfl) | refine Wc_nils ?_ (Or.inl rfl) | exact W_cap | rfl | refine And.intro ?_ ?_ | exact Or.inl rfl | exact Or.inr rfl | exact Or.inr (Or.inl rfl) | exact Or.inr (Or.inr BW.emp) | exact Or.inr BW.emp | exact BW.emp | refine Or.inr (BW.cells ?_) | refine BW.cells ?_ | refine Or.inr (Or.inr (BW.cells ?_)) | exact Wc_cap)
            · obtain ⟨p, hp1⟩ : ∃ p, L.length = p + 1 := ⟨L.length - 1, by omega⟩
              have hpi : (L.length : Int) - 1 = (p : Int) := by omega
              have hpl : p < L.length := by omega
              have hp0 : (0 : Int) ≤ (p : Int) := by omega
              have hgk : gp L p = L[p] := gp_eq hpl
              have hkb := hmb L[p] (List.getElem_mem hpl)
              rw [← hgk] at hkb
              have hkb2 : Bd 268435456 (gp L p) := by
                have : ((S.take j).length : Int) * 4194304 ≤ 40 * 4194304 := Int.mul_le_mul_of_nonneg_right (by rw [List.length_take]; omega) (by decide)
                unfold Bd at *
                omega
              have hkbd : -268435456 ≤ g1 L p ∧ g1 L p ≤ 268435456 ∧ -268435456 ≤ g2 L p ∧ g2 L p ≤ 268435456 := hkb2
              have hgb2 : Bd 268435456 (gp S j) := by unfold Bd at *; omega
              have q1 := prs_load hpl
              have hms := mst_pos (g := gp S j) hp1
              simp -implicitDefEqProofs (disch := omega) only [hjj, q0, hpi, q1, hp0, amset, tyset, gdL, lightOf, dsts, AGd.eq_1, AGd.eq_2, ADo, lateOk, belowV, lenV, Int.reduceToNat, Int.reduceBEq, Int.reduceBNe, Int.reduceLT, Int.reduceLE, calleeOf, aop, aev, look, putF, AV.ofValue, AV.ofCell, AV.cells, AV.flat, AV.one, aAlloc, aNew, aBox, aBuild, afill, splice, aBuildSlice, arep, aLoad, ard, ards, aStore, awrite, aFieldAddr, aField, aIndexAddr, aIndex, aExtract, aBound, aSlice, aInt, aBin, aUn, aConv, aLen, aAppend, aElems, aCopy, aMin2, aMax2, aFold, aBuiltin, aMakeSlice, aMapUpdate, aDelete, aLookup, argF, Nat.reduceBEq, Nat.reduceLT, isSh, aRes, one1, Nat.reduceMod, Nat.reducePow, Nat.reduceAdd, Nat.reduceLeDiff, Nat.reduceMul, Nat.reduceSub, Nat.reduceEqDiff, or_false, or_true, true_or]
              repeat refine And.intro (by omega) ?_
              refine call_d (by kernel_rfl) (cross_c _ (gp L p) (gp S j) hkb2 hgb2) ?_
              cases hc : (crs (gp L p) (gp S j) == 0)
              · rw [if_neg (beq_eq_false_iff_ne.1 hc)] at hms
                simp -implicitDefEqProofs (disch := omega) only [hc, prs_snoc, hLt, q1, q0, amset, tyset, gdL, lightOf, dsts, AGd.eq_1, AGd.eq_2, ADo, lateOk, belowV, lenV, Int.reduceToNat, Int.reduceBEq, Int.reduceBNe, Int.reduceLT, Int.reduceLE, calleeOf, aop, aev, look, putF, AV.ofValue, AV.ofCell, AV.cells, AV.flat, AV.one, aAlloc, aNew, aBox, aBuild, afill, splice, aBuildSlice, arep, aLoad, ard, ards, aStore, awrite, aFieldAddr, aField, aIndexAddr, aIndex, aExtract, aBound, aSlice, aInt, aBin, aUn, aConv, aLen, aAppend, aElems, aCopy, aMin2, aMax2, aFold, aBuiltin, aMakeSlice, aMapUpdate, aDelete, aLookup, argF, Nat.reduceBEq, Nat.reduceLT, isSh, aRes, one1, Nat.reduceMod, Nat.reducePow, Nat.reduceAdd, Nat.reduceLeDiff, Nat.reduceMul, Nat.reduceSub, Nat.reduceEqDiff, or_false, or_true, true_or]
                repeat refine And.intro (by omega) ?_
                refine hJ _ _ ⟨k - 1, by omega, _, [(2, .ptr (some (H.length, 0))), (6, .ptr (some (H.length + 2, 0))), (52, .sl (some (H.length + 1, 0)) m none), (53, .int .i64 m), (54, .int .i64 ((j + 1 : Nat) : Int))], H ++ [.cells true 0 [.int .i64 0, .int .i64 0, .sl none 0 (some 0)], .cells true 2 (prs S), .cells true 0 [.int .i64 x, .int .i64 y, .sl (some (H.length + 3, 0)) (L.length + 1) none], .cells true 2 (prs (L ++ [gp S j]))], ⟨j + 1, .sl (some (H.length + 3, 0)) (L.length + 1) none, .cells true 2 (prs (L ++ [gp S j])), by omega, by rw [hst, hms]; exact .inr ⟨by simp, by simp, rfl⟩, rfl, rfl⟩, Abs.by hbel [0, 1, 2, 6] (by decide) ?_⟩
                simp -implicitDefEqProofs (disch := omega) only [absF, absH, W_refl', W_any', W_agg, W_tup, Ws_cons, Ws_refl', Wc_refl', Wcs_cons, Wcs_nil, look, List.cons_append, List.nil_append, List.append_nil, List.length_cons, List.length_nil, Nat.zero_add, Nat.reduceAdd, AV.mv, AV.mvs, ABlk.mv, sig_new0, sig_newk, sig_lt, List.getElem?_cons_zero, List.getElem?_cons_succ, mvs_ints, mvs_bools, mvs_prs, mvs_append, cond_true, cond_false, beq_self_eq_true, Nat.reduceBEq, true_and, and_true, or_true, true_or, and_self, decide_true, Nat.add_zero, reduceCtorEq, false_or, or_false]
                repeat' (first | exact True.intro | exact Nat.add_lt_add_left (by decide) _ | exact Nat.lt_add_of_pos_right (by decide) | refine W_nils ?_ (Or.inr rfl) | refine W_nils ?_ (Or.inl rfl) | refine Wc_nils ?_ (Or.inr rfl) | refine Wc_nils ?_ (Or.inl rfl) | exact W_cap | rfl | refine And.intro ?_ ?_ | exact Or.inl rfl | exact Or.inr rfl | exact Or.inr (Or.inl rfl) | exact Or.inr (Or.inr BW.emp) | exact Or.inr BW.emp | exact BW.emp | refine Or.inr (BW.cells ?_) | refine BW.cells ?_ | refine Or.inr (Or.inr (BW.cells ?_)) | exact Wc_cap)
              · rw [if_pos (beq_iff_eq.1 hc)] at hms
                have q2 := prs_at0 hpl
                have q3 := prs_at1 hpl
                have q4 := prs_set0 (v := g1 L p + g1 S j) hpl
                have q5 := prs_at1 (l := L.set p (g1 L p + g1 S j, g2 L p)) (j := p) (by simpa using hpl)
                have q6 := prs_set1 (l := L.set p (g1 L p + g1 S j, g2 L p)) (j := p) (v := g2 L p + g2 S j) (by simpa using hpl)
                have q7 : g2 (L.set p (g1 L p + g1 S j, g2 L p)) p = g2 L p := by simp [g2, List.getD_eq_getElem?_getD, hpl]
                have q8 : g1 (L.set p (g1 L p + g1 S j, g2 L p)) p = g1 L p + g1 S j := by simp [g1, List.getD_eq_getElem?_getD, hpl]
                rw [List.set_set, q8] at q6
                rw [q7] at q5
                simp -implicitDefEqProofs (disch := omega) only [hc, q0, q1, q2, q3, q4, q5, q6, amset, tyset, gdL, lightOf, dsts, AGd.eq_1, AGd.eq_2, ADo, lateOk, belowV, lenV, Int.reduceToNat, Int.reduceBEq, Int.reduceBNe, Int.reduceLT, Int.reduceLE, calleeOf, aop, aev, look, putF, AV.ofValue, AV.ofCell, AV.cells, AV.flat, AV.one, aAlloc, aNew, aBox, aBuild, afill, splice, aBuildSlice, arep, aLoad, ard, ards, aStore, awrite, aFieldAddr, aField, aIndexAddr, aIndex, aExtract, aBound, aSlice, aInt, aBin, aUn, aConv, aLen, aAppend, aElems, aCopy, aMin2, aMax2, aFold, aBuiltin, aMakeSlice, aMapUpdate, aDelete, aLookup, argF, Nat.reduceBEq, Nat.reduceLT, isSh, aRes, one1, Nat.reduceMod, Nat.reducePow, Nat.reduceAdd, Nat.reduceLeDiff, Nat.reduceMul, Nat.reduceSub, Nat.reduceEqDiff, or_false, or_true, true_or]
                repeat refine And.intro (by omega) ?_
                refine hJ _ _ ⟨k - 1, by omega, _, [(2, .ptr (some (H.length, 0))), (6, .ptr (some (H.length + 2, 0))), (52, .sl (some (H.length + 1, 0)) m none), (53, .int .i64 m), (54, .int .i64 ((j + 1 : Nat) : Int))], H ++ [.cells true 0 [.int .i64 0, .int .i64 0, .sl none 0 (some 0)], .cells true 2 (prs S), .cells true 0 [.int .i64 x, .int .i64 y, .sl (some (H.length + 3, 0)) L.length none], .cells true 2 (prs (L.set p (padd (gp L p) (gp S j))))], ⟨j + 1, .sl (some (H.length + 3, 0)) L.length none, .cells true 2 (prs (L.set p (padd (gp L p) (gp S j)))), by omega, by rw [hst, hms]; exact .inr ⟨by simpa using hL1, by simp, rfl⟩, rfl, rfl⟩, Abs.by hbel [0, 1, 2, 3] (by decide) ?_⟩
                simp -implicitDefEqProofs (disch := omega) only [absF, absH, W_refl', W_any', W_agg, W_tup, Ws_cons, Ws_refl', Wc_refl', Wcs_cons, Wcs_nil, look, List.cons_append, List.nil_append, List.append_nil, List.length_cons, List.length_nil, Nat.zero_add, Nat.reduceAdd, AV.mv, AV.mvs, ABlk.mv, sig_new0, sig_newk, sig_lt, List.getElem?_cons_zero, List.getElem?_cons_succ, mvs_ints, mvs_bools, mvs_prs, mvs_append, cond_true, cond_false, beq_self_eq_true, Nat.reduceBEq, true_and, and_true, or_true, true_or, and_self, decide_true, Nat.add_zero, reduceCtorEq, false_or, or_false]
                repeat' (first | exact True.intro | exact Nat.add_lt_add_left (by decide) _ | exact Nat.lt_add_of_pos_right (by decide) | refine W_nils ?_ (Or.inr rfl) | refine W_nils ?_ (Or.inl rfl) | refine Wc_nils ?_ (Or.inr rfl) | refine Wc_nils ?_ (Or.inl rfl) | exact W_cap | rfl | refine And.intro ?_ ?_ | exact Or.inl rfl | exact Or.inr rfl | exact Or.inr (Or.inl rfl) | exact Or.inr (Or.inr BW.emp) | exact Or.inr BW.emp | exact BW.emp | refine Or.inr (BW.cells ?_) | refine BW.cells ?_ | refine Or.inr (Or.inr (BW.cells ?_)) | exact Wc_cap)
          · have hnn : ¬ ((j : Int) < (m : Int)) := by omega
            rw [List.take_of_length_le (by omega), hcan] at hO
            rcases hO with ⟨h, rfl, rfl⟩ | ⟨h, rfl, rfl⟩
            · rw [h, retP_nil] at hQ
              simp -implicitDefEqProofs (disch := omega) only [hnn, amset, tyset, gdL, lightOf, dsts, AGd.eq_1, AGd.eq_2, ADo, lateOk, belowV, lenV, Int.reduceToNat, Int.reduceBEq, Int.reduceBNe, Int.reduceLT, Int.reduceLE, calleeOf, aop, aev, look, putF, AV.ofValue, AV.ofCell, AV.cells, AV.flat, AV.one, aAlloc, aNew, aBox, aBuild, afill, splice, aBuildSlice, arep, aLoad, ard, ards, aStore, awrite, aFieldAddr, aField, aIndexAddr, aIndex, aExtract, aBound, aSlice, aInt, aBin, aUn, aConv, aLen, aAppend, aElems, aCopy, aMin2, aMax2, aFold, aBuiltin, aMakeSlice, aMapUpdate, aDelete, aLookup, argF, Nat.reduceBEq, Nat.reduceLT, isSh, aRes, one1, Nat.reduceMod, Nat.reducePow, Nat.reduceAdd, Nat.reduceLeDiff, Nat.reduceMul, Nat.reduceSub, Nat.reduceEqDiff, or_false, or_true, true_or]
              exact hQ _ _ (end_plain (.inl rfl) hbel (x := .agg [.int .i64 x, .int .i64 y, .sl none 0 (some 0)]) (ret_of Try.results44 (by simp -implicitDefEqProofs (disch := omega) only [amset, tyset, gdL, lightOf, dsts, AGd.eq_1, AGd.eq_2, ADo, lateOk, belowV, lenV, Int.reduceToNat, Int.reduceBEq, Int.reduceBNe, Int.reduceLT, Int.reduceLE, calleeOf, aop, aev, look, putF, AV.ofValue, AV.ofCell, AV.cells, AV.flat, AV.one, aAlloc, aNew, aBox, aBuild, afill, splice, aBuildSlice, arep, aLoad, ard, ards, aStore, awrite, aFieldAddr, aField, aIndexAddr, aIndex, aExtract, aBound, aSlice, aInt, aBin, aUn, aConv, aLen, aAppend, aElems, aCopy, aMin2, aMax2, aFold, aBuiltin, aMakeSlice, aMapUpdate, aDelete, aLookup, argF, Nat.reduceBEq, Nat.reduceLT, isSh, aRes, one1, Nat.reduceMod, Nat.reducePow, Nat.reduceAdd, Nat.reduceLeDiff, Nat.reduceMul, Nat.reduceSub, Nat.reduceEqDiff, or_false, or_true, true_or])) rfl ⟨rfl, rfl⟩)
            · rw [retP_pos h] at hQ
              simp -implicitDefEqProofs (disch := omega) only [hnn, amset, tyset, gdL, lightOf, dsts, AGd.eq_1, AGd.eq_2, ADo, lateOk, belowV, lenV, Int.reduceToNat, Int.reduceBEq, Int.reduceBNe, Int.reduceLT, Int.reduceLE, calleeOf, aop, aev, look, putF, AV.ofValue, AV.ofCell, AV.cells, AV.flat, AV.one, aAlloc, aNew, aBox, aBuild, afill, splice, aBuildSlice, arep, aLoad, ard, ards, aStore, awrite, aFieldAddr, aField, aIndexAddr, aIndex, aExtract, aBound, aSlice, aInt, aBin, aUn, aConv, aLen, aAppend, aElems, aCopy, aMin2, aMax2, aFold, aBuiltin, aMakeSlice, aMapUpdate, aDelete, aLookup, argF, Nat.reduceBEq, Nat.reduceLT, isSh, aRes, one1, Nat.reduceMod, Nat.reducePow, Nat.reduceAdd, Nat.reduceLeDiff, Nat.reduceMul, Nat.reduceSub, Nat.reduceEqDiff, or_false, or_true, true_or]
              refine hQ _ _ (end_by (.inl rfl) hbel (x1 := .agg [.int .i64 x, .int .i64 y, .sl (some (H.length + 3, 0)) (canonL l).length none]) (.agg [.int .i64 x, .int .i64 y, .sl (some (H.length, 0)) (canonL l).length none]) (ret_of Try.results44 (by simp -implicitDefEqProofs (disch := omega) only [amset, tyset, gdL, lightOf, dsts, AGd.eq_1, AGd.eq_2, ADo, lateOk, belowV, lenV, Int.reduceToNat, Int.reduceBEq, Int.reduceBNe, Int.reduceLT, Int.reduceLE, calleeOf, aop, aev, look, putF, AV.ofValue, AV.ofCell, AV.cells, AV.flat, AV.one, aAlloc, aNew, aBox, aBuild, afill, splice, aBuildSlice, arep, aLoad, ard, ards, aStore, awrite, aFieldAddr, aField, aIndexAddr, aIndex, aExtract, aBound, aSlice, aInt, aBin, aUn, aConv, aLen, aAppend, aElems, aCopy, aMin2, aMax2, aFold, aBuiltin, aMakeSlice, aMapUpdate, aDelete, aLookup, argF, Nat.reduceBEq, Nat.reduceLT, isSh, aRes, one1, Nat.reduceMod, Nat.reducePow, Nat.reduceAdd, Nat.reduceLeDiff, Nat.reduceMul, Nat.reduceSub, Nat.reduceEqDiff, or_false, or_true, true_or])) [3] (by decide) ⟨rfl, rfl⟩ ?_)
              simp -implicitDefEqProofs (disch := omega) only [absF, absH, W_refl', W_any', W_agg, W_tup, Ws_cons, Ws_refl', Wc_refl', Wcs_cons, Wcs_nil, look, List.cons_append, List.nil_append, List.append_nil, List.length_cons, List.length_nil, Nat.zero_add, Nat.reduceAdd, AV.mv, AV.mvs, ABlk.mv, sig_new0, sig_newk, sig_lt, List.getElem?_cons_zero, List.getElem?_cons_succ, mvs_ints, mvs_bools, mvs_prs, mvs_append, cond_true, cond_false, beq_self_eq_true, Nat.reduceBEq, true_and, and_true, or_true, true_or, and_self, decide_true, Nat.add_zero, reduceCtorEq, false_or, or_false]
              repeat' (first | exact True.intro | exact Nat.add_lt_add_left (by decide) _ | exact Nat.lt_add_of_pos_right (by decide) | refine W_nils ?_ (Or.inr rfl) | refine W_nils ?_ (Or.inl rfl) | refine Wc_nils ?_ (Or.inr rfl) | refine Wc_nils ?_ (Or.inl rfl) | exact W_cap | rfl | refine And.intro ?_ ?_ | exact Or.inl rfl | exact Or.inr rfl | exact Or.inr (Or.inl rfl) | exact Or.inr (Or.inr BW.emp) | exact Or.inr BW.emp | exact BW.emp | refine Or.inr (BW.cells ?_) | refine BW.cells ?_ | refine Or.inr (Or.inr (BW.cells ?_)) | exact Wc_cap)
end Go.Proofs.Ytjfnbcifafmefaa
