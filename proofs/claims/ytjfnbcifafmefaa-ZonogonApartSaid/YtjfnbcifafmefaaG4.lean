/- Parts of the proof: walks and plain facts. Conditions: as each theorem states. -/
import Derived.Test.YtjfnbcifafmefaaG3
import Derived.Test.YtjfnbcifafmefaaG2

/- Walk by the abstract machine: wayfinderref07.put. Conditions: as each theorem states. -/
namespace Go.Proofs.Ytjfnbcifafmefaa
set_option linter.unusedSimpArgs false
set_option linter.unusedVariables false
open Go.RowKit
def putV (H : AHeap) (s : AV) (C : List Pt) (g : Pt) : AV × AHeap := if nrm g = (0, 0) then (s, H) else retP H (putC C (nrm g))
theorem pst_step {C : List Pt} {g : Pt} {i : Nat} (h : i < C.length) : (C.take (i + 1)).foldl (pst g) ([], false) = pst g ((C.take i).foldl (pst g) ([], false)) (gp C i) := by
  rw [List.take_succ_eq_append_getElem h, List.foldl_append, ← gp_eq h]; rfl
theorem pst_len {C : List Pt} {g : Pt} : ∀ i, ((C.take i).foldl (pst g) ([], false)).1.length ≤ 2 * i := fun i => by
  induction i with
  | zero => simp
  | succ i ih =>
    by_cases h : i < C.length
    · rw [pst_step h]
      generalize (C.take i).foldl (pst g) ([], false) = st at *
      unfold pst
      split
      · rw [List.length_append]; simp only [List.length_cons, List.length_nil]; omega
      · split
        · rw [List.length_append]; simp only [List.length_cons, List.length_nil]; omega
        · rw [List.length_append]; simp only [List.length_cons, List.length_nil]; omega
    · rw [List.take_of_length_le (by omega)] at ih ⊢
      omega
set_option maxRecDepth 100000 in
/-- One more generator, none so far. -/
theorem put0_c (H : AHeap) (gx gy : Int) (hgb : -4194304 ≤ gx ∧ gx ≤ 4194304 ∧ -4194304 ≤ gy ∧ gy ≤ 4194304) :
    ACalls Try.prog 71 [.sl none 0 (some 0), .agg [.int .i64 gx, .int .i64 gy]] H (fun v H' => v = (putV H (.sl none 0 (some 0)) [] (gx, gy)).1 ∧ H' = (putV H (.sl none 0 (some 0)) [] (gx, gy)).2) := by
  unfold putV
  obtain ⟨u, w, hf⟩ : ∃ u w, nrm (gx, gy) = (u, w) := ⟨_, _, rfl⟩
  have hub : -4194304 ≤ u ∧ u ≤ 4194304 ∧ -4194304 ≤ w ∧ w ≤ 4194304 := by
    have := nrm_bd (M := 4194304) (g := (gx, gy)) hgb
    rw [hf] at this
    exact this
  rw [hf]
  (refine ACalls_pieces Try.func71 _ rfl (Nat.le_of_ble_eq_true (by kernel_rfl)) rfl ?_; intro hbel Q hQ hQ' c hc; unfold Try.f71 at hc; simp only [Option.some.injEq] at hc; subst hc; clear hQ')
  refine AW_stepA true try_mixed (by kernel_rfl) (fun F2 H2 => F2 = [(0, .sl none 0 (some 0)), (3, .ptr (some (H.length, 0)))] ∧ H2 = H ++ [.cells true 0 [.int .i64 gx, .int .i64 gy]]) ?_ ?_
  · intro J hJ
    simp -implicitDefEqProofs (disch := omega) only [simprocAttr, amset, tyset, Function.comp_apply, one1, lenV, calleeOf, lateOk, belowV, aop, AV.ofValue, AV.ofCell, AV.cells, AV.flat, AV.one, arep, aBin, aAppend, aConv]
    refine hJ _ _ ⟨_, _, _, ⟨rfl, rfl⟩, Abs.by hbel [0] (by decide) ?_⟩
    simp -implicitDefEqProofs (disch := omega) only [absF, absH, W_refl', W_any', W_agg, W_tup, Ws_cons, Ws_refl', Wc_refl', Wcs_cons, Wcs_nil, look, List.cons_append, List.nil_append, List.append_nil, List.length_cons, List.length_nil, Nat.zero_add, Nat.reduceAdd, AV.mv, AV.mvs, ABlk.mv, sig_new0, sig_newk, sig_lt, List.getElem?_cons_zero, List.getElem?_cons_succ, mvs_ints, mvs_bools, mvs_prs, mvs_append, cond_true, cond_false, beq_self_eq_true, Nat.reduceBEq, true_and, and_true, or_true, true_or, and_self, decide_true, Nat.add_zero, reduceCtorEq, false_or, or_false]
    repeat' (first | exact True.intro | exact Nat.add_lt_add_left (by decide) _ | exact Nat.lt_add_of_pos_right (by decide) | refine W_nils ?_ (Or.inr rfl) | refine W_nils ?_ (Or.inl rfl) | refine Wc_nils ?_ (Or.inr rfl) | refine Wc_nils ?_ (Or.inl rfl) | exact W_cap | rfl | refine And.intro ?_ ?_ | exact Or.inl rfl | exact Or.inr rfl | exact Or.inr (Or.inl rfl) | exact Or.inr (Or.inr BW.emp) | exact Or.inr BW.emp | exact BW.emp | exact Or.inr (Or.inr BW.pre) | exact Or.inr BW.pre | exact BW.pre | refine Or.inr (BW.cells ?_) | refine BW.cells ?_ | refine Or.inr (Or.inr (BW.cells ?_)) | exact Wc_cap)
  rintro F2 H2 ⟨rfl, rfl⟩
  refine AW_stepA true try_mixed (by kernel_rfl) (fun F2 H2 => F2 = [(0, .sl none 0 (some 0)), (3, .ptr (some (H.length, 0)))] ∧ H2 = H ++ [.cells true 0 [.int .i64 u, .int .i64 w]]) ?_ ?_
  · intro J hJ
    have neg : (gy < 0 ∨ (gy = 0 ∧ gx < 0)) → u = 0 - gx ∧ w = 0 - gy := fun h => by
      unfold nrm at hf; rw [if_pos h] at hf; simp only [Prod.mk.injEq] at hf; omega
    have pos : ¬ (gy < 0 ∨ (gy = 0 ∧ gx < 0)) → u = gx ∧ w = gy := fun h => by
      unfold nrm at hf; rw [if_neg h] at hf; simp only [Prod.mk.injEq] at hf; omega
    by_cases h1 : gy < 0
    · obtain ⟨rfl, rfl⟩ := neg (.inl h1)
      simp -implicitDefEqProofs (disch := omega) only [h1, simprocAttr, amset, tyset, Function.comp_apply, one1, lenV, calleeOf, lateOk, belowV, aop, AV.ofValue, AV.ofCell, AV.cells, AV.flat, AV.one, arep, aBin, aAppend, aConv]
      refine hJ _ _ ⟨_, _, _, ⟨rfl, rfl⟩, Abs.by hbel [0] (by decide) ?_⟩
      simp -implicitDefEqProofs (disch := omega) only [absF, absH, W_refl', W_any', W_agg, W_tup, Ws_cons, Ws_refl', Wc_refl', Wcs_cons, Wcs_nil, look, List.cons_append, List.nil_append, List.append_nil, List.length_cons, List.length_nil, Nat.zero_add, Nat.reduceAdd, AV.mv, AV.mvs, ABlk.mv, sig_new0, sig_newk, sig_lt, List.getElem?_cons_zero, List.getElem?_cons_succ, mvs_ints, mvs_bools, mvs_prs, mvs_append, cond_true, cond_false, beq_self_eq_true, Nat.reduceBEq, true_and, and_true, or_true, true_or, and_self, decide_true, Nat.add_zero, reduceCtorEq, false_or, or_false]
      repeat' (first | exact True.intro | exact Nat.add_lt_add_left (by decide) _ | exact Nat.lt_add_of_pos_right (by decide) | refine W_nils ?_ (Or.inr rfl) | refine W_nils ?_ (Or.inl rfl) | refine Wc_nils ?_ (Or.inr rfl) | refine Wc_nils ?_ (Or.inl rfl) | exact W_cap | rfl | refine And.intro ?_ ?_ | exact Or.inl rfl | exact Or.inr rfl | exact Or.inr (Or.inl rfl) | exact Or.inr (Or.inr BW.emp) | exact Or.inr BW.emp | exact BW.emp | exact Or.inr (Or.inr BW.pre) | exact Or.inr BW.pre | exact BW.pre | refine Or.inr (BW.cells ?_) | refine BW.cells ?_ | refine Or.inr (Or.inr (BW.cells ?_)) | exact Wc_cap)
    · cases h2 : (gy == 0)
      · have h2' := beq_eq_false_iff_ne.1 h2
        obtain ⟨rfl, rfl⟩ := pos (by omega)
        simp -implicitDefEqProofs (disch := omega) only [h1, h2, simprocAttr, amset, tyset, Function.comp_apply, one1, lenV, calleeOf, lateOk, belowV, aop, AV.ofValue, AV.ofCell, AV.cells, AV.flat, AV.one, arep, aBin, aAppend, aConv]
        refine hJ _ _ ⟨_, _, _, ⟨rfl, rfl⟩, Abs.by hbel [0] (by decide) ?_⟩
        simp -implicitDefEqProofs (disch := omega) only [absF, absH, W_refl', W_any', W_agg, W_tup, Ws_cons, Ws_refl', Wc_refl', Wcs_cons, Wcs_nil, look, List.cons_append, List.nil_append, List.append_nil, List.length_cons, List.length_nil, Nat.zero_add, Nat.reduceAdd, AV.mv, AV.mvs, ABlk.mv, sig_new0, sig_newk, sig_lt, List.getElem?_cons_zero, List.getElem?_cons_succ, mvs_ints, mvs_bools, mvs_prs, mvs_append, cond_true, cond_false, beq_self_eq_true, Nat.reduceBEq, true_and, and_true, or_true, true_or, and_self, decide_true, Nat.add_zero, reduceCtorEq, false_or, or_false]
        repeat' (first | exact True.intro | exact Nat.add_lt_add_left (by decide) _ | exact Nat.lt_add_of_pos_right (by decide) | refine W_nils ?_ (Or.inr rfl) | refine W_nils ?_ (Or.inl rfl) | refine Wc_nils ?_ (Or.inr rfl) | refine Wc_nils ?_ (Or.inl rfl) | exact W_cap | rfl | refine And.intro ?_ ?_ | exact Or.inl rfl | exact Or.inr rfl | exact Or.inr (Or.inl rfl) | exact Or.inr (Or.inr BW.emp) | exact Or.inr BW.emp | exact BW.emp | exact Or.inr (Or.inr BW.pre) | exact Or.inr BW.pre | exact BW.pre | refine Or.inr (BW.cells ?_) | refine BW.cells ?_ | refine Or.inr (Or.inr (BW.cells ?_)) | exact Wc_cap)
      · have h2' := beq_iff_eq.1 h2
        by_cases h3 : gx < 0
        · obtain ⟨rfl, rfl⟩ := neg (.inr ⟨h2', h3⟩)
          simp -implicitDefEqProofs (disch := omega) only [h1, h2, h3, simprocAttr, amset, tyset, Function.comp_apply, one1, lenV, calleeOf, lateOk, belowV, aop, AV.ofValue, AV.ofCell, AV.cells, AV.flat, AV.one, arep, aBin, aAppend, aConv]
          refine hJ _ _ ⟨_, _, _, ⟨rfl, rfl⟩, Abs.by hbel [0] (by decide) ?_⟩
          simp -implicitDefEqProofs (disch := omega) only [absF, absH, W_refl', W_any', W_agg, W_tup, Ws_cons, Ws_refl', Wc_refl', Wcs_cons, Wcs_nil, look, List.cons_append, List.nil_append, List.append_nil, List.length_cons, List.length_nil, Nat.zero_add, Nat.reduceAdd, AV.mv, AV.mvs, ABlk.mv, sig_new0, sig_newk, sig_lt, List.getElem?_cons_zero, List.getElem?_cons_succ, mvs_ints, mvs_bools, mvs_prs, mvs_append, cond_true, cond_false, beq_self_eq_true, Nat.reduceBEq, true_and, and_true, or_true, true_or, and_self, decide_true, Nat.add_zero, reduceCtorEq, false_or, or_false]
          repeat' (first | exact True.intro | exact Nat.add_lt_add_left (by decide) _ | exact Nat.lt_add_of_pos_right (by decide) | refine W_nils ?_ (Or.inr rfl) | refine W_nils ?_ (Or.inl rfl) | refine Wc_nils ?_ (Or.inr rfl) | refine Wc_nils ?_ (Or.inl rfl) | exact W_cap | rfl | refine And.intro ?_ ?_ | exact Or.inl rfl | exact Or.inr rfl | exact Or.inr (Or.inl rfl) | exact Or.inr (Or.inr BW.emp) | exact Or.inr BW.emp | exact BW.emp | exact Or.inr (Or.inr BW.pre) | exact Or.inr BW.pre | exact BW.pre | refine Or.inr (BW.cells ?_) | refine BW.cells ?_ | refine Or.inr (Or.inr (BW.cells ?_)) | exact Wc_cap)
        · obtain ⟨rfl, rfl⟩ := pos (by omega)
          simp -implicitDefEqProofs (disch := omega) only [h1, h2, h3, simprocAttr, amset, tyset, Function.comp_apply, one1, lenV, calleeOf, lateOk, belowV, aop, AV.ofValue, AV.ofCell, AV.cells, AV.flat, AV.one, arep, aBin, aAppend, aConv]
          refine hJ _ _ ⟨_, _, _, ⟨rfl, rfl⟩, Abs.by hbel [0] (by decide) ?_⟩
          simp -implicitDefEqProofs (disch := omega) only [absF, absH, W_refl', W_any', W_agg, W_tup, Ws_cons, Ws_refl', Wc_refl', Wcs_cons, Wcs_nil, look, List.cons_append, List.nil_append, List.append_nil, List.length_cons, List.length_nil, Nat.zero_add, Nat.reduceAdd, AV.mv, AV.mvs, ABlk.mv, sig_new0, sig_newk, sig_lt, List.getElem?_cons_zero, List.getElem?_cons_succ, mvs_ints, mvs_bools, mvs_prs, mvs_append, cond_true, cond_false, beq_self_eq_true, Nat.reduceBEq, true_and, and_true, or_true, true_or, and_self, decide_true, Nat.add_zero, reduceCtorEq, false_or, or_false]
          repeat' (first | exact True.intro | exact Nat.add_lt_add_left (by decide) _ | exact Nat.lt_add_of_pos_right (by decide) | refine W_nils ?_ (Or.inr rfl) | refine W_nils ?_ (Or.inl rfl) | refine Wc_nils ?_ (Or.inr rfl) | refine Wc_nils ?_ (Or.inl rfl) | exact W_cap | rfl | refine And.intro ?_ ?_ | exact Or.inl rfl | exact Or.inr rfl | exact Or.inr (Or.inl rfl) | exact Or.inr (Or.inr BW.emp) | exact Or.inr BW.emp | exact BW.emp | exact Or.inr (Or.inr BW.pre) | exact Or.inr BW.pre | exact BW.pre | refine Or.inr (BW.cells ?_) | refine BW.cells ?_ | refine Or.inr (Or.inr (BW.cells ?_)) | exact Wc_cap)
  rintro F2 H2 ⟨rfl, rfl⟩
  refine AW_fin true try_mixed (by kernel_rfl) ?_
  clear hf hgb
  cases hz1 : (u == 0)
  · rw [if_neg (fun h => by injection h with h _; exact absurd h (beq_eq_false_iff_ne.1 hz1))] at hQ
    simp -implicitDefEqProofs (disch := omega) only [hz1, simprocAttr, amset, tyset, Function.comp_apply, one1, lenV, calleeOf, lateOk, belowV, aop, AV.ofValue, AV.ofCell, AV.cells, AV.flat, AV.one, arep, aBin, aAppend, aConv]
    rw [show putC [] (u, w) = [(u, w)] from rfl, retP_pos (by simp)] at hQ
    refine go_loop try_mixed (by kernel_rfl) (fun k F Hx => F = [(0, .sl none 0 (some 0)), (3, .ptr (some (H.length, 0))), (5, .sl none 0 (some 0)), (6, .bool false), (7, .int .i64 0)] ∧ Hx = H ++ [.cells true 0 [.int .i64 u, .int .i64 w]]) 1 ?_ ?_
    · refine ⟨_, _, _, ⟨rfl, rfl⟩, Abs.by hbel [0] (by decide) ?_⟩
      simp -implicitDefEqProofs (disch := omega) only [absF, absH, W_refl', W_any', W_agg, W_tup, Ws_cons, Ws_refl', Wc_refl', Wcs_cons, Wcs_nil, look, List.cons_append, List.nil_append, List.append_nil, List.length_cons, List.length_nil, Nat.zero_add, Nat.reduceAdd, AV.mv, AV.mvs, ABlk.mv, sig_new0, sig_newk, sig_lt, List.getElem?_cons_zero, List.getElem?_cons_succ, mvs_ints, mvs_bools, mvs_prs, mvs_append, cond_true, cond_false, beq_self_eq_true, Nat.reduceBEq, true_and, and_true, or_true, true_or, and_self, decide_true, Nat.add_zero, reduceCtorEq, false_or, or_false]
      repeat' (first | exact True.intro | exact Nat.add_lt_add_left (by decide) _ | exact Nat.lt_add_of_pos_right (by decide) | refine W_nils ?_ (Or.inr rfl) | refine W_nils ?_ (Or.inl rfl) | refine Wc_nils ?_ (Or.inr rfl) | refine Wc_nils ?_ (Or.inl rfl) | exact W_cap | rfl | refine And.intro ?_ ?_ | exact Or.inl rfl | exact Or.inr rfl | exact Or.inr (Or.inl rfl) | exact Or.inr (Or.inr BW.emp) | exact Or.inr BW.emp | exact BW.emp | exact Or.inr (Or.inr BW.pre) | exact Or.inr BW.pre | exact BW.pre | refine Or.inr (BW.cells ?_) | refine BW.cells ?_ | refine Or.inr (Or.inr (BW.cells ?_)) | exact Wc_cap)
    · rintro k F Hx ⟨rfl, rfl⟩ J hJ
      simp -implicitDefEqProofs (disch := omega) only [Int.lt_irrefl, simprocAttr, amset, tyset, Function.comp_apply, one1, lenV, calleeOf, lateOk, belowV, aop, AV.ofValue, AV.ofCell, AV.cells, AV.flat, AV.one, arep, aBin, aAppend, aConv]
      refine hQ _ _ (end_by (.inl rfl) hbel (x1 := .sl (some (H.length + 2, 0)) 1 none) (.sl (some (H.length, 0)) 1 none) (ret_of Try.results71 (by simp -implicitDefEqProofs (disch := omega) only [simprocAttr, amset, tyset, Function.comp_apply, one1, lenV, calleeOf, lateOk, belowV, aop, AV.ofValue, AV.ofCell, AV.cells, AV.flat, AV.one, arep, aBin, aAppend, aConv])) [2] (by decide) ⟨rfl, rfl⟩ ?_)
      simp -implicitDefEqProofs (disch := omega) only [absF, absH, W_refl', W_any', W_agg, W_tup, Ws_cons, Ws_refl', Wc_refl', Wcs_cons, Wcs_nil, look, List.cons_append, List.nil_append, List.append_nil, List.length_cons, List.length_nil, Nat.zero_add, Nat.reduceAdd, AV.mv, AV.mvs, ABlk.mv, sig_new0, sig_newk, sig_lt, List.getElem?_cons_zero, List.getElem?_cons_succ, mvs_ints, mvs_bools, mvs_prs, mvs_append, cond_true, cond_false, beq_self_eq_true, Nat.reduceBEq, true_and, and_true, or_true, true_or, and_self, decide_true, Nat.add_zero, reduceCtorEq, false_or, or_false]
      repeat' (first | exact True.intro | exact Nat.add_lt_add_left (by decide) _ | exact Nat.lt_add_of_pos_right (by decide) | refine W_nils ?_ (Or.inr rfl) | refine W_nils ?_ (Or.inl rfl) | refine Wc_nils ?_ (Or.inr rfl) | refine Wc_nils ?_ (Or.inl rfl) | exact W_cap | rfl | refine And.intro ?_ ?_ | exact Or.inl rfl | exact Or.inr rfl | exact Or.inr (Or.inl rfl) | exact Or.inr (Or.inr BW.emp) | exact Or.inr BW.emp | exact BW.emp | exact Or.inr (Or.inr BW.pre) | exact Or.inr BW.pre | exact BW.pre | refine Or.inr (BW.cells ?_) | refine BW.cells ?_ | refine Or.inr (Or.inr (BW.cells ?_)) | exact Wc_cap)
  cases hz2 : (w == 0)
  · rw [if_neg (fun h => by injection h with _ h; exact absurd h (beq_eq_false_iff_ne.1 hz2))] at hQ
    simp -implicitDefEqProofs (disch := omega) only [hz1, hz2, simprocAttr, amset, tyset, Function.comp_apply, one1, lenV, calleeOf, lateOk, belowV, aop, AV.ofValue, AV.ofCell, AV.cells, AV.flat, AV.one, arep, aBin, aAppend, aConv]
    rw [show putC [] (u, w) = [(u, w)] from rfl, retP_pos (by simp)] at hQ
    refine go_loop try_mixed (by kernel_rfl) (fun k F Hx => F = [(0, .sl none 0 (some 0)), (3, .ptr (some (H.length, 0))), (5, .sl none 0 (some 0)), (6, .bool false), (7, .int .i64 0)] ∧ Hx = H ++ [.cells true 0 [.int .i64 u, .int .i64 w]]) 1 ?_ ?_
    · refine ⟨_, _, _, ⟨rfl, rfl⟩, Abs.by hbel [0] (by decide) ?_⟩
      simp -implicitDefEqProofs (disch := omega) only [absF, absH, W_refl', W_any', W_agg, W_tup, Ws_cons, Ws_refl', Wc_refl', Wcs_cons, Wcs_nil, look, List.cons_append, List.nil_append, List.append_nil, List.length_cons, List.length_nil, Nat.zero_add, Nat.reduceAdd, AV.mv, AV.mvs, ABlk.mv, sig_new0, sig_newk, sig_lt, List.getElem?_cons_zero, List.getElem?_cons_succ, mvs_ints, mvs_bools, mvs_prs, mvs_append, cond_true, cond_false, beq_self_eq_true, Nat.reduceBEq, true_and, and_true, or_true, true_or, and_self, decide_true, Nat.add_zero, reduceCtorEq, false_or, or_false]
      repeat' (first | exact True.intro | exact Nat.add_lt_add_left (by decide) _ | exact Nat.lt_add_of_pos_right (by decide) | refine W_nils ?_ (Or.inr rfl) | refine W_nils ?_ (Or.inl rfl) | refine Wc_nils ?_ (Or.inr rfl) | refine Wc_nils ?_ (Or.inl rfl) | exact W_cap | rfl | refine And.intro ?_ ?_ | exact Or.inl rfl | exact Or.inr rfl | exact Or.inr (Or.inl rfl) | exact Or.inr (Or.inr BW.emp) | exact Or.inr BW.emp | exact BW.emp | exact Or.inr (Or.inr BW.pre) | exact Or.inr BW.pre | exact BW.pre | refine Or.inr (BW.cells ?_) | refine BW.cells ?_ | refine Or.inr (Or.inr (BW.cells ?_)) | exact Wc_cap)
    · rintro k F Hx ⟨rfl, rfl⟩ J hJ
      simp -implicitDefEqProofs (disch := omega) only [Int.lt_irrefl, simprocAttr, amset, tyset, Function.comp_apply, one1, lenV, calleeOf, lateOk, belowV, aop, AV.ofValue, AV.ofCell, AV.cells, AV.flat, AV.one, arep, aBin, aAppend, aConv]
      refine hQ _ _ (end_by (.inl rfl) hbel (x1 := .sl (some (H.length + 2, 0)) 1 none) (.sl (some (H.length, 0)) 1 none) (ret_of Try.results71 (by simp -implicitDefEqProofs (disch := omega) only [simprocAttr, amset, tyset, Function.comp_apply, one1, lenV, calleeOf, lateOk, belowV, aop, AV.ofValue, AV.ofCell, AV.cells, AV.flat, AV.one, arep, aBin, aAppend, aConv])) [2] (by decide) ⟨rfl, rfl⟩ ?_)
      simp -implicitDefEqProofs (disch := omega) only [absF, absH, W_refl', W_any', W_agg, W_tup, Ws_cons, Ws_refl', Wc_refl', Wcs_cons, Wcs_nil, look, List.cons_append, List.nil_append, List.append_nil, List.length_cons, List.length_nil, Nat.zero_add, Nat.reduceAdd, AV.mv, AV.mvs, ABlk.mv, sig_new0, sig_newk, sig_lt, List.getElem?_cons_zero, List.getElem?_cons_succ, mvs_ints, mvs_bools, mvs_prs, mvs_append, cond_true, cond_false, beq_self_eq_true, Nat.reduceBEq, true_and, and_true, or_true, true_or, and_self, decide_true, Nat.add_zero, reduceCtorEq, false_or, or_false]
      repeat' (first | exact True.intro | exact Nat.add_lt_add_left (by decide) _ | exact Nat.lt_add_of_pos_right (by decide) | refine W_nils ?_ (Or.inr rfl) | refine W_nils ?_ (Or.inl rfl) | refine Wc_nils ?_ (Or.inr rfl) | refine Wc_nils ?_ (Or.inl rfl) | exact W_cap | rfl | refine And.intro ?_ ?_ | exact Or.inl rfl | exact Or.inr rfl | exact Or.inr (Or.inl rfl) | exact Or.inr (Or.inr BW.emp) | exact Or.inr BW.emp | exact BW.emp | exact Or.inr (Or.inr BW.pre) | exact Or.inr BW.pre | exact BW.pre | refine Or.inr (BW.cells ?_) | refine BW.cells ?_ | refine Or.inr (Or.inr (BW.cells ?_)) | exact Wc_cap)
  simp -implicitDefEqProofs (disch := omega) only [hz1, hz2, simprocAttr, amset, tyset, Function.comp_apply, one1, lenV, calleeOf, lateOk, belowV, aop, AV.ofValue, AV.ofCell, AV.cells, AV.flat, AV.one, arep, aBin, aAppend, aConv]
  rw [if_pos (by rw [beq_iff_eq.1 hz1, beq_iff_eq.1 hz2])] at hQ
  refine hQ _ _ (end_by (l2 := []) (.inl rfl) hbel (x1 := .sl none 0 (some 0)) (.sl none 0 (some 0)) (ret_of Try.results71 (by simp -implicitDefEqProofs (disch := omega) only [simprocAttr, amset, tyset, Function.comp_apply, one1, lenV, calleeOf, lateOk, belowV, aop, AV.ofValue, AV.ofCell, AV.cells, AV.flat, AV.one, arep, aBin, aAppend, aConv])) [] (by decide) ⟨rfl, by simp⟩ ?_)
  simp -implicitDefEqProofs (disch := omega) only [absF, absH, W_refl', W_any', W_agg, W_tup, Ws_cons, Ws_refl', Wc_refl', Wcs_cons, Wcs_nil, look, List.cons_append, List.nil_append, List.append_nil, List.length_cons, List.length_nil, Nat.zero_add, Nat.reduceAdd, AV.mv, AV.mvs, ABlk.mv, sig_new0, sig_newk, sig_lt, List.getElem?_cons_zero, List.getElem?_cons_succ, mvs_ints, mvs_bools, mvs_prs, mvs_append, cond_true, cond_false, beq_self_eq_true, Nat.reduceBEq, true_and, and_true, or_true, true_or, and_self, decide_true, Nat.add_zero, reduceCtorEq, false_or, or_false]
  repeat' (first | exact True.intro | exact Nat.add_lt_add_left (by decide) _ | exact Nat.lt_add_of_pos_right (by decide) | refine W_nils ?_ (Or.inr rfl) | refine W_nils ?_ (Or.inl rfl) | refine Wc_nils ?_ (Or.inr rfl) | refine Wc_nils ?_ (Or.inl rfl) | exact W_cap | rfl | refine And.intro ?_ ?_ | exact Or.inl rfl | exact Or.inr rfl | exact Or.inr (Or.inl rfl) | exact Or.inr (Or.inr BW.emp) | exact Or.inr BW.emp | exact BW.emp | exact Or.inr (Or.inr BW.pre) | exact Or.inr BW.pre | exact BW.pre | refine Or.inr (BW.cells ?_) | refine BW.cells ?_ | refine Or.inr (Or.inr (BW.cells ?_)) | exact Wc_cap)
set_option maxHeartbeats 8000000 in
set_option maxRecDepth 100000 in
/-- One more generator. -/
theorem put1_c (H : AHeap) (b : Nat) (own : Bool) (cap : Option Nat) (C : List Pt) (hb : H[b]? = some (.cells own 2 (prs C))) (hl : C.length ≤ 40) (hC : ∀ e ∈ C, Bd 260000000 e) (gx gy : Int) (hgb : -4194304 ≤ gx ∧ gx ≤ 4194304 ∧ -4194304 ≤ gy ∧ gy ≤ 4194304) :
    ACalls Try.prog 71 [.sl (some (b, 0)) C.length cap, .agg [.int .i64 gx, .int .i64 gy]] H (fun v H' => v = (putV H (.sl (some (b, 0)) C.length cap) C (gx, gy)).1 ∧ H' = (putV H (.sl (some (b, 0)) C.length cap) C (gx, gy)).2) := by
  unfold putV
  have hbl := getElem?_lt hb
  have hb0 := fun l => get_app (l := l) hb
  generalize hn : C.length = n at *
  obtain ⟨u, w, hf⟩ : ∃ u w, nrm (gx, gy) = (u, w) := ⟨_, _, rfl⟩
  have hub : -4194304 ≤ u ∧ u ≤ 4194304 ∧ -4194304 ≤ w ∧ w ≤ 4194304 := by
    have := nrm_bd (M := 4194304) (g := (gx, gy)) hgb
    rw [hf] at this
    exact this
  rw [hf]
  (refine ACalls_pieces Try.func71 _ rfl (Nat.le_of_ble_eq_true (by kernel_rfl)) rfl ?_; intro hbel Q hQ hQ' c hc; unfold Try.f71 at hc; simp only [Option.some.injEq] at hc; subst hc; clear hQ')
  refine AW_stepA true try_mixed (by kernel_rfl) (fun F2 H2 => F2 = [(0, .sl (some (b, 0)) n cap), (3, .ptr (some (H.length, 0)))] ∧ H2 = H ++ [.cells true 0 [.int .i64 gx, .int .i64 gy]]) ?_ ?_
  · intro J hJ
    simp -implicitDefEqProofs (disch := omega) only [simprocAttr, amset, tyset, Function.comp_apply, one1, lenV, calleeOf, lateOk, belowV, aop, AV.ofValue, AV.ofCell, AV.cells, AV.flat, AV.one, arep, aBin, aAppend, aConv]
    refine hJ _ _ ⟨_, _, _, ⟨rfl, rfl⟩, Abs.by hbel [0] (by decide) ?_⟩
    simp -implicitDefEqProofs (disch := omega) only [absF, absH, W_refl', W_any', W_agg, W_tup, Ws_cons, Ws_refl', Wc_refl', Wcs_cons, Wcs_nil, look, List.cons_append, List.nil_append, List.append_nil, List.length_cons, List.length_nil, Nat.zero_add, Nat.reduceAdd, AV.mv, AV.mvs, ABlk.mv, sig_new0, sig_newk, sig_lt, List.getElem?_cons_zero, List.getElem?_cons_succ, mvs_ints, mvs_bools, mvs_prs, mvs_append, cond_true, cond_false, beq_self_eq_true, Nat.reduceBEq, true_and, and_true, or_true, true_or, and_self, decide_true, Nat.add_zero, reduceCtorEq, false_or, or_false]
    repeat' (first | exact True.intro | exact Nat.add_lt_add_left (by decide) _ | exact Nat.lt_add_of_pos_right (by decide) | refine W_nils ?_ (Or.inr rfl) | refine W_nils ?_ (Or.inl rfl) | refine Wc_nils ?_ (Or.inr rfl) | refine Wc_nils ?_ (Or.inl rfl) | exact W_cap | rfl | refine And.intro ?_ ?_ | exact Or.inl rfl | exact Or.inr rfl | exact Or.inr (Or.inl rfl) | exact Or.inr (Or.inr BW.emp) | exact Or.inr BW.emp | exact BW.emp | exact Or.inr (Or.inr BW.pre) | exact Or.inr BW.pre | exact BW.pre | refine Or.inr (BW.cells ?_) | refine BW.cells ?_ | refine Or.inr (Or.inr (BW.cells ?_)) | exact Wc_cap)
  rintro F2 H2 ⟨rfl, rfl⟩
  refine AW_stepA true try_mixed (by kernel_rfl) (fun F2 H2 => F2 = [(0, .sl (some (b, 0)) n cap), (3, .ptr (some (H.length, 0)))] ∧ H2 = H ++ [.cells true 0 [.int .i64 u, .int .i64 w]]) ?_ ?_
  · intro J hJ
    have neg : (gy < 0 ∨ (gy = 0 ∧ gx < 0)) → u = 0 - gx ∧ w = 0 - gy := fun h => by
      unfold nrm at hf; rw [if_pos h] at hf; simp only [Prod.mk.injEq] at hf; omega
    have pos : ¬ (gy < 0 ∨ (gy = 0 ∧ gx < 0)) → u = gx ∧ w = gy := fun h => by
      unfold nrm at hf; rw [if_neg h] at hf; simp only [Prod.mk.injEq] at hf; omega
    by_cases h1 : gy < 0
    · obtain ⟨rfl, rfl⟩ := neg (.inl h1)
      simp -implicitDefEqProofs (disch := omega) only [h1, simprocAttr, amset, tyset, Function.comp_apply, one1, lenV, calleeOf, lateOk, belowV, aop, AV.ofValue, AV.ofCell, AV.cells, AV.flat, AV.one, arep, aBin, aAppend, aConv]
      refine hJ _ _ ⟨_, _, _, ⟨rfl, rfl⟩, Abs.by hbel [0] (by decide) ?_⟩
      simp -implicitDefEqProofs (disch := omega) only [absF, absH, W_refl', W_any', W_agg, W_tup, Ws_cons, Ws_refl', Wc_refl', Wcs_cons, Wcs_nil, look, List.cons_append, List.nil_append, List.append_nil, List.length_cons, List.length_nil, Nat.zero_add, Nat.reduceAdd, AV.mv, AV.mvs, ABlk.mv, sig_new0, sig_newk, sig_lt, List.getElem?_cons_zero, List.getElem?_cons_succ, mvs_ints, mvs_bools, mvs_prs, mvs_append, cond_true, cond_false, beq_self_eq_true, Nat.reduceBEq, true_and, and_true, or_true, true_or, and_self, decide_true, Nat.add_zero, reduceCtorEq, false_or, or_false]
      repeat' (first | exact True.intro | exact Nat.add_lt_add_left (by decide) _ | exact Nat.lt_add_of_pos_right (by decide) | refine W_nils ?_ (Or.inr rfl) | refine W_nils ?_ (Or.inl rfl) | refine Wc_nils ?_ (Or.inr rfl) | refine Wc_nils ?_ (Or.inl rfl) | exact W_cap | rfl | refine And.intro ?_ ?_ | exact Or.inl rfl | exact Or.inr rfl | exact Or.inr (Or.inl rfl) | exact Or.inr (Or.inr BW.emp) | exact Or.inr BW.emp | exact BW.emp | exact Or.inr (Or.inr BW.pre) | exact Or.inr BW.pre | exact BW.pre | refine Or.inr (BW.cells ?_) | refine BW.cells ?_ | refine Or.inr (Or.inr (BW.cells ?_)) | exact Wc_cap)
    · cases h2 : (gy == 0)
      · have h2' := beq_eq_false_iff_ne.1 h2
        obtain ⟨rfl, rfl⟩ := pos (by omega)
        simp -implicitDefEqProofs (disch := omega) only [h1, h2, simprocAttr, amset, tyset, Function.comp_apply, one1, lenV, calleeOf, lateOk, belowV, aop, AV.ofValue, AV.ofCell, AV.cells, AV.flat, AV.one, arep, aBin, aAppend, aConv]
        refine hJ _ _ ⟨_, _, _, ⟨rfl, rfl⟩, Abs.by hbel [0] (by decide) ?_⟩
        simp -implicitDefEqProofs (disch := omega) only [absF, absH, W_refl', W_any', W_agg, W_tup, Ws_cons, Ws_refl', Wc_refl', Wcs_cons, Wcs_nil, look, List.cons_append, List.nil_append, List.append_nil, List.length_cons, List.length_nil, Nat.zero_add, Nat.reduceAdd, AV.mv, AV.mvs, ABlk.mv, sig_new0, sig_newk, sig_lt, List.getElem?_cons_zero, List.getElem?_cons_succ, mvs_ints, mvs_bools, mvs_prs, mvs_append, cond_true, cond_false, beq_self_eq_true, Nat.reduceBEq, true_and, and_true, or_true, true_or, and_self, decide_true, Nat.add_zero, reduceCtorEq, false_or, or_false]
        repeat' (first | exact True.intro | exact Nat.add_lt_add_left (by decide) _ | exact Nat.lt_add_of_pos_right (by decide) | refine W_nils ?_ (Or.inr rfl) | refine W_nils ?_ (Or.inl rfl) | refine Wc_nils ?_ (Or.inr rfl) | refine Wc_nils ?_ (Or.inl rfl) | exact W_cap | rfl | refine And.intro ?_ ?_ | exact Or.inl rfl | exact Or.inr rfl | exact Or.inr (Or.inl rfl) | exact Or.inr (Or.inr BW.emp) | exact Or.inr BW.emp | exact BW.emp | exact Or.inr (Or.inr BW.pre) | exact Or.inr BW.pre | exact BW.pre | refine Or.inr (BW.cells ?_) | refine BW.cells ?_ | refine Or.inr (Or.inr (BW.cells ?_)) | exact Wc_cap)
      · have h2' := beq_iff_eq.1 h2
        by_cases h3 : gx < 0
        · obtain ⟨rfl, rfl⟩ := neg (.inr ⟨h2', h3⟩)
          simp -implicitDefEqProofs (disch := omega) only [h1, h2, h3, simprocAttr, amset, tyset, Function.comp_apply, one1, lenV, calleeOf, lateOk, belowV, aop, AV.ofValue, AV.ofCell, AV.cells, AV.flat, AV.one, arep, aBin, aAppend, aConv]
          refine hJ _ _ ⟨_, _, _, ⟨rfl, rfl⟩, Abs.by hbel [0] (by decide) ?_⟩
          simp -implicitDefEqProofs (disch := omega) only [absF, absH, W_refl', W_any', W_agg, W_tup, Ws_cons, Ws_refl', Wc_refl', Wcs_cons, Wcs_nil, look, List.cons_append, List.nil_append, List.append_nil, List.length_cons, List.length_nil, Nat.zero_add, Nat.reduceAdd, AV.mv, AV.mvs, ABlk.mv, sig_new0, sig_newk, sig_lt, List.getElem?_cons_zero, List.getElem?_cons_succ, mvs_ints, mvs_bools, mvs_prs, mvs_append, cond_true, cond_false, beq_self_eq_true, Nat.reduceBEq, true_and, and_true, or_true, true_or, and_self, decide_true, Nat.add_zero, reduceCtorEq, false_or, or_false]
          repeat' (first | exact True.intro | exact Nat.add_lt_add_left (by decide) _ | exact Nat.lt_add_of_pos_right (by decide) | refine W_nils ?_ (Or.inr rfl) | refine W_nils ?_ (Or.inl rfl) | refine Wc_nils ?_ (Or.inr rfl) | refine Wc_nils ?_ (Or.inl rfl) | exact W_cap | rfl | refine And.intro ?_ ?_ | exact Or.inl rfl | exact Or.inr rfl | exact Or.inr (Or.inl rfl) | exact Or.inr (Or.inr BW.emp) | exact Or.inr BW.emp | exact BW.emp | exact Or.inr (Or.inr BW.pre) | exact Or.inr BW.pre | exact BW.pre | refine Or.inr (BW.cells ?_) | refine BW.cells ?_ | refine Or.inr (Or.inr (BW.cells ?_)) | exact Wc_cap)
        · obtain ⟨rfl, rfl⟩ := pos (by omega)
          simp -implicitDefEqProofs (disch := omega) only [h1, h2, h3, simprocAttr, amset, tyset, Function.comp_apply, one1, lenV, calleeOf, lateOk, belowV, aop, AV.ofValue, AV.ofCell, AV.cells, AV.flat, AV.one, arep, aBin, aAppend, aConv]
          refine hJ _ _ ⟨_, _, _, ⟨rfl, rfl⟩, Abs.by hbel [0] (by decide) ?_⟩
          simp -implicitDefEqProofs (disch := omega) only [absF, absH, W_refl', W_any', W_agg, W_tup, Ws_cons, Ws_refl', Wc_refl', Wcs_cons, Wcs_nil, look, List.cons_append, List.nil_append, List.append_nil, List.length_cons, List.length_nil, Nat.zero_add, Nat.reduceAdd, AV.mv, AV.mvs, ABlk.mv, sig_new0, sig_newk, sig_lt, List.getElem?_cons_zero, List.getElem?_cons_succ, mvs_ints, mvs_bools, mvs_prs, mvs_append, cond_true, cond_false, beq_self_eq_true, Nat.reduceBEq, true_and, and_true, or_true, true_or, and_self, decide_true, Nat.add_zero, reduceCtorEq, false_or, or_false]
          repeat' (first | exact True.intro | exact Nat.add_lt_add_left (by decide) _ | exact Nat.lt_add_of_pos_right (by decide) | refine W_nils ?_ (Or.inr rfl) | refine W_nils ?_ (Or.inl rfl) | refine Wc_nils ?_ (Or.inr rfl) | refine Wc_nils ?_ (Or.inl rfl) | exact W_cap | rfl | refine And.intro ?_ ?_ | exact Or.inl rfl | exact Or.inr rfl | exact Or.inr (Or.inl rfl) | exact Or.inr (Or.inr BW.emp) | exact Or.inr BW.emp | exact BW.emp | exact Or.inr (Or.inr BW.pre) | exact Or.inr BW.pre | exact BW.pre | refine Or.inr (BW.cells ?_) | refine BW.cells ?_ | refine Or.inr (Or.inr (BW.cells ?_)) | exact Wc_cap)
  rintro F2 H2 ⟨rfl, rfl⟩
  refine AW_fin true try_mixed (by kernel_rfl) ?_
  clear hf hgb
  cases hz1 : (u == 0)
  · rw [if_neg (fun h => by injection h with h _; exact absurd h (beq_eq_false_iff_ne.1 hz1))] at hQ
    simp -implicitDefEqProofs (disch := omega) only [hz1, simprocAttr, amset, tyset, Function.comp_apply, one1, lenV, calleeOf, lateOk, belowV, aop, AV.ofValue, AV.ofCell, AV.cells, AV.flat, AV.one, arep, aBin, aAppend, aConv]
    refine go_loop try_mixed (by kernel_rfl) (fun k F Hx => ∃ (i : Nat) (s : AV) (X : ABlk), i + k = n ∧ OutP (H.length + 1) s X ((C.take i).foldl (pst (u, w)) ([], false)).1 ∧
      F = [(0, .sl (some (b, 0)) n none), (3, .ptr (some (H.length, 0))), (5, s), (6, .bool ((C.take i).foldl (pst (u, w)) ([], false)).2), (7, .int .i64 (i : Nat))] ∧
      Hx = H ++ [.cells true 0 [.int .i64 u, .int .i64 w], X]) n ?_ ?_
    · refine ⟨_, _, _, ⟨0, _, _, by omega, .inl ⟨rfl, rfl, rfl⟩, rfl, rfl⟩, Abs.by hbel [0, 1] (by decide) ?_⟩
      simp -implicitDefEqProofs (disch := omega) only [absF, absH, W_refl', W_any', W_agg, W_tup, Ws_cons, Ws_refl', Wc_refl', Wcs_cons, Wcs_nil, look, List.cons_append, List.nil_append, List.append_nil, List.length_cons, List.length_nil, Nat.zero_add, Nat.reduceAdd, AV.mv, AV.mvs, ABlk.mv, sig_new0, sig_newk, sig_lt, List.getElem?_cons_zero, List.getElem?_cons_succ, mvs_ints, mvs_bools, mvs_prs, mvs_append, cond_true, cond_false, beq_self_eq_true, Nat.reduceBEq, true_and, and_true, or_true, true_or, and_self, decide_true, Nat.add_zero, reduceCtorEq, false_or, or_false]
      repeat' (first | exact True.intro | exact Nat.add_lt_add_left (by decide) _ | exact Nat.lt_add_of_pos_right (by decide) | refine W_nils ?_ (Or.inr rfl) | refine W_nils ?_ (Or.inl rfl) | refine Wc_nils ?_ (Or.inr rfl) | refine Wc_nils ?_ (Or.inl rfl) | exact W_cap | rfl | refine And.intro ?_ ?_ | exact Or.inl rfl | exact Or.inr rfl | exact Or.inr (Or.inl rfl) | exact Or.inr (Or.inr BW.emp) | exact Or.inr BW.emp | exact BW.emp | exact Or.inr (Or.inr BW.pre) | exact Or.inr BW.pre | exact BW.pre | refine Or.inr (BW.cells ?_) | refine BW.cells ?_ | refine Or.inr (Or.inr (BW.cells ?_)) | exact Wc_cap)
    · rintro k F Hx ⟨i, s, X, hik, hO, rfl, rfl⟩ J hJ
      have hpl := pst_len (C := C) (g := (u, w)) i
      have hps := fun h => pst_step (C := C) (g := (u, w)) (i := i) h
      have fin : ∀ (d' : Bool) (L' : List Pt) (sel : List Nat), sel.Nodup → 0 < L'.length → i < C.length → (C.take (i + 1)).foldl (pst (u, w)) ([], false) = (L', d') → ∀ (F : Fr) (l1 : AHeap),
          (absF (H.length + l1.length) (sig H.length l1.length sel) F [(0, .sl (some (b, 0)) n none), (3, .ptr (some (H.length, 0))), (5, .sl (some (H.length + 1, 0)) L'.length none), (6, .bool d'), (7, .int .i64 ((i + 1 : Nat) : Int))] ∧
            absH (H.length + l1.length) (sig H.length l1.length sel) l1 sel [.cells true 0 [.int .i64 u, .int .i64 w], .cells true 2 (prs L')]) → J F (H ++ l1) := fun d' L' sel hnd hl0 hi hh F l1 ha =>
        hJ _ _ ⟨k - 1, by omega, _, _, _, ⟨i + 1, _, _, by omega, by rw [hh]; exact .inr ⟨hl0, rfl, rfl⟩, by rw [hh], rfl⟩, Abs.by hbel sel hnd ha⟩
      have hend : putC C (u, w) = if ((C.take n).foldl (pst (u, w)) ([], false)).2 = true then ((C.take n).foldl (pst (u, w)) ([], false)).1 else ((C.take n).foldl (pst (u, w)) ([], false)).1 ++ [(u, w)] := by
        rw [List.take_of_length_le (by omega)]; rfl
      by_cases hi : i < C.length
      · have hii : (i : Int) < (n : Int) := by omega
        have q0 := prs_load hi
        have q1 := prs_at0 hi
        have q2 := prs_at1 hi
        have hg : gp C i = C[i] := gp_eq hi
        have heb := hC C[i] (List.getElem_mem hi)
        rw [← hg] at heb
        have heb2 : Bd 268435456 (gp C i) := by unfold Bd at *; omega
        have hebd : -260000000 ≤ g1 C i ∧ g1 C i ≤ 260000000 ∧ -260000000 ≤ g2 C i ∧ g2 C i ≤ 260000000 := heb
        have hgb2 : Bd 268435456 (u, w) := by unfold Bd; simp only; omega
        have hps := hps hi
        generalize (C.take i).foldl (pst (u, w)) ([], false) = st at *
        obtain ⟨L, d⟩ := st
        simp only at hO hpl
        have hLt : List.take (L.length * 2) (prs L) = prs L := List.take_of_length_le (by rw [prs_len]; omega)
        simp -implicitDefEqProofs (disch := omega) only [hii, hb0, q0, simprocAttr, amset, tyset, Function.comp_apply, one1, lenV, calleeOf, lateOk, belowV, aop, AV.ofValue, AV.ofCell, AV.cells, AV.flat, AV.one, arep, aBin, aAppend, aConv]
        repeat refine And.intro (by omega) ?_
        refine call_d (by kernel_rfl) (rcross_c _ (u, w) (gp C i) hgb2 heb2) ?_
        have hLt2 : List.take ((L.length + 1) * 2) (prs (L ++ [(u, w)])) = prs (L ++ [(u, w)]) := List.take_of_length_le (by rw [prs_len, List.length_append]; simp)
        cases hc : (crs (u, w) (gp C i) == 0)
        · have hc' := beq_eq_false_iff_ne.1 hc
          by_cases hp : 0 < crs (u, w) (gp C i)
          · cases d
            · have hst : pst (u, w) (L, false) (gp C i) = (L ++ [(u, w), gp C i], true) := by unfold pst; rw [if_neg hc', if_pos ⟨hp, rfl⟩]
              rw [hst] at hps
              rcases hO with ⟨rfl, rfl, rfl⟩ | ⟨hL1, rfl, rfl⟩
              · simp -implicitDefEqProofs (disch := omega) only [hc, hp, hb0, q0, simprocAttr, amset, tyset, Function.comp_apply, one1, lenV, calleeOf, lateOk, belowV, aop, AV.ofValue, AV.ofCell, AV.cells, AV.flat, AV.one, arep, aBin, aAppend, aConv]
                repeat refine And.intro (by omega) ?_
                refine fin _ _ [0, 5] (by decide) (by simp) hi hps _ _ ?_
                simp -implicitDefEqProofs (disch := omega) only [absF, absH, W_refl', W_any', W_agg, W_tup, Ws_cons, Ws_refl', Wc_refl', Wcs_cons, Wcs_nil, look, List.cons_append, List.nil_append, List.append_nil, List.length_cons, List.length_nil, Nat.zero_add, Nat.reduceAdd, AV.mv, AV.mvs, ABlk.mv, sig_new0, sig_newk, sig_lt, List.getElem?_cons_zero, List.getElem?_cons_succ, mvs_ints, mvs_bools, mvs_prs, mvs_append, cond_true, cond_false, beq_self_eq_true, Nat.reduceBEq, true_and, and_true, or_true, true_or, and_self, decide_true, Nat.add_zero, reduceCtorEq, false_or, or_false]
                repeat' (first | exact True.intro | exact Nat.add_lt_add_left (by decide) _ | exact Nat.lt_add_of_pos_right (by decide) | refine W_nils ?_ (Or.inr rfl) | refine W_nils ?_ (Or.inl rfl) | refine Wc_nils ?_ (Or.inr rfl) | refine Wc_nils ?_ (Or.inl rfl) | exact W_cap | rfl | refine And.intro ?_ ?_ | exact Or.inl rfl | exact Or.inr rfl | exact Or.inr (Or.inl rfl) | exact Or.inr (Or.inr BW.emp) | exact Or.inr BW.emp | exact BW.emp | exact Or.inr (Or.inr BW.pre) | exact Or.inr BW.pre | exact BW.pre | refine Or.inr (BW.cells ?_) | refine BW.cells ?_ | refine Or.inr (Or.inr (BW.cells ?_)) | exact Wc_cap)
              · simp -implicitDefEqProofs (disch := omega) only [hc, hp, hb0, q0, prs_snoc, hLt, hLt2, simprocAttr, amset, tyset, Function.comp_apply, one1, lenV, calleeOf, lateOk, belowV, aop, AV.ofValue, AV.ofCell, AV.cells, AV.flat, AV.one, arep, aBin, aAppend, aConv]
                repeat refine And.intro (by omega) ?_
                refine fin _ _ [0, 5] (by decide) (by simp) hi hps _ _ ?_
                simp -implicitDefEqProofs (disch := omega) only [List.append_assoc, List.length_append, List.length_cons, List.length_nil, absF, absH, W_refl', W_any', W_agg, W_tup, Ws_cons, Ws_refl', Wc_refl', Wcs_cons, Wcs_nil, look, List.cons_append, List.nil_append, List.append_nil, List.length_cons, List.length_nil, Nat.zero_add, Nat.reduceAdd, AV.mv, AV.mvs, ABlk.mv, sig_new0, sig_newk, sig_lt, List.getElem?_cons_zero, List.getElem?_cons_succ, mvs_ints, mvs_bools, mvs_prs, mvs_append, cond_true, cond_false, beq_self_eq_true, Nat.reduceBEq, true_and, and_true, or_true, true_or, and_self, decide_true, Nat.add_zero, reduceCtorEq, false_or, or_false]
                repeat' (first | exact True.intro | exact Nat.add_lt_add_left (by decide) _ | exact Nat.lt_add_of_pos_right (by decide) | refine W_nils ?_ (Or.inr rfl) | refine W_nils ?_ (Or.inl rfl) | refine Wc_nils ?_ (Or.inr rfl) | refine Wc_nils ?_ (Or.inl rfl) | exact W_cap | rfl | refine And.intro ?_ ?_ | exact Or.inl rfl | exact Or.inr rfl | exact Or.inr (Or.inl rfl) | exact Or.inr (Or.inr BW.emp) | exact Or.inr BW.emp | exact BW.emp | exact Or.inr (Or.inr BW.pre) | exact Or.inr BW.pre | exact BW.pre | refine Or.inr (BW.cells ?_) | refine BW.cells ?_ | refine Or.inr (Or.inr (BW.cells ?_)) | exact Wc_cap)
            · have hst : pst (u, w) (L, true) (gp C i) = (L ++ [gp C i], true) := by unfold pst; rw [if_neg hc', if_neg (by simp)]
              rw [hst] at hps
              rcases hO with ⟨rfl, rfl, rfl⟩ | ⟨hL1, rfl, rfl⟩
              · simp -implicitDefEqProofs (disch := omega) only [hc, hp, hb0, q0, simprocAttr, amset, tyset, Function.comp_apply, one1, lenV, calleeOf, lateOk, belowV, aop, AV.ofValue, AV.ofCell, AV.cells, AV.flat, AV.one, arep, aBin, aAppend, aConv]
                repeat refine And.intro (by omega) ?_
                refine fin _ _ [0, 3] (by decide) (by simp) hi hps _ _ ?_
                simp -implicitDefEqProofs (disch := omega) only [absF, absH, W_refl', W_any', W_agg, W_tup, Ws_cons, Ws_refl', Wc_refl', Wcs_cons, Wcs_nil, look, List.cons_append, List.nil_append, List.append_nil, List.length_cons, List.length_nil, Nat.zero_add, Nat.reduceAdd, AV.mv, AV.mvs, ABlk.mv, sig_new0, sig_newk, sig_lt, List.getElem?_cons_zero, List.getElem?_cons_succ, mvs_ints, mvs_bools, mvs_prs, mvs_append, cond_true, cond_false, beq_self_eq_true, Nat.reduceBEq, true_and, and_true, or_true, true_or, and_self, decide_true, Nat.add_zero, reduceCtorEq, false_or, or_false]
                repeat' (first | exact True.intro | exact Nat.add_lt_add_left (by decide) _ | exact Nat.lt_add_of_pos_right (by decide) | refine W_nils ?_ (Or.inr rfl) | refine W_nils ?_ (Or.inl rfl) | refine Wc_nils ?_ (Or.inr rfl) | refine Wc_nils ?_ (Or.inl rfl) | exact W_cap | rfl | refine And.intro ?_ ?_ | exact Or.inl rfl | exact Or.inr rfl | exact Or.inr (Or.inl rfl) | exact Or.inr (Or.inr BW.emp) | exact Or.inr BW.emp | exact BW.emp | exact Or.inr (Or.inr BW.pre) | exact Or.inr BW.pre | exact BW.pre | refine Or.inr (BW.cells ?_) | refine BW.cells ?_ | refine Or.inr (Or.inr (BW.cells ?_)) | exact Wc_cap)
              · simp -implicitDefEqProofs (disch := omega) only [hc, hp, hb0, q0, prs_snoc, hLt, simprocAttr, amset, tyset, Function.comp_apply, one1, lenV, calleeOf, lateOk, belowV, aop, AV.ofValue, AV.ofCell, AV.cells, AV.flat, AV.one, arep, aBin, aAppend, aConv]
                repeat refine And.intro (by omega) ?_
                refine fin _ _ [0, 3] (by decide) (by simp) hi hps _ _ ?_
                simp -implicitDefEqProofs (disch := omega) only [List.append_assoc, List.length_append, List.length_cons, List.length_nil, absF, absH, W_refl', W_any', W_agg, W_tup, Ws_cons, Ws_refl', Wc_refl', Wcs_cons, Wcs_nil, look, List.cons_append, List.nil_append, List.append_nil, List.length_cons, List.length_nil, Nat.zero_add, Nat.reduceAdd, AV.mv, AV.mvs, ABlk.mv, sig_new0, sig_newk, sig_lt, List.getElem?_cons_zero, List.getElem?_cons_succ, mvs_ints, mvs_bools, mvs_prs, mvs_append, cond_true, cond_false, beq_self_eq_true, Nat.reduceBEq, true_and, and_true, or_true, true_or, and_self, decide_true, Nat.add_zero, reduceCtorEq, false_or, or_false]
                repeat' (first | exact True.intro | exact Nat.add_lt_add_left (by decide) _ | exact Nat.lt_add_of_pos_right (by decide) | refine W_nils ?_ (Or.inr rfl) | refine W_nils ?_ (Or.inl rfl) | refine Wc_nils ?_ (Or.inr rfl) | refine Wc_nils ?_ (Or.inl rfl) | exact W_cap | rfl | refine And.intro ?_ ?_ | exact Or.inl rfl | exact Or.inr rfl | exact Or.inr (Or.inl rfl) | exact Or.inr (Or.inr BW.emp) | exact Or.inr BW.emp | exact BW.emp | exact Or.inr (Or.inr BW.pre) | exact Or.inr BW.pre | exact BW.pre | refine Or.inr (BW.cells ?_) | refine BW.cells ?_ | refine Or.inr (Or.inr (BW.cells ?_)) | exact Wc_cap)
          · have hst : pst (u, w) (L, d) (gp C i) = (L ++ [gp C i], d) := by unfold pst; rw [if_neg hc', if_neg (by simp only; omega)]
            rw [hst] at hps
            rcases hO with ⟨rfl, rfl, rfl⟩ | ⟨hL1, rfl, rfl⟩
            · simp -implicitDefEqProofs (disch := omega) only [hc, hp, hb0, q0, simprocAttr, amset, tyset, Function.comp_apply, one1, lenV, calleeOf, lateOk, belowV, aop, AV.ofValue, AV.ofCell, AV.cells, AV.flat, AV.one, arep, aBin, aAppend, aConv]
              repeat refine And.intro (by omega) ?_
              refine fin _ _ [0, 3] (by decide) (by simp) hi hps _ _ ?_
              simp -implicitDefEqProofs (disch := omega) only [absF, absH, W_refl', W_any', W_agg, W_tup, Ws_cons, Ws_refl', Wc_refl', Wcs_cons, Wcs_nil, look, List.cons_append, List.nil_append, List.append_nil, List.length_cons, List.length_nil, Nat.zero_add, Nat.reduceAdd, AV.mv, AV.mvs, ABlk.mv, sig_new0, sig_newk, sig_lt, List.getElem?_cons_zero, List.getElem?_cons_succ, mvs_ints, mvs_bools, mvs_prs, mvs_append, cond_true, cond_false, beq_self_eq_true, Nat.reduceBEq, true_and, and_true, or_true, true_or, and_self, decide_true, Nat.add_zero, reduceCtorEq, false_or, or_false]
              repeat' (first | exact True.intro | exact Nat.add_lt_add_left (by decide) _ | exact Nat.lt_add_of_pos_right (by decide) | refine W_nils ?_ (Or.inr rfl) | refine W_nils ?_ (Or.inl rfl) | refine Wc_nils ?_ (Or.inr rfl) | refine Wc_nils ?_ (Or.inl rfl) | exact W_cap | rfl | refine And.intro ?_ ?_ | exact Or.inl rfl | exact Or.inr rfl | exact Or.inr (Or.inl rfl) | exact Or.inr (Or.inr BW.emp) | exact Or.inr BW.emp | exact BW.emp | exact Or.inr (Or.inr BW.pre) | exact Or.inr BW.pre | exact BW.pre | refine Or.inr (BW.cells ?_) | refine BW.cells ?_ | refine Or.inr (Or.inr (BW.cells ?_)) | exact Wc_cap)
            · simp -implicitDefEqProofs (disch := omega) only [hc, hp, hb0, q0, prs_snoc, hLt, simprocAttr, amset, tyset, Function.comp_apply, one1, lenV, calleeOf, lateOk, belowV, aop, AV.ofValue, AV.ofCell, AV.cells, AV.flat, AV.one, arep, aBin, aAppend, aConv]
              repeat refine And.intro (by omega) ?_
              refine fin _ _ [0, 3] (by decide) (by simp) hi hps _ _ ?_
              simp -implicitDefEqProofs (disch := omega) only [List.append_assoc, List.length_append, List.length_cons, List.length_nil, absF, absH, W_refl', W_any', W_agg, W_tup, Ws_cons, Ws_refl', Wc_refl', Wcs_cons, Wcs_nil, look, List.cons_append, List.nil_append, List.append_nil, List.length_cons, List.length_nil, Nat.zero_add, Nat.reduceAdd, AV.mv, AV.mvs, ABlk.mv, sig_new0, sig_newk, sig_lt, List.getElem?_cons_zero, List.getElem?_cons_succ, mvs_ints, mvs_bools, mvs_prs, mvs_append, cond_true, cond_false, beq_self_eq_true, Nat.reduceBEq, true_and, and_true, or_true, true_or, and_self, decide_true, Nat.add_zero, reduceCtorEq, false_or, or_false]
              repeat' (first | exact True.intro | exact Nat.add_lt_add_left (by decide) _ | exact Nat.lt_add_of_pos_right (by decide) | refine W_nils ?_ (Or.inr rfl) | refine W_nils ?_ (Or.inl rfl) | refine Wc_nils ?_ (Or.inr rfl) | refine Wc_nils ?_ (Or.inl rfl) | exact W_cap | rfl | refine And.intro ?_ ?_ | exact Or.inl rfl | exact Or.inr rfl | exact Or.inr (Or.inl rfl) | exact Or.inr (Or.inr BW.emp) | exact Or.inr BW.emp | exact BW.emp | exact Or.inr (Or.inr BW.pre) | exact Or.inr BW.pre | exact BW.pre | refine Or.inr (BW.cells ?_) | refine BW.cells ?_ | refine Or.inr (Or.inr (BW.cells ?_)) | exact Wc_cap)
        · have hst : pst (u, w) (L, d) (gp C i) = (L ++ [padd (gp C i) (u, w)], true) := by unfold pst; rw [if_pos (beq_iff_eq.1 hc)]
          rw [hst] at hps
          rcases hO with ⟨rfl, rfl, rfl⟩ | ⟨hL1, rfl, rfl⟩
          · simp -implicitDefEqProofs (disch := omega) only [hc, hb0, q1, q2, simprocAttr, amset, tyset, Function.comp_apply, one1, lenV, calleeOf, lateOk, belowV, aop, AV.ofValue, AV.ofCell, AV.cells, AV.flat, AV.one, arep, aBin, aAppend, aConv]
            repeat refine And.intro (by omega) ?_
            refine fin _ _ [0, 3] (by decide) (by simp) hi hps _ _ ?_
            simp -implicitDefEqProofs (disch := omega) only [absF, absH, W_refl', W_any', W_agg, W_tup, Ws_cons, Ws_refl', Wc_refl', Wcs_cons, Wcs_nil, look, List.cons_append, List.nil_append, List.append_nil, List.length_cons, List.length_nil, Nat.zero_add, Nat.reduceAdd, AV.mv, AV.mvs, ABlk.mv, sig_new0, sig_newk, sig_lt, List.getElem?_cons_zero, List.getElem?_cons_succ, mvs_ints, mvs_bools, mvs_prs, mvs_append, cond_true, cond_false, beq_self_eq_true, Nat.reduceBEq, true_and, and_true, or_true, true_or, and_self, decide_true, Nat.add_zero, reduceCtorEq, false_or, or_false]
            repeat' (first | exact True.intro | exact Nat.add_lt_add_left (by decide) _ | exact Nat.lt_add_of_pos_right (by decide) | refine W_nils ?_ (Or.inr rfl) | refine W_nils ?_ (Or.inl rfl) | refine Wc_nils ?_ (Or.inr rfl) | refine Wc_nils ?_ (Or.inl rfl) | exact W_cap | rfl | refine And.intro ?_ ?_ | exact Or.inl rfl | exact Or.inr rfl | exact Or.inr (Or.inl rfl) | exact Or.inr (Or.inr BW.emp) | exact Or.inr BW.emp | exact BW.emp | exact Or.inr (Or.inr BW.pre) | exact Or.inr BW.pre | exact BW.pre | refine Or.inr (BW.cells ?_) | refine BW.cells ?_ | refine Or.inr (Or.inr (BW.cells ?_)) | exact Wc_cap)
          · simp -implicitDefEqProofs (disch := omega) only [hc, hb0, q1, q2, prs_snoc, hLt, simprocAttr, amset, tyset, Function.comp_apply, one1, lenV, calleeOf, lateOk, belowV, aop, AV.ofValue, AV.ofCell, AV.cells, AV.flat, AV.one, arep, aBin, aAppend, aConv]
            repeat refine And.intro (by omega) ?_
            refine fin _ _ [0, 3] (by decide) (by simp) hi hps _ _ ?_
            simp -implicitDefEqProofs (disch := omega) only [List.append_assoc, List.length_append, List.length_cons, List.length_nil, absF, absH, W_refl', W_any', W_agg, W_tup, Ws_cons, Ws_refl', Wc_refl', Wcs_cons, Wcs_nil, look, List.cons_append, List.nil_append, List.append_nil, List.length_cons, List.length_nil, Nat.zero_add, Nat.reduceAdd, AV.mv, AV.mvs, ABlk.mv, sig_new0, sig_newk, sig_lt, List.getElem?_cons_zero, List.getElem?_cons_succ, mvs_ints, mvs_bools, mvs_prs, mvs_append, cond_true, cond_false, beq_self_eq_true, Nat.reduceBEq, true_and, and_true, or_true, true_or, and_self, decide_true, Nat.add_zero, reduceCtorEq, false_or, or_false]
            repeat' (first | exact True.intro | exact Nat.add_lt_add_left (by decide) _ | exact Nat.lt_add_of_pos_right (by decide) | refine W_nils ?_ (Or.inr rfl) | refine W_nils ?_ (Or.inl rfl) | refine Wc_nils ?_ (Or.inr rfl) | refine Wc_nils ?_ (Or.inl rfl) | exact W_cap | rfl | refine And.intro ?_ ?_ | exact Or.inl rfl | exact Or.inr rfl | exact Or.inr (Or.inl rfl) | exact Or.inr (Or.inr BW.emp) | exact Or.inr BW.emp | exact BW.emp | exact Or.inr (Or.inr BW.pre) | exact Or.inr BW.pre | exact BW.pre | refine Or.inr (BW.cells ?_) | refine BW.cells ?_ | refine Or.inr (Or.inr (BW.cells ?_)) | exact Wc_cap)
      · have hnn : ¬ ((i : Int) < (n : Int)) := by omega
        obtain rfl : i = n := by omega
        rw [hend] at hQ
        clear hps hend fin
        generalize (C.take i).foldl (pst (u, w)) ([], false) = st at *
        obtain ⟨L, d⟩ := st
        simp only at hO hpl
        have hLt : List.take (L.length * 2) (prs L) = prs L := List.take_of_length_le (by rw [prs_len]; omega)
        cases d
        · rw [if_neg (by simp), retP_pos (by simp)] at hQ
          rcases hO with ⟨rfl, rfl, rfl⟩ | ⟨hL1, rfl, rfl⟩
          · simp -implicitDefEqProofs (disch := omega) only [hnn, simprocAttr, amset, tyset, Function.comp_apply, one1, lenV, calleeOf, lateOk, belowV, aop, AV.ofValue, AV.ofCell, AV.cells, AV.flat, AV.one, arep, aBin, aAppend, aConv]
            refine hQ _ _ (end_by (.inl rfl) hbel (x1 := .sl (some (H.length + 3, 0)) 1 none) (.sl (some (H.length, 0)) 1 none) (ret_of Try.results71 (by simp -implicitDefEqProofs (disch := omega) only [simprocAttr, amset, tyset, Function.comp_apply, one1, lenV, calleeOf, lateOk, belowV, aop, AV.ofValue, AV.ofCell, AV.cells, AV.flat, AV.one, arep, aBin, aAppend, aConv])) [3] (by decide) ⟨rfl, rfl⟩ ?_)
            simp -implicitDefEqProofs (disch := omega) only [absF, absH, W_refl', W_any', W_agg, W_tup, Ws_cons, Ws_refl', Wc_refl', Wcs_cons, Wcs_nil, look, List.cons_append, List.nil_append, List.append_nil, List.length_cons, List.length_nil, Nat.zero_add, Nat.reduceAdd, AV.mv, AV.mvs, ABlk.mv, sig_new0, sig_newk, sig_lt, List.getElem?_cons_zero, List.getElem?_cons_succ, mvs_ints, mvs_bools, mvs_prs, mvs_append, cond_true, cond_false, beq_self_eq_true, Nat.reduceBEq, true_and, and_true, or_true, true_or, and_self, decide_true, Nat.add_zero, reduceCtorEq, false_or, or_false]
            repeat' (first | exact True.intro | exact Nat.add_lt_add_left (by decide) _ | exact Nat.lt_add_of_pos_right (by decide) | refine W_nils ?_ (Or.inr rfl) | refine W_nils ?_ (Or.inl rfl) | refine Wc_nils ?_ (Or.inr rfl) | refine Wc_nils ?_ (Or.inl rfl) | exact W_cap | rfl | refine And.intro ?_ ?_ | exact Or.inl rfl | exact Or.inr rfl | exact Or.inr (Or.inl rfl) | exact Or.inr (Or.inr BW.emp) | exact Or.inr BW.emp | exact BW.emp | exact Or.inr (Or.inr BW.pre) | exact Or.inr BW.pre | exact BW.pre | refine Or.inr (BW.cells ?_) | refine BW.cells ?_ | refine Or.inr (Or.inr (BW.cells ?_)) | exact Wc_cap)
          · simp -implicitDefEqProofs (disch := omega) only [hnn, prs_snoc, hLt, simprocAttr, amset, tyset, Function.comp_apply, one1, lenV, calleeOf, lateOk, belowV, aop, AV.ofValue, AV.ofCell, AV.cells, AV.flat, AV.one, arep, aBin, aAppend, aConv]
            repeat refine And.intro (by omega) ?_
            refine hQ _ _ (end_by (.inl rfl) hbel (x1 := .sl (some (H.length + 3, 0)) (L.length + 1) none) (.sl (some (H.length, 0)) (L.length + 1) none) (ret_of Try.results71 (by simp -implicitDefEqProofs (disch := omega) only [simprocAttr, amset, tyset, Function.comp_apply, one1, lenV, calleeOf, lateOk, belowV, aop, AV.ofValue, AV.ofCell, AV.cells, AV.flat, AV.one, arep, aBin, aAppend, aConv])) [3] (by decide) ⟨by simp, rfl⟩ ?_)
            simp -implicitDefEqProofs (disch := omega) only [absF, absH, W_refl', W_any', W_agg, W_tup, Ws_cons, Ws_refl', Wc_refl', Wcs_cons, Wcs_nil, look, List.cons_append, List.nil_append, List.append_nil, List.length_cons, List.length_nil, Nat.zero_add, Nat.reduceAdd, AV.mv, AV.mvs, ABlk.mv, sig_new0, sig_newk, sig_lt, List.getElem?_cons_zero, List.getElem?_cons_succ, mvs_ints, mvs_bools, mvs_prs, mvs_append, cond_true, cond_false, beq_self_eq_true, Nat.reduceBEq, true_and, and_true, or_true, true_or, and_self, decide_true, Nat.add_zero, reduceCtorEq, false_or, or_false]
            repeat' (first | exact True.intro | exact Nat.add_lt_add_left (by decide) _ | exact Nat.lt_add_of_pos_right (by decide) | refine W_nils ?_ (Or.inr rfl) | refine W_nils ?_ (Or.inl rfl) | refine Wc_nils ?_ (Or.inr rfl) | refine Wc_nils ?_ (Or.inl rfl) | exact W_cap | rfl | refine And.intro ?_ ?_ | exact Or.inl rfl | exact Or.inr rfl | exact Or.inr (Or.inl rfl) | exact Or.inr (Or.inr BW.emp) | exact Or.inr BW.emp | exact BW.emp | exact Or.inr (Or.inr BW.pre) | exact Or.inr BW.pre | exact BW.pre | refine Or.inr (BW.cells ?_) | refine BW.cells ?_ | refine Or.inr (Or.inr (BW.cells ?_)) | exact Wc_cap)
        · rw [if_pos rfl] at hQ
          rcases hO with ⟨rfl, rfl, rfl⟩ | ⟨hL1, rfl, rfl⟩
          · rw [retP_nil] at hQ
            simp -implicitDefEqProofs (disch := omega) only [hnn, simprocAttr, amset, tyset, Function.comp_apply, one1, lenV, calleeOf, lateOk, belowV, aop, AV.ofValue, AV.ofCell, AV.cells, AV.flat, AV.one, arep, aBin, aAppend, aConv]
            exact hQ _ _ (end_plain (.inl rfl) hbel (x := .sl none 0 (some 0)) (ret_of Try.results71 (by simp -implicitDefEqProofs (disch := omega) only [simprocAttr, amset, tyset, Function.comp_apply, one1, lenV, calleeOf, lateOk, belowV, aop, AV.ofValue, AV.ofCell, AV.cells, AV.flat, AV.one, arep, aBin, aAppend, aConv])) rfl ⟨rfl, rfl⟩)
          · rw [retP_pos hL1] at hQ
            simp -implicitDefEqProofs (disch := omega) only [hnn, simprocAttr, amset, tyset, Function.comp_apply, one1, lenV, calleeOf, lateOk, belowV, aop, AV.ofValue, AV.ofCell, AV.cells, AV.flat, AV.one, arep, aBin, aAppend, aConv]
            refine hQ _ _ (end_by (.inl rfl) hbel (x1 := .sl (some (H.length + 1, 0)) L.length none) (.sl (some (H.length, 0)) L.length none) (ret_of Try.results71 (by simp -implicitDefEqProofs (disch := omega) only [simprocAttr, amset, tyset, Function.comp_apply, one1, lenV, calleeOf, lateOk, belowV, aop, AV.ofValue, AV.ofCell, AV.cells, AV.flat, AV.one, arep, aBin, aAppend, aConv])) [1] (by decide) ⟨rfl, rfl⟩ ?_)
            simp -implicitDefEqProofs (disch := omega) only [absF, absH, W_refl', W_any', W_agg, W_tup, Ws_cons, Ws_refl', Wc_refl', Wcs_cons, Wcs_nil, look, List.cons_append, List.nil_append, List.append_nil, List.length_cons, List.length_nil, Nat.zero_add, Nat.reduceAdd, AV.mv, AV.mvs, ABlk.mv, sig_new0, sig_newk, sig_lt, List.getElem?_cons_zero, List.getElem?_cons_succ, mvs_ints, mvs_bools, mvs_prs, mvs_append, cond_true, cond_false, beq_self_eq_true, Nat.reduceBEq, true_and, and_true, or_true, true_or, and_self, decide_true, Nat.add_zero, reduceCtorEq, false_or, or_false]
            repeat' (first | exact True.intro | exact Nat.add_lt_add_left (by decide) _ | exact Nat.lt_add_of_pos_right (by decide) | refine W_nils ?_ (Or.inr rfl) | refine W_nils ?_ (Or.inl rfl) | refine Wc_nils ?_ (Or.inr rfl) | refine Wc_nils ?_ (Or.inl rfl) | exact W_cap | rfl | refine And.intro ?_ ?_ | exact Or.inl rfl | exact Or.inr rfl | exact Or.inr (Or.inl rfl) | exact Or.inr (Or.inr BW.emp) | exact Or.inr BW.emp | exact BW.emp | exact Or.inr (Or.inr BW.pre) | exact Or.inr BW.pre | exact BW.pre | refine Or.inr (BW.cells ?_) | refine BW.cells ?_ | refine Or.inr (Or.inr (BW.cells ?_)) | exact Wc_cap)
  cases hz2 : (w == 0)
  · rw [if_neg (fun h => by injection h with _ h; exact absurd h (beq_eq_false_iff_ne.1 hz2))] at hQ
    simp -implicitDefEqProofs (disch := omega) only [hz1, hz2, simprocAttr, amset, tyset, Function.comp_apply, one1, lenV, calleeOf, lateOk, belowV, aop, AV.ofValue, AV.ofCell, AV.cells, AV.flat, AV.one, arep, aBin, aAppend, aConv]
    refine go_loop try_mixed (by kernel_rfl) (fun k F Hx => ∃ (i : Nat) (s : AV) (X : ABlk), i + k = n ∧ OutP (H.length + 1) s X ((C.take i).foldl (pst (u, w)) ([], false)).1 ∧
      F = [(0, .sl (some (b, 0)) n none), (3, .ptr (some (H.length, 0))), (5, s), (6, .bool ((C.take i).foldl (pst (u, w)) ([], false)).2), (7, .int .i64 (i : Nat))] ∧
      Hx = H ++ [.cells true 0 [.int .i64 u, .int .i64 w], X]) n ?_ ?_
    · refine ⟨_, _, _, ⟨0, _, _, by omega, .inl ⟨rfl, rfl, rfl⟩, rfl, rfl⟩, Abs.by hbel [0, 1] (by decide) ?_⟩
      simp -implicitDefEqProofs (disch := omega) only [absF, absH, W_refl', W_any', W_agg, W_tup, Ws_cons, Ws_refl', Wc_refl', Wcs_cons, Wcs_nil, look, List.cons_append, List.nil_append, List.append_nil, List.length_cons, List.length_nil, Nat.zero_add, Nat.reduceAdd, AV.mv, AV.mvs, ABlk.mv, sig_new0, sig_newk, sig_lt, List.getElem?_cons_zero, List.getElem?_cons_succ, mvs_ints, mvs_bools, mvs_prs, mvs_append, cond_true, cond_false, beq_self_eq_true, Nat.reduceBEq, true_and, and_true, or_true, true_or, and_self, decide_true, Nat.add_zero, reduceCtorEq, false_or, or_false]
      repeat' (first | exact True.intro | exact Nat.add_lt_add_left (by decide) _ | exact Nat.lt_add_of_pos_right (by decide) | refine W_nils ?_ (Or.inr rfl) | refine W_nils ?_ (Or.inl rfl) | refine Wc_nils ?_ (Or.inr rfl) | refine Wc_nils ?_ (Or.inl rfl) | exact W_cap | rfl | refine And.intro ?_ ?_ | exact Or.inl rfl | exact Or.inr rfl | exact Or.inr (Or.inl rfl) | exact Or.inr (Or.inr BW.emp) | exact Or.inr BW.emp | exact BW.emp | exact Or.inr (Or.inr BW.pre) | exact Or.inr BW.pre | exact BW.pre | refine Or.inr (BW.cells ?_) | refine BW.cells ?_ | refine Or.inr (Or.inr (BW.cells ?_)) | exact Wc_cap)
    · rintro k F Hx ⟨i, s, X, hik, hO, rfl, rfl⟩ J hJ
      have hpl := pst_len (C := C) (g := (u, w)) i
      have hps := fun h => pst_step (C := C) (g := (u, w)) (i := i) h
      have fin : ∀ (d' : Bool) (L' : List Pt) (sel : List Nat), sel.Nodup → 0 < L'.length → i < C.length → (C.take (i + 1)).foldl (pst (u, w)) ([], false) = (L', d') → ∀ (F : Fr) (l1 : AHeap),
          (absF (H.length + l1.length) (sig H.length l1.length sel) F [(0, .sl (some (b, 0)) n none), (3, .ptr (some (H.length, 0))), (5, .sl (some (H.length + 1, 0)) L'.length none), (6, .bool d'), (7, .int .i64 ((i + 1 : Nat) : Int))] ∧
            absH (H.length + l1.length) (sig H.length l1.length sel) l1 sel [.cells true 0 [.int .i64 u, .int .i64 w], .cells true 2 (prs L')]) → J F (H ++ l1) := fun d' L' sel hnd hl0 hi hh F l1 ha =>
        hJ _ _ ⟨k - 1, by omega, _, _, _, ⟨i + 1, _, _, by omega, by rw [hh]; exact .inr ⟨hl0, rfl, rfl⟩, by rw [hh], rfl⟩, Abs.by hbel sel hnd ha⟩
      have hend : putC C (u, w) = if ((C.take n).foldl (pst (u, w)) ([], false)).2 = true then ((C.take n).foldl (pst (u, w)) ([], false)).1 else ((C.take n).foldl (pst (u, w)) ([], false)).1 ++ [(u, w)] := by
        rw [List.take_of_length_le (by omega)]; rfl
      by_cases hi : i < C.length
      · have hii : (i : Int) < (n : Int) := by omega
        have q0 := prs_load hi
        have q1 := prs_at0 hi
        have q2 := prs_at1 hi
        have hg : gp C i = C[i] := gp_eq hi
        have heb := hC C[i] (List.getElem_mem hi)
        rw [← hg] at heb
        have heb2 : Bd 268435456 (gp C i) := by unfold Bd at *; omega
        have hebd : -260000000 ≤ g1 C i ∧ g1 C i ≤ 260000000 ∧ -260000000 ≤ g2 C i ∧ g2 C i ≤ 260000000 := heb
        have hgb2 : Bd 268435456 (u, w) := by unfold Bd; simp only; omega
        have hps := hps hi
        generalize (C.take i).foldl (pst (u, w)) ([], false) = st at *
        obtain ⟨L, d⟩ := st
        simp only at hO hpl
        have hLt : List.take (L.length * 2) (prs L) = prs L := List.take_of_length_le (by rw [prs_len]; omega)
        simp -implicitDefEqProofs (disch := omega) only [hii, hb0, q0, simprocAttr, amset, tyset, Function.comp_apply, one1, lenV, calleeOf, lateOk, belowV, aop, AV.ofValue, AV.ofCell, AV.cells, AV.flat, AV.one, arep, aBin, aAppend, aConv]
        repeat refine And.intro (by omega) ?_
        refine call_d (by kernel_rfl) (rcross_c _ (u, w) (gp C i) hgb2 heb2) ?_
        have hLt2 : List.take ((L.length + 1) * 2) (prs (L ++ [(u, w)])) = prs (L ++ [(u, w)]) := List.take_of_length_le (by rw [prs_len, List.length_append]; simp)
        cases hc : (crs (u, w) (gp C i) == 0)
        · have hc' := beq_eq_false_iff_ne.1 hc
          by_cases hp : 0 < crs (u, w) (gp C i)
          · cases d
            · have hst : pst (u, w) (L, false) (gp C i) = (L ++ [(u, w), gp C i], true) := by unfold pst; rw [if_neg hc', if_pos ⟨hp, rfl⟩]
              rw [hst] at hps
              rcases hO with ⟨rfl, rfl, rfl⟩ | ⟨hL1, rfl, rfl⟩
              · simp -implicitDefEqProofs (disch := omega) only [hc, hp, hb0, q0, simprocAttr, amset, tyset, Function.comp_apply, one1, lenV, calleeOf, lateOk, belowV, aop, AV.ofValue, AV.ofCell, AV.cells, AV.flat, AV.one, arep, aBin, aAppend, aConv]
                repeat refine And.intro (by omega) ?_
                refine fin _ _ [0, 5] (by decide) (by simp) hi hps _ _ ?_
                simp -implicitDefEqProofs (disch := omega) only [absF, absH, W_refl', W_any', W_agg, W_tup, Ws_cons, Ws_refl', Wc_refl', Wcs_cons, Wcs_nil, look, List.cons_append, List.nil_append, List.append_nil, List.length_cons, List.length_nil, Nat.zero_add, Nat.reduceAdd, AV.mv, AV.mvs, ABlk.mv, sig_new0, sig_newk, sig_lt, List.getElem?_cons_zero, List.getElem?_cons_succ, mvs_ints, mvs_bools, mvs_prs, mvs_append, cond_true, cond_false, beq_self_eq_true, Nat.reduceBEq, true_and, and_true, or_true, true_or, and_self, decide_true, Nat.add_zero, reduceCtorEq, false_or, or_false]
                repeat' (first | exact True.intro | exact Nat.add_lt_add_left (by decide) _ | exact Nat.lt_add_of_pos_right (by decide) | refine W_nils ?_ (Or.inr rfl) | refine W_nils ?_ (Or.inl rfl) | refine Wc_nils ?_ (Or.inr rfl) | refine Wc_nils ?_ (Or.inl rfl) | exact W_cap | rfl | refine And.intro ?_ ?_ | exact Or.inl rfl | exact Or.inr rfl | exact Or.inr (Or.inl rfl) | exact Or.inr (Or.inr BW.emp) | exact Or.inr BW.emp | exact BW.emp | exact Or.inr (Or.inr BW.pre) | exact Or.inr BW.pre | exact BW.pre | refine Or.inr (BW.cells ?_) | refine BW.cells ?_ | refine Or.inr (Or.inr (BW.cells ?_)) | exact Wc_cap)
              · simp -implicitDefEqProofs (disch := omega) only [hc, hp, hb0, q0, prs_snoc, hLt, hLt2, simprocAttr, amset, tyset, Function.comp_apply, one1, lenV, calleeOf, lateOk, belowV, aop, AV.ofValue, AV.ofCell, AV.cells, AV.flat, AV.one, arep, aBin, aAppend, aConv]
                repeat refine And.intro (by omega) ?_
                refine fin _ _ [0, 5] (by decide) (by simp) hi hps _ _ ?_
                simp -implicitDefEqProofs (disch := omega) only [List.append_assoc, List.length_append, List.length_cons, List.length_nil, absF, absH, W_refl', W_any', W_agg, W_tup, Ws_cons, Ws_refl', Wc_refl', Wcs_cons, Wcs_nil, look, List.cons_append, List.nil_append, List.append_nil, List.length_cons, List.length_nil, Nat.zero_add, Nat.reduceAdd, AV.mv, AV.mvs, ABlk.mv, sig_new0, sig_newk, sig_lt, List.getElem?_cons_zero, List.getElem?_cons_succ, mvs_ints, mvs_bools, mvs_prs, mvs_append, cond_true, cond_false, beq_self_eq_true, Nat.reduceBEq, true_and, and_true, or_true, true_or, and_self, decide_true, Nat.add_zero, reduceCtorEq, false_or, or_false]
                repeat' (first | exact True.intro | exact Nat.add_lt_add_left (by decide) _ | exact Nat.lt_add_of_pos_right (by decide) | refine W_nils ?_ (Or.inr rfl) | refine W_nils ?_ (Or.inl rfl) | refine Wc_nils ?_ (Or.inr rfl) | refine Wc_nils ?_ (Or.inl rfl) | exact W_cap | rfl | refine And.intro ?_ ?_ | exact Or.inl rfl | exact Or.inr rfl | exact Or.inr (Or.inl rfl) | exact Or.inr (Or.inr BW.emp) | exact Or.inr BW.emp | exact BW.emp | exact Or.inr (Or.inr BW.pre) | exact Or.inr BW.pre | exact BW.pre | refine Or.inr (BW.cells ?_) | refine BW.cells ?_ | refine Or.inr (Or.inr (BW.cells ?_)) | exact Wc_cap)
            · have hst : pst (u, w) (L, true) (gp C i) = (L ++ [gp C i], true) := by unfold pst; rw [if_neg hc', if_neg (by simp)]
              rw [hst] at hps
              rcases hO with ⟨rfl, rfl, rfl⟩ | ⟨hL1, rfl, rfl⟩
              · simp -implicitDefEqProofs (disch := omega) only [hc, hp, hb0, q0, simprocAttr, amset, tyset, Function.comp_apply, one1, lenV, calleeOf, lateOk, belowV, aop, AV.ofValue, AV.ofCell, AV.cells, AV.flat, AV.one, arep, aBin, aAppend, aConv]
                repeat refine And.intro (by omega) ?_
                refine fin _ _ [0, 3] (by decide) (by simp) hi hps _ _ ?_
                simp -implicitDefEqProofs (disch := omega) only [absF, absH, W_refl', W_any', W_agg, W_tup, Ws_cons, Ws_refl', Wc_refl', Wcs_cons, Wcs_nil, look, List.cons_append, List.nil_append, List.append_nil, List.length_cons, List.length_nil, Nat.zero_add, Nat.reduceAdd, AV.mv, AV.mvs, ABlk.mv, sig_new0, sig_newk, sig_lt, List.getElem?_cons_zero, List.getElem?_cons_succ, mvs_ints, mvs_bools, mvs_prs, mvs_append, cond_true, cond_false, beq_self_eq_true, Nat.reduceBEq, true_and, and_true, or_true, true_or, and_self, decide_true, Nat.add_zero, reduceCtorEq, false_or, or_false]
                repeat' (first | exact True.intro | exact Nat.add_lt_add_left (by decide) _ | exact Nat.lt_add_of_pos_right (by decide) | refine W_nils ?_ (Or.inr rfl) | refine W_nils ?_ (Or.inl rfl) | refine Wc_nils ?_ (Or.inr rfl) | refine Wc_nils ?_ (Or.inl rfl) | exact W_cap | rfl | refine And.intro ?_ ?_ | exact Or.inl rfl | exact Or.inr rfl | exact Or.inr (Or.inl rfl) | exact Or.inr (Or.inr BW.emp) | exact Or.inr BW.emp | exact BW.emp | exact Or.inr (Or.inr BW.pre) | exact Or.inr BW.pre | exact BW.pre | refine Or.inr (BW.cells ?_) | refine BW.cells ?_ | refine Or.inr (Or.inr (BW.cells ?_)) | exact Wc_cap)
              · simp -implicitDefEqProofs (disch := omega) only [hc, hp, hb0, q0, prs_snoc, hLt, simprocAttr, amset, tyset, Function.comp_apply, one1, lenV, calleeOf, lateOk, belowV, aop, AV.ofValue, AV.ofCell, AV.cells, AV.flat, AV.one, arep, aBin, aAppend, aConv]
                repeat refine And.intro (by omega) ?_
                refine fin _ _ [0, 3] (by decide) (by simp) hi hps _ _ ?_
                simp -implicitDefEqProofs (disch := omega) only [List.append_assoc, List.length_append, List.length_cons, List.length_nil, absF, absH, W_refl', W_any', W_agg, W_tup, Ws_cons, Ws_refl', Wc_refl', Wcs_cons, Wcs_nil, look, List.cons_append, List.nil_append, List.append_nil, List.length_cons, List.length_nil, Nat.zero_add, Nat.reduceAdd, AV.mv, AV.mvs, ABlk.mv, sig_new0, sig_newk, sig_lt, List.getElem?_cons_zero, List.getElem?_cons_succ, mvs_ints, mvs_bools, mvs_prs, mvs_append, cond_true, cond_false, beq_self_eq_true, Nat.reduceBEq, true_and, and_true, or_true, true_or, and_self, decide_true, Nat.add_zero, reduceCtorEq, false_or, or_false]
                repeat' (first | exact True.intro | exact Nat.add_lt_add_left (by decide) _ | exact Nat.lt_add_of_pos_right (by decide) | refine W_nils ?_ (Or.inr rfl) | refine W_nils ?_ (Or.inl rfl) | refine Wc_nils ?_ (Or.inr rfl) | refine Wc_nils ?_ (Or.inl rfl) | exact W_cap | rfl | refine And.intro ?_ ?_ | exact Or.inl rfl | exact Or.inr rfl | exact Or.inr (Or.inl rfl) | exact Or.inr (Or.inr BW.emp) | exact Or.inr BW.emp | exact BW.emp | exact Or.inr (Or.inr BW.pre) | exact Or.inr BW.pre | exact BW.pre | refine Or.inr (BW.cells ?_) | refine BW.cells ?_ | refine Or.inr (Or.inr (BW.cells ?_)) | exact Wc_cap)
          · have hst : pst (u, w) (L, d) (gp C i) = (L ++ [gp C i], d) := by unfold pst; rw [if_neg hc', if_neg (by simp only; omega)]
            rw [hst] at hps
            rcases hO with ⟨rfl, rfl, rfl⟩ | ⟨hL1, rfl, rfl⟩
            · simp -implicitDefEqProofs (disch := omega) only [hc, hp, hb0, q0, simprocAttr, amset, tyset, Function.comp_apply, one1, lenV, calleeOf, lateOk, belowV, aop, AV.ofValue, AV.ofCell, AV.cells, AV.flat, AV.one, arep, aBin, aAppend, aConv]
              repeat refine And.intro (by omega) ?_
              refine fin _ _ [0, 3] (by decide) (by simp) hi hps _ _ ?_
              simp -implicitDefEqProofs (disch := omega) only [absF, absH, W_refl', W_any', W_agg, W_tup, Ws_cons, Ws_refl', Wc_refl', Wcs_cons, Wcs_nil, look, List.cons_append, List.nil_append, List.append_nil, List.length_cons, List.length_nil, Nat.zero_add, Nat.reduceAdd, AV.mv, AV.mvs, ABlk.mv, sig_new0, sig_newk, sig_lt, List.getElem?_cons_zero, List.getElem?_cons_succ, mvs_ints, mvs_bools, mvs_prs, mvs_append, cond_true, cond_false, beq_self_eq_true, Nat.reduceBEq, true_and, and_true, or_true, true_or, and_self, decide_true, Nat.add_zero, reduceCtorEq, false_or, or_false]
              repeat' (first | exact True.intro | exact Nat.add_lt_add_left (by decide) _ | exact Nat.lt_add_of_pos_right (by decide) | refine W_nils ?_ (Or.inr rfl) | refine W_nils ?_ (Or.inl rfl) | refine Wc_nils ?_ (Or.inr rfl) | refine Wc_nils ?_ (Or.inl rfl) | exact W_cap | rfl | refine And.intro ?_ ?_ | exact Or.inl rfl | exact Or.inr rfl | exact Or.inr (Or.inl rfl) | exact Or.inr (Or.inr BW.emp) | exact Or.inr BW.emp | exact BW.emp | exact Or.inr (Or.inr BW.pre) | exact Or.inr BW.pre | exact BW.pre | refine Or.inr (BW.cells ?_) | refine BW.cells ?_ | refine Or.inr (Or.inr (BW.cells ?_)) | exact Wc_cap)
            · simp -implicitDefEqProofs (disch := omega) only [hc, hp, hb0, q0, prs_snoc, hLt, simprocAttr, amset, tyset, Function.comp_apply, one1, lenV, calleeOf, lateOk, belowV, aop, AV.ofValue, AV.ofCell, AV.cells, AV.flat, AV.one, arep, aBin, aAppend, aConv]
              repeat refine And.intro (by omega) ?_
              refine fin _ _ [0, 3] (by decide) (by simp) hi hps _ _ ?_
              simp -implicitDefEqProofs (disch := omega) only [List.append_assoc, List.length_append, List.length_cons, List.length_nil, absF, absH, W_refl', W_any', W_agg, W_tup, Ws_cons, Ws_refl', Wc_refl', Wcs_cons, Wcs_nil, look, List.cons_append, List.nil_append, List.append_nil, List.length_cons, List.length_nil, Nat.zero_add, Nat.reduceAdd, AV.mv, AV.mvs, ABlk.mv, sig_new0, sig_newk, sig_lt, List.getElem?_cons_zero, List.getElem?_cons_succ, mvs_ints, mvs_bools, mvs_prs, mvs_append, cond_true, cond_false, beq_self_eq_true, Nat.reduceBEq, true_and, and_true, or_true, true_or, and_self, decide_true, Nat.add_zero, reduceCtorEq, false_or, or_false]
              repeat' (first | exact True.intro | exact Nat.add_lt_add_left (by decide) _ | exact Nat.lt_add_of_pos_right (by decide) | refine W_nils ?_ (Or.inr rfl) | refine W_nils ?_ (Or.inl rfl) | refine Wc_nils ?_ (Or.inr rfl) | refine Wc_nils ?_ (Or.inl rfl) | exact W_cap | rfl | refine And.intro ?_ ?_ | exact Or.inl rfl | exact Or.inr rfl | exact Or.inr (Or.inl rfl) | exact Or.inr (Or.inr BW.emp) | exact Or.inr BW.emp | exact BW.emp | exact Or.inr (Or.inr BW.pre) | exact Or.inr BW.pre | exact BW.pre | refine Or.inr (BW.cells ?_) | refine BW.cells ?_ | refine Or.inr (Or.inr (BW.cells ?_)) | exact Wc_cap)
        · have hst : pst (u, w) (L, d) (gp C i) = (L ++ [padd (gp C i) (u, w)], true) := by unfold pst; rw [if_pos (beq_iff_eq.1 hc)]
          rw [hst] at hps
          rcases hO with ⟨rfl, rfl, rfl⟩ | ⟨hL1, rfl, rfl⟩
          · simp -implicitDefEqProofs (disch := omega) only [hc, hb0, q1, q2, simprocAttr, amset, tyset, Function.comp_apply, one1, lenV, calleeOf, lateOk, belowV, aop, AV.ofValue, AV.ofCell, AV.cells, AV.flat, AV.one, arep, aBin, aAppend, aConv]
            repeat refine And.intro (by omega) ?_
            refine fin _ _ [0, 3] (by decide) (by simp) hi hps _ _ ?_
            simp -implicitDefEqProofs (disch := omega) only [absF, absH, W_refl', W_any', W_agg, W_tup, Ws_cons, Ws_refl', Wc_refl', Wcs_cons, Wcs_nil, look, List.cons_append, List.nil_append, List.append_nil, List.length_cons, List.length_nil, Nat.zero_add, Nat.reduceAdd, AV.mv, AV.mvs, ABlk.mv, sig_new0, sig_newk, sig_lt, List.getElem?_cons_zero, List.getElem?_cons_succ, mvs_ints, mvs_bools, mvs_prs, mvs_append, cond_true, cond_false, beq_self_eq_true, Nat.reduceBEq, true_and, and_true, or_true, true_or, and_self, decide_true, Nat.add_zero, reduceCtorEq, false_or, or_false]
            repeat' (first | exact True.intro | exact Nat.add_lt_add_left (by decide) _ | exact Nat.lt_add_of_pos_right (by decide) | refine W_nils ?_ (Or.inr rfl) | refine W_nils ?_ (Or.inl rfl) | refine Wc_nils ?_ (Or.inr rfl) | refine Wc_nils ?_ (Or.inl rfl) | exact W_cap | rfl | refine And.intro ?_ ?_ | exact Or.inl rfl | exact Or.inr rfl | exact Or.inr (Or.inl rfl) | exact Or.inr (Or.inr BW.emp) | exact Or.inr BW.emp | exact BW.emp | exact Or.inr (Or.inr BW.pre) | exact Or.inr BW.pre | exact BW.pre | refine Or.inr (BW.cells ?_) | refine BW.cells ?_ | refine Or.inr (Or.inr (BW.cells ?_)) | exact Wc_cap)
          · simp -implicitDefEqProofs (disch := omega) only [hc, hb0, q1, q2, prs_snoc, hLt, simprocAttr, amset, tyset, Function.comp_apply, one1, lenV, calleeOf, lateOk, belowV, aop, AV.ofValue, AV.ofCell, AV.cells, AV.flat, AV.one, arep, aBin, aAppend, aConv]
            repeat refine And.intro (by omega) ?_
            refine fin _ _ [0, 3] (by decide) (by simp) hi hps _ _ ?_
            simp -implicitDefEqProofs (disch := omega) only [List.append_assoc, List.length_append, List.length_cons, List.length_nil, absF, absH, W_refl', W_any', W_agg, W_tup, Ws_cons, Ws_refl', Wc_refl', Wcs_cons, Wcs_nil, look, List.cons_append, List.nil_append, List.append_nil, List.length_cons, List.length_nil, Nat.zero_add, Nat.reduceAdd, AV.mv, AV.mvs, ABlk.mv, sig_new0, sig_newk, sig_lt, List.getElem?_cons_zero, List.getElem?_cons_succ, mvs_ints, mvs_bools, mvs_prs, mvs_append, cond_true, cond_false, beq_self_eq_true, Nat.reduceBEq, true_and, and_true, or_true, true_or, and_self, decide_true, Nat.add_zero, reduceCtorEq, false_or, or_false]
            repeat' (first | exact True.intro | exact Nat.add_lt_add_left (by decide) _ | exact Nat.lt_add_of_pos_right (by decide) | refine W_nils ?_ (Or.inr rfl) | refine W_nils ?_ (Or.inl rfl) | refine Wc_nils ?_ (Or.inr rfl) | refine Wc_nils ?_ (Or.inl rfl) | exact W_cap | rfl | refine And.intro ?_ ?_ | exact Or.inl rfl | exact Or.inr rfl | exact Or.inr (Or.inl rfl) | exact Or.inr (Or.inr BW.emp) | exact Or.inr BW.emp | exact BW.emp | exact Or.inr (Or.inr BW.pre) | exact Or.inr BW.pre | exact BW.pre | refine Or.inr (BW.cells ?_) | refine BW.cells ?_ | refine Or.inr (Or.inr (BW.cells ?_)) | exact Wc_cap)
      · have hnn : ¬ ((i : Int) < (n : Int)) := by omega
        obtain rfl : i = n := by omega
        rw [hend] at hQ
        clear hps hend fin
        generalize (C.take i).foldl (pst (u, w)) ([], false) = st at *
        obtain ⟨L, d⟩ := st
        simp only at hO hpl
        have hLt : List.take (L.length * 2) (prs L) = prs L := List.take_of_length_le (by rw [prs_len]; omega)
        cases d
        · rw [if_neg (by simp), retP_pos (by simp)] at hQ
          rcases hO with ⟨rfl, rfl, rfl⟩ | ⟨hL1, rfl, rfl⟩
          · simp -implicitDefEqProofs (disch := omega) only [hnn, simprocAttr, amset, tyset, Function.comp_apply, one1, lenV, calleeOf, lateOk, belowV, aop, AV.ofValue, AV.ofCell, AV.cells, AV.flat, AV.one, arep, aBin, aAppend, aConv]
            refine hQ _ _ (end_by (.inl rfl) hbel (x1 := .sl (some (H.length + 3, 0)) 1 none) (.sl (some (H.length, 0)) 1 none) (ret_of Try.results71 (by simp -implicitDefEqProofs (disch := omega) only [simprocAttr, amset, tyset, Function.comp_apply, one1, lenV, calleeOf, lateOk, belowV, aop, AV.ofValue, AV.ofCell, AV.cells, AV.flat, AV.one, arep, aBin, aAppend, aConv])) [3] (by decide) ⟨rfl, rfl⟩ ?_)
            simp -implicitDefEqProofs (disch := omega) only [absF, absH, W_refl', W_any', W_agg, W_tup, Ws_cons, Ws_refl', Wc_refl', Wcs_cons, Wcs_nil, look, List.cons_append, List.nil_append, List.append_nil, List.length_cons, List.length_nil, Nat.zero_add, Nat.reduceAdd, AV.mv, AV.mvs, ABlk.mv, sig_new0, sig_newk, sig_lt, List.getElem?_cons_zero, List.getElem?_cons_succ, mvs_ints, mvs_bools, mvs_prs, mvs_append, cond_true, cond_false, beq_self_eq_true, Nat.reduceBEq, true_and, and_true, or_true, true_or, and_self, decide_true, Nat.add_zero, reduceCtorEq, false_or, or_false]
            repeat' (first | exact True.intro | exact Nat.add_lt_add_left (by decide) _ | exact Nat.lt_add_of_pos_right (by decide) | refine W_nils ?_ (Or.inr rfl) | refine W_nils ?_ (Or.inl rfl) | refine Wc_nils ?_ (Or.inr rfl) | refine Wc_nils ?_ (Or.inl rfl) | exact W_cap | rfl | refine And.intro ?_ ?_ | exact Or.inl rfl | exact Or.inr rfl | exact Or.inr (Or.inl rfl) | exact Or.inr (Or.inr BW.emp) | exact Or.inr BW.emp | exact BW.emp | exact Or.inr (Or.inr BW.pre) | exact Or.inr BW.pre | exact BW.pre | refine Or.inr (BW.cells ?_) | refine BW.cells ?_ | refine Or.inr (Or.inr (BW.cells ?_)) | exact Wc_cap)
          · simp -implicitDefEqProofs (disch := omega) only [hnn, prs_snoc, hLt, simprocAttr, amset, tyset, Function.comp_apply, one1, lenV, calleeOf, lateOk, belowV, aop, AV.ofValue, AV.ofCell, AV.cells, AV.flat, AV.one, arep, aBin, aAppend, aConv]
            repeat refine And.intro (by omega) ?_
            refine hQ _ _ (end_by (.inl rfl) hbel (x1 := .sl (some (H.length + 3, 0)) (L.length + 1) none) (.sl (some (H.length, 0)) (L.length + 1) none) (ret_of Try.results71 (by simp -implicitDefEqProofs (disch := omega) only [simprocAttr, amset, tyset, Function.comp_apply, one1, lenV, calleeOf, lateOk, belowV, aop, AV.ofValue, AV.ofCell, AV.cells, AV.flat, AV.one, arep, aBin, aAppend, aConv])) [3] (by decide) ⟨by simp, rfl⟩ ?_)
            simp -implicitDefEqProofs (disch := omega) only [absF, absH, W_refl', W_any', W_agg, W_tup, Ws_cons, Ws_refl', Wc_refl', Wcs_cons, Wcs_nil, look, List.cons_append, List.nil_append, List.append_nil, List.length_cons, List.length_nil, Nat.zero_add, Nat.reduceAdd, AV.mv, AV.mvs, ABlk.mv, sig_new0, sig_newk, sig_lt, List.getElem?_cons_zero, List.getElem?_cons_succ, mvs_ints, mvs_bools, mvs_prs, mvs_append, cond_true, cond_false, beq_self_eq_true, Nat.reduceBEq, true_and, and_true, or_true, true_or, and_self, decide_true, Nat.add_zero, reduceCtorEq, false_or, or_false]
            repeat' (first | exact True.intro | exact Nat.add_lt_add_left (by decide) _ | exact Nat.lt_add_of_pos_right (by decide) | refine W_nils ?_ (Or.inr rfl) | refine W_nils ?_ (Or.inl rfl) | refine Wc_nils ?_ (Or.inr rfl) | refine Wc_nils ?_ (Or.inl rfl) | exact W_cap | rfl | refine And.intro ?_ ?_ | exact Or.inl rfl | exact Or.inr rfl | exact Or.inr (Or.inl rfl) | exact Or.inr (Or.inr BW.emp) | exact Or.inr BW.emp | exact BW.emp | exact Or.inr (Or.inr BW.pre) | exact Or.inr BW.pre | exact BW.pre | refine Or.inr (BW.cells ?_) | refine BW.cells ?_ | refine Or.inr (Or.inr (BW.cells ?_)) | exact Wc_cap)
        · rw [if_pos rfl] at hQ
          rcases hO with ⟨rfl, rfl, rfl⟩ | ⟨hL1, rfl, rfl⟩
          · rw [retP_nil] at hQ
            simp -implicitDefEqProofs (disch := omega) only [hnn, simprocAttr, amset, tyset, Function.comp_apply, one1, lenV, calleeOf, lateOk, belowV, aop, AV.ofValue, AV.ofCell, AV.cells, AV.flat, AV.one, arep, aBin, aAppend, aConv]
            exact hQ _ _ (end_plain (.inl rfl) hbel (x := .sl none 0 (some 0)) (ret_of Try.results71 (by simp -implicitDefEqProofs (disch := omega) only [simprocAttr, amset, tyset, Function.comp_apply, one1, lenV, calleeOf, lateOk, belowV, aop, AV.ofValue, AV.ofCell, AV.cells, AV.flat, AV.one, arep, aBin, aAppend, aConv])) rfl ⟨rfl, rfl⟩)
          · rw [retP_pos hL1] at hQ
            simp -implicitDefEqProofs (disch := omega) only [hnn, simprocAttr, amset, tyset, Function.comp_apply, one1, lenV, calleeOf, lateOk, belowV, aop, AV.ofValue, AV.ofCell, AV.cells, AV.flat, AV.one, arep, aBin, aAppend, aConv]
            refine hQ _ _ (end_by (.inl rfl) hbel (x1 := .sl (some (H.length + 1, 0)) L.length none) (.sl (some (H.length, 0)) L.length none) (ret_of Try.results71 (by simp -implicitDefEqProofs (disch := omega) only [simprocAttr, amset, tyset, Function.comp_apply, one1, lenV, calleeOf, lateOk, belowV, aop, AV.ofValue, AV.ofCell, AV.cells, AV.flat, AV.one, arep, aBin, aAppend, aConv])) [1] (by decide) ⟨rfl, rfl⟩ ?_)
            simp -implicitDefEqProofs (disch := omega) only [absF, absH, W_refl', W_any', W_agg, W_tup, Ws_cons, Ws_refl', Wc_refl', Wcs_cons, Wcs_nil, look, List.cons_append, List.nil_append, List.append_nil, List.length_cons, List.length_nil, Nat.zero_add, Nat.reduceAdd, AV.mv, AV.mvs, ABlk.mv, sig_new0, sig_newk, sig_lt, List.getElem?_cons_zero, List.getElem?_cons_succ, mvs_ints, mvs_bools, mvs_prs, mvs_append, cond_true, cond_false, beq_self_eq_true, Nat.reduceBEq, true_and, and_true, or_true, true_or, and_self, decide_true, Nat.add_zero, reduceCtorEq, false_or, or_false]
            repeat' (first | exact True.intro | exact Nat.add_lt_add_left (by decide) _ | exact Nat.lt_add_of_pos_right (by decide) | refine W_nils ?_ (Or.inr rfl) | refine W_nils ?_ (Or.inl rfl) | refine Wc_nils ?_ (Or.inr rfl) | refine Wc_nils ?_ (Or.inl rfl) | exact W_cap | rfl | refine And.intro ?_ ?_ | exact Or.inl rfl | exact Or.inr rfl | exact Or.inr (Or.inl rfl) | exact Or.inr (Or.inr BW.emp) | exact Or.inr BW.emp | exact BW.emp | exact Or.inr (Or.inr BW.pre) | exact Or.inr BW.pre | exact BW.pre | refine Or.inr (BW.cells ?_) | refine BW.cells ?_ | refine Or.inr (Or.inr (BW.cells ?_)) | exact Wc_cap)
  simp -implicitDefEqProofs (disch := omega) only [hz1, hz2, simprocAttr, amset, tyset, Function.comp_apply, one1, lenV, calleeOf, lateOk, belowV, aop, AV.ofValue, AV.ofCell, AV.cells, AV.flat, AV.one, arep, aBin, aAppend, aConv]
  rw [if_pos (by rw [beq_iff_eq.1 hz1, beq_iff_eq.1 hz2])] at hQ
  refine hQ _ _ (end_by (l2 := []) (.inl rfl) hbel (x1 := .sl (some (b, 0)) n cap) (.sl (some (b, 0)) n cap) (ret_of Try.results71 (by simp -implicitDefEqProofs (disch := omega) only [simprocAttr, amset, tyset, Function.comp_apply, one1, lenV, calleeOf, lateOk, belowV, aop, AV.ofValue, AV.ofCell, AV.cells, AV.flat, AV.one, arep, aBin, aAppend, aConv])) [] (by decide) ⟨rfl, by simp⟩ ?_)
  simp -implicitDefEqProofs (disch := omega) only [absF, absH, W_refl', W_any', W_agg, W_tup, Ws_cons, Ws_refl', Wc_refl', Wcs_cons, Wcs_nil, look, List.cons_append, List.nil_append, List.append_nil, List.length_cons, List.length_nil, Nat.zero_add, Nat.reduceAdd, AV.mv, AV.mvs, ABlk.mv, sig_new0, sig_newk, sig_lt, List.getElem?_cons_zero, List.getElem?_cons_succ, mvs_ints, mvs_bools, mvs_prs, mvs_append, cond_true, cond_false, beq_self_eq_true, Nat.reduceBEq, true_and, and_true, or_true, true_or, and_self, decide_true, Nat.add_zero, reduceCtorEq, false_or, or_false]
  repeat' (first | exact True.intro | exact Nat.add_lt_add_left (by decide) _ | exact Nat.lt_add_of_pos_right (by decide) | refine W_nils ?_ (Or.inr rfl) | refine W_nils ?_ (Or.inl rfl) | refine Wc_nils ?_ (Or.inr rfl) | refine Wc_nils ?_ (Or.inl rfl) | exact W_cap | rfl | refine And.intro ?_ ?_ | exact Or.inl rfl | exact Or.inr rfl | exact Or.inr (Or.inl rfl) | exact Or.inr (Or.inr BW.emp) | exact Or.inr BW.emp | exact BW.emp | exact Or.inr (Or.inr BW.pre) | exact Or.inr BW.pre | exact BW.pre | refine Or.inr (BW.cells ?_) | refine BW.cells ?_ | refine Or.inr (Or.inr (BW.cells ?_)) | exact Wc_cap)
end Go.Proofs.Ytjfnbcifafmefaa

/- Walk by the abstract machine: wayfinderref07.canon; canonical at any zonogon. Conditions: as each theorem states. -/
namespace Go.Proofs.Ytjfnbcifafmefaa
set_option linter.unusedSimpArgs false
set_option linter.unusedVariables false
open Go.RowKit
theorem pst_bd {A B : Int} (hA : 0 ≤ A) (hB : 0 ≤ B) {g x : Pt} {st : List Pt × Bool} (h : ∀ e ∈ st.1, Bd (A + B) e) (hx : Bd A x) (hg : Bd B g) : ∀ e ∈ (pst g st x).1, Bd (A + B) e := by
  have hx' : Bd (A + B) x := by unfold Bd at *; omega
  have hg' : Bd (A + B) g := by unfold Bd at *; omega
  have hp : Bd (A + B) (padd x g) := by unfold Bd padd at *; simp only; omega
  unfold pst
  split
  · intro e he
    simp only [List.mem_append, List.mem_singleton] at he
    rcases he with he | rfl
    · exact h e he
    · exact hp
  · split
    · intro e he
      simp only [List.mem_append, List.mem_cons, List.not_mem_nil, or_false] at he
      rcases he with he | rfl | rfl
      · exact h e he
      · exact hg'
      · exact hx'
    · intro e he
      simp only [List.mem_append, List.mem_singleton] at he
      rcases he with he | rfl
      · exact h e he
      · exact hx'
theorem putC_bd {A B : Int} (hA : 0 ≤ A) (hB : 0 ≤ B) {g : Pt} {C : List Pt} (hC : ∀ e ∈ C, Bd A e) (hg : Bd B g) : ∀ e ∈ putC C g, Bd (A + B) e := by
  have gen : ∀ (D : List Pt) (st : List Pt × Bool), (∀ e ∈ D, Bd A e) → (∀ e ∈ st.1, Bd (A + B) e) → ∀ e ∈ (D.foldl (pst g) st).1, Bd (A + B) e := fun D => by
    induction D with
    | nil => intro st _ h; exact h
    | cons d D ih =>
      intro st hD h
      rw [List.foldl_cons]
      exact ih _ (fun e he => hD e (by simp [he])) (pst_bd hA hB h (hD d (by simp)) hg)
  have h1 := gen C ([], false) hC (by simp)
  have hg' : Bd (A + B) g := by unfold Bd at *; omega
  unfold putC
  simp only
  split
  · exact h1
  · intro e he
    simp only [List.mem_append, List.mem_singleton] at he
    rcases he with he | rfl
    · exact h1 e he
    · exact hg'
theorem canonL_snoc (l : List Pt) (g : Pt) : canonL (l ++ [g]) = putL (canonL l) g := by unfold canonL; rw [List.foldl_append]; rfl
theorem canonL_bd {M : Int} (hM : 0 ≤ M) {l : List Pt} (h : ∀ e ∈ l, Bd M e) : ∀ e ∈ canonL l, Bd (l.length * M) e := by
  revert h
  refine snoc_ind (P := fun l => (∀ e ∈ l, Bd M e) → ∀ e ∈ canonL l, Bd (l.length * M) e) (fun _ => by simp [canonL]) (fun l g ih h => ?_) l
  have ih := ih fun e he => h e (by simp [he])
  have hg := nrm_bd (h g (by simp))
  have e1 : ((l ++ [g]).length : Int) * M = l.length * M + M := by
    rw [List.length_append, Int.natCast_add, Int.add_mul]; simp
  have e2 : 0 ≤ (l.length : Int) * M := Int.mul_nonneg (by omega) hM
  rw [canonL_snoc, e1]
  unfold putL
  split
  · intro e he
    have := ih e he
    unfold Bd at *; omega
  · exact putC_bd e2 hM ih hg
theorem putC_len {C : List Pt} {g : Pt} (hg : up g) (hs : C.Pairwise fun a b => 0 < crs a b) (hu : ∀ e ∈ C, up e) : (putC C g).length ≤ C.length + 1 ∧ 0 < (putC C g).length := by
  rcases split_at hg C hs hu with ⟨A, B, rfl, h1, h2⟩ | ⟨A, e, B, rfl, h1, h0, h2⟩
  · rw [putC_none h1 h2]; simp; omega
  · rw [putC_some h1 h0 h2]; simp; omega
theorem canonL_len (l : List Pt) : (canonL l).length ≤ l.length := by
  refine snoc_ind (P := fun l => (canonL l).length ≤ l.length) (by simp [canonL]) (fun l g h => ?_) l
  rw [canonL_snoc, List.length_append, List.length_singleton]
  unfold putL
  split
  · omega
  · rename_i h0
    have hc := canonL_can l
    have := (putC_len (nrm_up h0) hc.sorted hc.ups).1
    omega
/-- One more generator, to a list that is none yet or a block of its own. -/
theorem put_c (H : AHeap) (s : AV) (C : List Pt) (hs : IsP H s C) (hl : C.length ≤ 40) (hC : ∀ e ∈ C, Bd 260000000 e) (g : Pt) (hg : Bd 4194304 g) :
    ACalls Try.prog 71 [s, pv g] H (fun v H' => v = (putV H s C g).1 ∧ H' = (putV H s C g).2) := by
  rcases hs with ⟨rfl, rfl⟩ | ⟨b, own, cap, rfl, hb⟩
  · exact put0_c H g.1 g.2 hg
  · exact put1_c H b own cap C hb hl hC g.1 g.2 hg
theorem putV_zero {H : AHeap} {s : AV} {C : List Pt} {g : Pt} (h : nrm g = (0, 0)) : putV H s C g = (s, H) := by unfold putV; rw [if_pos h]
theorem putV_pos {H : AHeap} {s : AV} {C : List Pt} {g : Pt} (h : nrm g ≠ (0, 0)) (h0 : 0 < (putC C (nrm g)).length) : putV H s C g = (.sl (some (H.length, 0)) (putC C (nrm g)).length none, H ++ [.cells true 2 (prs (putC C (nrm g)))]) := by
  unfold putV; rw [if_neg h, retP_pos h0]
set_option maxHeartbeats 4000000 in
set_option maxRecDepth 100000 in
theorem rcanon_c (H : AHeap) (x y : Int) (b : Nat) (own : Bool) (cap : Option Nat) (l : List Pt) (hb : H[b]? = some (.cells own 2 (prs l))) (hl : l.length ≤ 40) (hB : ∀ e ∈ l, Bd 4194304 e) :
    ACalls Try.prog 45 [.agg [.int .i64 x, .int .i64 y, .sl (some (b, 0)) l.length cap]] H (fun v H' => v = .agg [.int .i64 x, .int .i64 y, (retP H (canonL l)).1] ∧ H' = (retP H (canonL l)).2) := by
  have hbl := getElem?_lt hb
  have hb0 := fun l => get_app (l := l) hb
  generalize hn : l.length = n at *
  (refine ACalls_run try_mixed Try.func45 false _ rfl (Nat.le_of_ble_eq_true (by kernel_rfl)) (by kernel_rfl) ?_; intro hbel Q hQ hQ' c hc; unfold Try.f45 at hc; simp only [Option.some.injEq] at hc; subst hc; clear hQ')
  simp -implicitDefEqProofs (disch := omega) only [simprocAttr, amset, tyset, Function.comp_apply, one1, lenV, calleeOf, lateOk, belowV, aop, AV.ofValue, AV.ofCell, AV.cells, AV.flat, AV.one, arep, aBin, aAppend, aConv]
  refine go_loop try_mixed (by kernel_rfl) (fun k F Hx => ∃ (i : Nat) (s : AV) (X : ABlk), i + k = n ∧ OutP (H.length + 3) s X (canonL (l.take i)) ∧
    F = [(1, .ptr (some (H.length, 0))), (2, .ptr (some (H.length + 1, 0))), (3, .ptr (some (H.length + 2, 0))), (4, .int .i64 (i : Nat))] ∧
    Hx = H ++ [.cells true 0 [.int .i64 x, .int .i64 y, .sl (some (b, 0)) n cap], .cells true 0 [.int .i64 0, .int .i64 0, .sl none 0 (some 0)], .cells true 0 [.int .i64 x, .int .i64 y, s], X]) n ?_ ?_
  · refine ⟨_, _, _, ⟨0, _, _, by omega, .inl ⟨rfl, rfl, rfl⟩, rfl, rfl⟩, Abs.by hbel [0, 1, 2, 3] (by decide) ?_⟩
    simp -implicitDefEqProofs (disch := omega) only [absF, absH, W_refl', W_any', W_agg, W_tup, Ws_cons, Ws_refl', Wc_refl', Wcs_cons, Wcs_nil, look, List.cons_append, List.nil_append, List.append_nil, List.length_cons, List.length_nil, Nat.zero_add, Nat.reduceAdd, AV.mv, AV.mvs, ABlk.mv, sig_new0, sig_newk, sig_lt, List.getElem?_cons_zero, List.getElem?_cons_succ, mvs_ints, mvs_bools, mvs_prs, mvs_append, cond_true, cond_false, beq_self_eq_true, Nat.reduceBEq, true_and, and_true, or_true, true_or, and_self, decide_true, Nat.add_zero, reduceCtorEq, false_or, or_false]
    repeat' (first | exact True.intro | exact Nat.add_lt_add_left (by decide) _ | exact Nat.lt_add_of_pos_right (by decide) | refine W_nils ?_ (Or.inr rfl) | refine W_nils ?_ (Or.inl rfl) | refine Wc_nils ?_ (Or.inr rfl) | refine Wc_nils ?_ (Or.inl rfl) | exact W_cap | rfl | refine And.intro ?_ ?_ | exact Or.inl rfl | exact Or.inr rfl | exact Or.inr (Or.inl rfl) | exact Or.inr (Or.inr BW.emp) | exact Or.inr BW.emp | exact BW.emp | exact Or.inr (Or.inr BW.pre) | exact Or.inr BW.pre | exact BW.pre | refine Or.inr (BW.cells ?_) | refine BW.cells ?_ | refine Or.inr (Or.inr (BW.cells ?_)) | exact Wc_cap)
  · rintro k F Hx ⟨i, s, X, hik, hO, rfl, rfl⟩ J hJ
    by_cases hi : i < l.length
    · have hii : (i : Int) < (n : Int) := by omega
      have q0 := prs_load hi
      have hg : gp l i = l[i] := gp_eq hi
      have hgb := hB l[i] (List.getElem_mem hi)
      rw [← hg] at hgb
      have hst : canonL (l.take (i + 1)) = putL (canonL (l.take i)) (gp l i) := by rw [List.take_succ_eq_append_getElem hi, canonL_snoc, hg]
      have hml := canonL_len (l.take i)
      have hmb := canonL_bd (M := 4194304) (by decide) (l := l.take i) (fun e he => hB e (List.mem_of_mem_take he))
      have hcan := canonL_can (l.take i)
      have h40 : ((l.take i).length : Int) * 4194304 ≤ 40 * 4194304 := Int.mul_le_mul_of_nonneg_right (by rw [List.length_take]; omega) (by decide)
      have hmb2 : ∀ e ∈ canonL (l.take i), Bd 260000000 e := fun e he => by have := hmb e he; unfold Bd at *; omega
      rw [List.length_take] at hml
      generalize canonL (l.take i) = L at *
      rcases hO with ⟨rfl, rfl, rfl⟩ | ⟨hL1, rfl, rfl⟩
      · have hput := put_c (H ++ [.cells true 0 [.int .i64 x, .int .i64 y, .sl (some (b, 0)) n cap], .cells true 0 [.int .i64 0, .int .i64 0, .sl none 0 (some 0)], .cells true 0 [.int .i64 x, .int .i64 y, .sl none 0 (some 0)], .dead]) (.sl none 0 (some 0)) [] (.inl ⟨rfl, rfl⟩) (by simp) hmb2 (gp l i) hgb
        by_cases hz : nrm (gp l i) = (0, 0)
        · have hst2 : putL [] (gp l i) = [] := by unfold putL; rw [if_pos hz]
          rw [hst2] at hst
          rw [putV_zero hz] at hput
          simp -implicitDefEqProofs (disch := omega) only [hii, hb0, q0, simprocAttr, amset, tyset, Function.comp_apply, one1, lenV, calleeOf, lateOk, belowV, aop, AV.ofValue, AV.ofCell, AV.cells, AV.flat, AV.one, arep, aBin, aAppend, aConv]
          repeat refine And.intro (by omega) ?_
          refine call_d (by kernel_rfl) hput ?_
          simp -implicitDefEqProofs (disch := omega) only [simprocAttr, amset, tyset, Function.comp_apply, one1, lenV, calleeOf, lateOk, belowV, aop, AV.ofValue, AV.ofCell, AV.cells, AV.flat, AV.one, arep, aBin, aAppend, aConv]
          refine hJ _ _ ⟨k - 1, by omega, _, [(1, .ptr (some (H.length, 0))), (2, .ptr (some (H.length + 1, 0))), (3, .ptr (some (H.length + 2, 0))), (4, .int .i64 ((i + 1 : Nat) : Int))], H ++ [.cells true 0 [.int .i64 x, .int .i64 y, .sl (some (b, 0)) n cap], .cells true 0 [.int .i64 0, .int .i64 0, .sl none 0 (some 0)], .cells true 0 [.int .i64 x, .int .i64 y, .sl none 0 (some 0)], .dead], ⟨i + 1, .sl none 0 (some 0), .dead, by omega, by rw [hst]; exact .inl ⟨rfl, rfl, rfl⟩, rfl, rfl⟩, Abs.by hbel [0, 1, 2, 3] (by decide) ?_⟩
          simp -implicitDefEqProofs (disch := omega) only [absF, absH, W_refl', W_any', W_agg, W_tup, Ws_cons, Ws_refl', Wc_refl', Wcs_cons, Wcs_nil, look, List.cons_append, List.nil_append, List.append_nil, List.length_cons, List.length_nil, Nat.zero_add, Nat.reduceAdd, AV.mv, AV.mvs, ABlk.mv, sig_new0, sig_newk, sig_lt, List.getElem?_cons_zero, List.getElem?_cons_succ, mvs_ints, mvs_bools, mvs_prs, mvs_append, cond_true, cond_false, beq_self_eq_true, Nat.reduceBEq, true_and, and_true, or_true, true_or, and_self, decide_true, Nat.add_zero, reduceCtorEq, false_or, or_false]
          repeat' (first | exact True.intro | exact Nat.add_lt_add_left (by decide) _ | exact Nat.lt_add_of_pos_right (by decide) | refine W_nils ?_ (Or.inr rfl) | refine W_nils ?_ (Or.inl rfl) | refine Wc_nils ?_ (Or.inr rfl) | refine Wc_nils ?_ (Or.inl rfl) | exact W_cap | rfl | refine And.intro ?_ ?_ | exact Or.inl rfl | exact Or.inr rfl | exact Or.inr (Or.inl rfl) | exact Or.inr (Or.inr BW.emp) | exact Or.inr BW.emp | exact BW.emp | exact Or.inr (Or.inr BW.pre) | exact Or.inr BW.pre | exact BW.pre | refine Or.inr (BW.cells ?_) | refine BW.cells ?_ | refine Or.inr (Or.inr (BW.cells ?_)) | exact Wc_cap)
        · have hst2 : putL [] (gp l i) = putC [] (nrm (gp l i)) := by unfold putL; rw [if_neg hz]
          rw [hst2] at hst
          have hpl := (putC_len (nrm_up hz) hcan.sorted hcan.ups).2
          rw [putV_pos hz hpl] at hput
          simp only [List.length_append, List.length_cons, List.length_nil, Nat.zero_add, Nat.reduceAdd] at hput
          generalize putC [] (nrm (gp l i)) = L2 at *
          simp -implicitDefEqProofs (disch := omega) only [hii, hb0, q0, simprocAttr, amset, tyset, Function.comp_apply, one1, lenV, calleeOf, lateOk, belowV, aop, AV.ofValue, AV.ofCell, AV.cells, AV.flat, AV.one, arep, aBin, aAppend, aConv]
          repeat refine And.intro (by omega) ?_
          refine call_x (by kernel_rfl) (by simp) hput ?_
          simp -implicitDefEqProofs (disch := omega) only [simprocAttr, amset, tyset, Function.comp_apply, one1, lenV, calleeOf, lateOk, belowV, aop, AV.ofValue, AV.ofCell, AV.cells, AV.flat, AV.one, arep, aBin, aAppend, aConv]
          refine hJ _ _ ⟨k - 1, by omega, _, [(1, .ptr (some (H.length, 0))), (2, .ptr (some (H.length + 1, 0))), (3, .ptr (some (H.length + 2, 0))), (4, .int .i64 ((i + 1 : Nat) : Int))], H ++ [.cells true 0 [.int .i64 x, .int .i64 y, .sl (some (b, 0)) n cap], .cells true 0 [.int .i64 0, .int .i64 0, .sl none 0 (some 0)], .cells true 0 [.int .i64 x, .int .i64 y, .sl (some (H.length + 3, 0)) L2.length none], .cells true 2 (prs L2)], ⟨i + 1, .sl (some (H.length + 3, 0)) L2.length none, .cells true 2 (prs L2), by omega, by rw [hst]; exact .inr ⟨hpl, rfl, rfl⟩, rfl, rfl⟩, Abs.by hbel [0, 1, 2, 4] (by decide) ?_⟩
          simp -implicitDefEqProofs (disch := omega) only [absF, absH, W_refl', W_any', W_agg, W_tup, Ws_cons, Ws_refl', Wc_refl', Wcs_cons, Wcs_nil, look, List.cons_append, List.nil_append, List.append_nil, List.length_cons, List.length_nil, Nat.zero_add, Nat.reduceAdd, AV.mv, AV.mvs, ABlk.mv, sig_new0, sig_newk, sig_lt, List.getElem?_cons_zero, List.getElem?_cons_succ, mvs_ints, mvs_bools, mvs_prs, mvs_append, cond_true, cond_false, beq_self_eq_true, Nat.reduceBEq, true_and, and_true, or_true, true_or, and_self, decide_true, Nat.add_zero, reduceCtorEq, false_or, or_false]
          repeat' (first | exact True.intro | exact Nat.add_lt_add_left (by decide) _ | exact Nat.lt_add_of_pos_right (by decide) | refine W_nils ?_ (Or.inr rfl) | refine W_nils ?_ (Or.inl rfl) | refine Wc_nils ?_ (Or.inr rfl) | refine Wc_nils ?_ (Or.inl rfl) | exact W_cap | rfl | refine And.intro ?_ ?_ | exact Or.inl rfl | exact Or.inr rfl | exact Or.inr (Or.inl rfl) | exact Or.inr (Or.inr BW.emp) | exact Or.inr BW.emp | exact BW.emp | exact Or.inr (Or.inr BW.pre) | exact Or.inr BW.pre | exact BW.pre | refine Or.inr (BW.cells ?_) | refine BW.cells ?_ | refine Or.inr (Or.inr (BW.cells ?_)) | exact Wc_cap)
      · have hput := put_c (H ++ [.cells true 0 [.int .i64 x, .int .i64 y, .sl (some (b, 0)) n cap], .cells true 0 [.int .i64 0, .int .i64 0, .sl none 0 (some 0)], .cells true 0 [.int .i64 x, .int .i64 y, .sl (some (H.length + 3, 0)) L.length none], .cells true 2 (prs L)]) (.sl (some (H.length + 3, 0)) L.length none) L (.inr ⟨H.length + 3, true, none, rfl, by rw [get_newk]; rfl⟩) (by omega) hmb2 (gp l i) hgb
        by_cases hz : nrm (gp l i) = (0, 0)
        · have hst2 : putL L (gp l i) = L := by unfold putL; rw [if_pos hz]
          rw [hst2] at hst
          rw [putV_zero hz] at hput
          simp -implicitDefEqProofs (disch := omega) only [hii, hb0, q0, simprocAttr, amset, tyset, Function.comp_apply, one1, lenV, calleeOf, lateOk, belowV, aop, AV.ofValue, AV.ofCell, AV.cells, AV.flat, AV.one, arep, aBin, aAppend, aConv]
          repeat refine And.intro (by omega) ?_
          refine call_d (by kernel_rfl) hput ?_
          simp -implicitDefEqProofs (disch := omega) only [simprocAttr, amset, tyset, Function.comp_apply, one1, lenV, calleeOf, lateOk, belowV, aop, AV.ofValue, AV.ofCell, AV.cells, AV.flat, AV.one, arep, aBin, aAppend, aConv]
          refine hJ _ _ ⟨k - 1, by omega, _, [(1, .ptr (some (H.length, 0))), (2, .ptr (some (H.length + 1, 0))), (3, .ptr (some (H.length + 2, 0))), (4, .int .i64 ((i + 1 : Nat) : Int))], H ++ [.cells true 0 [.int .i64 x, .int .i64 y, .sl (some (b, 0)) n cap], .cells true 0 [.int .i64 0, .int .i64 0, .sl none 0 (some 0)], .cells true 0 [.int .i64 x, .int .i64 y, .sl (some (H.length + 3, 0)) L.length none], .cells true 2 (prs L)], ⟨i + 1, .sl (some (H.length + 3, 0)) L.length none, .cells true 2 (prs L), by omega, by rw [hst]; exact .inr ⟨hL1, rfl, rfl⟩, rfl, rfl⟩, Abs.by hbel [0, 1, 2, 3] (by decide) ?_⟩
          simp -implicitDefEqProofs (disch := omega) only [absF, absH, W_refl', W_any', W_agg, W_tup, Ws_cons, Ws_refl', Wc_refl', Wcs_cons, Wcs_nil, look, List.cons_append, List.nil_append, List.append_nil, List.length_cons, List.length_nil, Nat.zero_add, Nat.reduceAdd, AV.mv, AV.mvs, ABlk.mv, sig_new0, sig_newk, sig_lt, List.getElem?_cons_zero, List.getElem?_cons_succ, mvs_ints, mvs_bools, mvs_prs, mvs_append, cond_true, cond_false, beq_self_eq_true, Nat.reduceBEq, true_and, and_true, or_true, true_or, and_self, decide_true, Nat.add_zero, reduceCtorEq, false_or, or_false]
          repeat' (first | exact True.intro | exact Nat.add_lt_add_left (by decide) _ | exact Nat.lt_add_of_pos_right (by decide) | refine W_nils ?_ (Or.inr rfl) | refine W_nils ?_ (Or.inl rfl) | refine Wc_nils ?_ (Or.inr rfl) | refine Wc_nils ?_ (Or.inl rfl) | exact W_cap | rfl | refine And.intro ?_ ?_ | exact Or.inl rfl | exact Or.inr rfl | exact Or.inr (Or.inl rfl) | exact Or.inr (Or.inr BW.emp) | exact Or.inr BW.emp | exact BW.emp | exact Or.inr (Or.inr BW.pre) | exact Or.inr BW.pre | exact BW.pre | refine Or.inr (BW.cells ?_) | refine BW.cells ?_ | refine Or.inr (Or.inr (BW.cells ?_)) | exact Wc_cap)
        · have hst2 : putL L (gp l i) = putC L (nrm (gp l i)) := by unfold putL; rw [if_neg hz]
          rw [hst2] at hst
          have hpl := (putC_len (nrm_up hz) hcan.sorted hcan.ups).2
          rw [putV_pos hz hpl] at hput
          simp only [List.length_append, List.length_cons, List.length_nil, Nat.zero_add, Nat.reduceAdd] at hput
          generalize putC L (nrm (gp l i)) = L2 at *
          simp -implicitDefEqProofs (disch := omega) only [hii, hb0, q0, simprocAttr, amset, tyset, Function.comp_apply, one1, lenV, calleeOf, lateOk, belowV, aop, AV.ofValue, AV.ofCell, AV.cells, AV.flat, AV.one, arep, aBin, aAppend, aConv]
          repeat refine And.intro (by omega) ?_
          refine call_x (by kernel_rfl) (by simp) hput ?_
          simp -implicitDefEqProofs (disch := omega) only [simprocAttr, amset, tyset, Function.comp_apply, one1, lenV, calleeOf, lateOk, belowV, aop, AV.ofValue, AV.ofCell, AV.cells, AV.flat, AV.one, arep, aBin, aAppend, aConv]
          refine hJ _ _ ⟨k - 1, by omega, _, [(1, .ptr (some (H.length, 0))), (2, .ptr (some (H.length + 1, 0))), (3, .ptr (some (H.length + 2, 0))), (4, .int .i64 ((i + 1 : Nat) : Int))], H ++ [.cells true 0 [.int .i64 x, .int .i64 y, .sl (some (b, 0)) n cap], .cells true 0 [.int .i64 0, .int .i64 0, .sl none 0 (some 0)], .cells true 0 [.int .i64 x, .int .i64 y, .sl (some (H.length + 3, 0)) L2.length none], .cells true 2 (prs L2)], ⟨i + 1, .sl (some (H.length + 3, 0)) L2.length none, .cells true 2 (prs L2), by omega, by rw [hst]; exact .inr ⟨hpl, rfl, rfl⟩, rfl, rfl⟩, Abs.by hbel [0, 1, 2, 4] (by decide) ?_⟩
          simp -implicitDefEqProofs (disch := omega) only [absF, absH, W_refl', W_any', W_agg, W_tup, Ws_cons, Ws_refl', Wc_refl', Wcs_cons, Wcs_nil, look, List.cons_append, List.nil_append, List.append_nil, List.length_cons, List.length_nil, Nat.zero_add, Nat.reduceAdd, AV.mv, AV.mvs, ABlk.mv, sig_new0, sig_newk, sig_lt, List.getElem?_cons_zero, List.getElem?_cons_succ, mvs_ints, mvs_bools, mvs_prs, mvs_append, cond_true, cond_false, beq_self_eq_true, Nat.reduceBEq, true_and, and_true, or_true, true_or, and_self, decide_true, Nat.add_zero, reduceCtorEq, false_or, or_false]
          repeat' (first | exact True.intro | exact Nat.add_lt_add_left (by decide) _ | exact Nat.lt_add_of_pos_right (by decide) | refine W_nils ?_ (Or.inr rfl) | refine W_nils ?_ (Or.inl rfl) | refine Wc_nils ?_ (Or.inr rfl) | refine Wc_nils ?_ (Or.inl rfl) | exact W_cap | rfl | refine And.intro ?_ ?_ | exact Or.inl rfl | exact Or.inr rfl | exact Or.inr (Or.inl rfl) | exact Or.inr (Or.inr BW.emp) | exact Or.inr BW.emp | exact BW.emp | exact Or.inr (Or.inr BW.pre) | exact Or.inr BW.pre | exact BW.pre | refine Or.inr (BW.cells ?_) | refine BW.cells ?_ | refine Or.inr (Or.inr (BW.cells ?_)) | exact Wc_cap)
    · have hnn : ¬ ((i : Int) < (n : Int)) := by omega
      rw [List.take_of_length_le (by omega)] at hO
      rcases hO with ⟨h, rfl, rfl⟩ | ⟨h, rfl, rfl⟩
      · rw [h, retP_nil] at hQ
        simp -implicitDefEqProofs (disch := omega) only [hnn, simprocAttr, amset, tyset, Function.comp_apply, one1, lenV, calleeOf, lateOk, belowV, aop, AV.ofValue, AV.ofCell, AV.cells, AV.flat, AV.one, arep, aBin, aAppend, aConv]
        exact hQ _ _ (end_plain (.inl rfl) hbel (x := .agg [.int .i64 x, .int .i64 y, .sl none 0 (some 0)]) (ret_of Try.results45 (by simp -implicitDefEqProofs (disch := omega) only [simprocAttr, amset, tyset, Function.comp_apply, one1, lenV, calleeOf, lateOk, belowV, aop, AV.ofValue, AV.ofCell, AV.cells, AV.flat, AV.one, arep, aBin, aAppend, aConv])) rfl ⟨rfl, rfl⟩)
      · rw [retP_pos h] at hQ
        simp -implicitDefEqProofs (disch := omega) only [hnn, simprocAttr, amset, tyset, Function.comp_apply, one1, lenV, calleeOf, lateOk, belowV, aop, AV.ofValue, AV.ofCell, AV.cells, AV.flat, AV.one, arep, aBin, aAppend, aConv]
        refine hQ _ _ (end_by (.inl rfl) hbel (x1 := .agg [.int .i64 x, .int .i64 y, .sl (some (H.length + 3, 0)) (canonL l).length none]) (.agg [.int .i64 x, .int .i64 y, .sl (some (H.length, 0)) (canonL l).length none]) (ret_of Try.results45 (by simp -implicitDefEqProofs (disch := omega) only [simprocAttr, amset, tyset, Function.comp_apply, one1, lenV, calleeOf, lateOk, belowV, aop, AV.ofValue, AV.ofCell, AV.cells, AV.flat, AV.one, arep, aBin, aAppend, aConv])) [3] (by decide) ⟨rfl, rfl⟩ ?_)
        simp -implicitDefEqProofs (disch := omega) only [absF, absH, W_refl', W_any', W_agg, W_tup, Ws_cons, Ws_refl', Wc_refl', Wcs_cons, Wcs_nil, look, List.cons_append, List.nil_append, List.append_nil, List.length_cons, List.length_nil, Nat.zero_add, Nat.reduceAdd, AV.mv, AV.mvs, ABlk.mv, sig_new0, sig_newk, sig_lt, List.getElem?_cons_zero, List.getElem?_cons_succ, mvs_ints, mvs_bools, mvs_prs, mvs_append, cond_true, cond_false, beq_self_eq_true, Nat.reduceBEq, true_and, and_true, or_true, true_or, and_self, decide_true, Nat.add_zero, reduceCtorEq, false_or, or_false]
        repeat' (first | exact True.intro | exact Nat.add_lt_add_left (by decide) _ | exact Nat.lt_add_of_pos_right (by decide) | refine W_nils ?_ (Or.inr rfl) | refine W_nils ?_ (Or.inl rfl) | refine Wc_nils ?_ (Or.inr rfl) | refine Wc_nils ?_ (Or.inl rfl) | exact W_cap | rfl | refine And.intro ?_ ?_ | exact Or.inl rfl | exact Or.inr rfl | exact Or.inr (Or.inl rfl) | exact Or.inr (Or.inr BW.emp) | exact Or.inr BW.emp | exact BW.emp | exact Or.inr (Or.inr BW.pre) | exact Or.inr BW.pre | exact BW.pre | refine Or.inr (BW.cells ?_) | refine BW.cells ?_ | refine Or.inr (Or.inr (BW.cells ?_)) | exact Wc_cap)
end Go.Proofs.Ytjfnbcifafmefaa

/- Walk by the abstract machine: wayfinderbase.Points. Conditions: as each theorem states. -/
namespace Go.Proofs.Ytjfnbcifafmefaa
set_option linter.unusedSimpArgs false
set_option linter.unusedVariables false
open Go.RowKit
theorem take_snoc {α : Type} {l : List α} {i : Nat} (h : i < l.length) : l.take (i + 1) = l.take i ++ [l[i]] := List.take_succ_eq_append_getElem h
theorem take_eq_step {l m : List (Int × Int)} {i : Nat} (h1 : i < l.length) (h2 : i < m.length) (h : l.take i = m.take i) (e1 : g1 l i = g1 m i) (e2 : g2 l i = g2 m i) : l.take (i + 1) = m.take (i + 1) := by
  rw [take_snoc h1, take_snoc h2, h, ← gp_eq h1, ← gp_eq h2, gp, gp, e1, e2]
set_option maxRecDepth 100000 in
theorem points_c (H : AHeap) (s1 s2 : AV) (l m : List (Int × Int)) (h1 : IsP H s1 l) (h2 : IsP H s2 m) (hl : l.length ≤ 1000000) (hm : m.length ≤ 1000000) :
    ACalls Try.prog 24 [s1, s2] H (fun v H' => v = .bool (decide (l = m)) ∧ H' = H) := by
  have hs1 : ∃ a c, s1 = .sl a l.length c := by
    rcases h1 with ⟨rfl, rfl⟩ | ⟨b, own, cap, rfl, hb⟩
    · exact ⟨_, _, rfl⟩
    · exact ⟨_, _, rfl⟩
  have hs2 : ∃ a c, s2 = .sl a m.length c := by
    rcases h2 with ⟨rfl, rfl⟩ | ⟨b, own, cap, rfl, hb⟩
    · exact ⟨_, _, rfl⟩
    · exact ⟨_, _, rfl⟩
  obtain ⟨a1, c1, rfl⟩ := hs1
  obtain ⟨a2, c2, rfl⟩ := hs2
  by_cases hlm : l.length = m.length
  · have hne : ((l.length : Int) != (m.length : Int)) = false := by simp [hlm]
    rcases Nat.eq_zero_or_pos l.length with h0 | h0
    · have e1 : l = [] := List.eq_nil_of_length_eq_zero h0
      have e2 : m = [] := List.eq_nil_of_length_eq_zero (by omega)
      subst e1 e2
      (refine ACalls_run try_mixed Try.func24 true _ rfl (Nat.le_of_ble_eq_true (by kernel_rfl)) (by kernel_rfl) ?_; intro hbel Q hQ hQ' c hc; unfold Try.f24 at hc; simp only [Option.some.injEq] at hc; subst hc; clear hQ')
      simp -implicitDefEqProofs (disch := omega) only [List.length_nil, simprocAttr, amset, tyset, Function.comp_apply, one1, lenV, calleeOf, lateOk, belowV, aop, AV.ofValue, AV.ofCell, AV.cells, AV.flat, AV.one, arep, aBin, aAppend, aConv]
      refine go_loop try_mixed (by kernel_rfl) (fun k F Hx => F = [(0, .sl a1 0 c1), (5, .int .i64 0)] ∧ Hx = H) 1 ?_ ?_
      · refine ⟨_, _, _, ⟨rfl, rfl⟩, Abs.by0 hbel ?_⟩
        rcases h1 with ⟨-, h⟩ | ⟨b, own, cap, h, hb⟩
        · injection h with h _ h'
          subst h h'
          simp -implicitDefEqProofs (disch := omega) only [absF, absH, W_refl', W_any', W_agg, W_tup, Ws_cons, Ws_refl', Wc_refl', Wcs_cons, Wcs_nil, look, List.cons_append, List.nil_append, List.append_nil, List.length_cons, List.length_nil, Nat.zero_add, Nat.reduceAdd, AV.mv, AV.mvs, ABlk.mv, sig_new0, sig_newk, sig_lt, List.getElem?_cons_zero, List.getElem?_cons_succ, mvs_ints, mvs_bools, mvs_prs, mvs_append, cond_true, cond_false, beq_self_eq_true, Nat.reduceBEq, true_and, and_true, or_true, true_or, and_self, decide_true, Nat.add_zero, reduceCtorEq, false_or, or_false]
          repeat' (first | exact True.intro | exact Nat.add_lt_add_left (by decide) _ | exact Nat.lt_add_of_pos_right (by decide) | refine W_nils ?_ (Or.inr rfl) | refine W_nils ?_ (Or.inl rfl) | refine Wc_nils ?_ (Or.inr rfl) | refine Wc_nils ?_ (Or.inl rfl) | exact W_cap | rfl | refine And.intro ?_ ?_ | exact Or.inl rfl | exact Or.inr rfl | exact Or.inr (Or.inl rfl) | exact Or.inr (Or.inr BW.emp) | exact Or.inr BW.emp | exact BW.emp | exact Or.inr (Or.inr BW.pre) | exact Or.inr BW.pre | exact BW.pre | refine Or.inr (BW.cells ?_) | refine BW.cells ?_ | refine Or.inr (Or.inr (BW.cells ?_)) | exact Wc_cap)
        · injection h with h _ h'
          subst h h'
          have hbb := getElem?_lt ‹H[b]? = _›
          simp -implicitDefEqProofs (disch := omega) only [absF, absH, W_refl', W_any', W_agg, W_tup, Ws_cons, Ws_refl', Wc_refl', Wcs_cons, Wcs_nil, look, List.cons_append, List.nil_append, List.append_nil, List.length_cons, List.length_nil, Nat.zero_add, Nat.reduceAdd, AV.mv, AV.mvs, ABlk.mv, sig_new0, sig_newk, sig_lt, List.getElem?_cons_zero, List.getElem?_cons_succ, mvs_ints, mvs_bools, mvs_prs, mvs_append, cond_true, cond_false, beq_self_eq_true, Nat.reduceBEq, true_and, and_true, or_true, true_or, and_self, decide_true, Nat.add_zero, reduceCtorEq, false_or, or_false]
          repeat' (first | exact True.intro | exact Nat.add_lt_add_left (by decide) _ | exact Nat.lt_add_of_pos_right (by decide) | refine W_nils ?_ (Or.inr rfl) | refine W_nils ?_ (Or.inl rfl) | refine Wc_nils ?_ (Or.inr rfl) | refine Wc_nils ?_ (Or.inl rfl) | exact W_cap | rfl | refine And.intro ?_ ?_ | exact Or.inl rfl | exact Or.inr rfl | exact Or.inr (Or.inl rfl) | exact Or.inr (Or.inr BW.emp) | exact Or.inr BW.emp | exact BW.emp | exact Or.inr (Or.inr BW.pre) | exact Or.inr BW.pre | exact BW.pre | refine Or.inr (BW.cells ?_) | refine BW.cells ?_ | refine Or.inr (Or.inr (BW.cells ?_)) | exact Wc_cap)
      · rintro k F Hx ⟨rfl, rfl⟩ J hJ
        simp -implicitDefEqProofs (disch := omega) only [Int.lt_irrefl, simprocAttr, amset, tyset, Function.comp_apply, one1, lenV, calleeOf, lateOk, belowV, aop, AV.ofValue, AV.ofCell, AV.cells, AV.flat, AV.one, arep, aBin, aAppend, aConv]
        exact hQ _ _ (end_plain0 (.inl rfl) hbel (x := .bool true) (ret_of Try.results24 (by simp -implicitDefEqProofs (disch := omega) only [simprocAttr, amset, tyset, Function.comp_apply, one1, lenV, calleeOf, lateOk, belowV, aop, AV.ofValue, AV.ofCell, AV.cells, AV.flat, AV.one, arep, aBin, aAppend, aConv])) rfl ⟨rfl, rfl⟩)
    · obtain ⟨b, own, cap, e1, hb⟩ := h1.resolve_left (fun h => by rw [h.1] at h0; simp at h0)
      injection e1 with e1 _ e1'; subst e1 e1'
      obtain ⟨b', own', cap', e2, hb'⟩ := h2.resolve_left (fun h => by rw [h.1] at hlm; simp at hlm; rw [hlm] at h0; simp at h0)
      injection e2 with e2 _ e2'; subst e2 e2'
      have hbl := getElem?_lt hb
      have hbl' := getElem?_lt hb'
      (refine ACalls_run try_mixed Try.func24 true _ rfl (Nat.le_of_ble_eq_true (by kernel_rfl)) (by kernel_rfl) ?_; intro hbel Q hQ hQ' c hc; unfold Try.f24 at hc; simp only [Option.some.injEq] at hc; subst hc; clear hQ')
      simp -implicitDefEqProofs (disch := omega) only [hne, simprocAttr, amset, tyset, Function.comp_apply, one1, lenV, calleeOf, lateOk, belowV, aop, AV.ofValue, AV.ofCell, AV.cells, AV.flat, AV.one, arep, aBin, aAppend, aConv]
      refine go_loop try_mixed (by kernel_rfl) (fun k F Hx => ∃ i : Nat, i + k = l.length ∧ l.take i = m.take i ∧ F = [(0, .sl (some (b, 0)) l.length none), (1, .sl (some (b', 0)) m.length none), (5, .int .i64 (i : Nat))] ∧ Hx = H) l.length ?_ ?_
      · refine ⟨_, _, _, ⟨0, by omega, rfl, rfl, rfl⟩, Abs.by0 hbel ?_⟩
        simp -implicitDefEqProofs (disch := omega) only [absF, absH, W_refl', W_any', W_agg, W_tup, Ws_cons, Ws_refl', Wc_refl', Wcs_cons, Wcs_nil, look, List.cons_append, List.nil_append, List.append_nil, List.length_cons, List.length_nil, Nat.zero_add, Nat.reduceAdd, AV.mv, AV.mvs, ABlk.mv, sig_new0, sig_newk, sig_lt, List.getElem?_cons_zero, List.getElem?_cons_succ, mvs_ints, mvs_bools, mvs_prs, mvs_append, cond_true, cond_false, beq_self_eq_true, Nat.reduceBEq, true_and, and_true, or_true, true_or, and_self, decide_true, Nat.add_zero, reduceCtorEq, false_or, or_false]
        repeat' (first | exact True.intro | exact Nat.add_lt_add_left (by decide) _ | exact Nat.lt_add_of_pos_right (by decide) | refine W_nils ?_ (Or.inr rfl) | refine W_nils ?_ (Or.inl rfl) | refine Wc_nils ?_ (Or.inr rfl) | refine Wc_nils ?_ (Or.inl rfl) | exact W_cap | rfl | refine And.intro ?_ ?_ | exact Or.inl rfl | exact Or.inr rfl | exact Or.inr (Or.inl rfl) | exact Or.inr (Or.inr BW.emp) | exact Or.inr BW.emp | exact BW.emp | exact Or.inr (Or.inr BW.pre) | exact Or.inr BW.pre | exact BW.pre | refine Or.inr (BW.cells ?_) | refine BW.cells ?_ | refine Or.inr (Or.inr (BW.cells ?_)) | exact Wc_cap)
      · rintro k F Hx ⟨i, hik, ht, rfl, rfl⟩ J hJ
        by_cases hi : i < l.length
        · have hii : (i : Int) < (l.length : Int) := by omega
          have q1 := prs_load hi
          have q2 := prs_load (l := m) (j := i) (by omega)
          cases p : (g1 l i == g1 m i && g2 l i == g2 m i)
          · simp -implicitDefEqProofs (disch := omega) only [hii, hb, hb', q1, q2, p, simprocAttr, amset, tyset, Function.comp_apply, one1, lenV, calleeOf, lateOk, belowV, aop, AV.ofValue, AV.ofCell, AV.cells, AV.flat, AV.one, arep, aBin, aAppend, aConv]
            repeat refine And.intro (by omega) ?_
            have hlm : l ≠ m := fun h => by subst h; simp at p
            exact hQ _ _ (end_plain0 (.inl rfl) hbel (x := .bool false) (ret_of Try.results24 (by simp -implicitDefEqProofs (disch := omega) only [simprocAttr, amset, tyset, Function.comp_apply, one1, lenV, calleeOf, lateOk, belowV, aop, AV.ofValue, AV.ofCell, AV.cells, AV.flat, AV.one, arep, aBin, aAppend, aConv])) rfl ⟨by simp [hlm], rfl⟩)
          · simp -implicitDefEqProofs (disch := omega) only [hii, hb, hb', q1, q2, p, simprocAttr, amset, tyset, Function.comp_apply, one1, lenV, calleeOf, lateOk, belowV, aop, AV.ofValue, AV.ofCell, AV.cells, AV.flat, AV.one, arep, aBin, aAppend, aConv]
            repeat refine And.intro (by omega) ?_
            refine hJ _ _ ⟨k - 1, by omega, _, _, _, ⟨i + 1, by omega, ?_, rfl, rfl⟩, Abs.by0 hbel ?_⟩
            · simp at p
              exact take_eq_step hi (by omega) ht p.1 p.2
            · simp -implicitDefEqProofs (disch := omega) only [absF, absH, W_refl', W_any', W_agg, W_tup, Ws_cons, Ws_refl', Wc_refl', Wcs_cons, Wcs_nil, look, List.cons_append, List.nil_append, List.append_nil, List.length_cons, List.length_nil, Nat.zero_add, Nat.reduceAdd, AV.mv, AV.mvs, ABlk.mv, sig_new0, sig_newk, sig_lt, List.getElem?_cons_zero, List.getElem?_cons_succ, mvs_ints, mvs_bools, mvs_prs, mvs_append, cond_true, cond_false, beq_self_eq_true, Nat.reduceBEq, true_and, and_true, or_true, true_or, and_self, decide_true, Nat.add_zero, reduceCtorEq, false_or, or_false]
              repeat' (first | exact True.intro | exact Nat.add_lt_add_left (by decide) _ | exact Nat.lt_add_of_pos_right (by decide) | refine W_nils ?_ (Or.inr rfl) | refine W_nils ?_ (Or.inl rfl) | refine Wc_nils ?_ (Or.inr rfl) | refine Wc_nils ?_ (Or.inl rfl) | exact W_cap | rfl | refine And.intro ?_ ?_ | exact Or.inl rfl | exact Or.inr rfl | exact Or.inr (Or.inl rfl) | exact Or.inr (Or.inr BW.emp) | exact Or.inr BW.emp | exact BW.emp | exact Or.inr (Or.inr BW.pre) | exact Or.inr BW.pre | exact BW.pre | refine Or.inr (BW.cells ?_) | refine BW.cells ?_ | refine Or.inr (Or.inr (BW.cells ?_)) | exact Wc_cap)
        · have hnn : ¬ ((i : Int) < (l.length : Int)) := by omega
          simp -implicitDefEqProofs (disch := omega) only [hnn, simprocAttr, amset, tyset, Function.comp_apply, one1, lenV, calleeOf, lateOk, belowV, aop, AV.ofValue, AV.ofCell, AV.cells, AV.flat, AV.one, arep, aBin, aAppend, aConv]
          have : l = m := by rwa [List.take_of_length_le (by omega), List.take_of_length_le (by omega)] at ht
          exact hQ _ _ (end_plain0 (.inl rfl) hbel (x := .bool true) (ret_of Try.results24 (by simp -implicitDefEqProofs (disch := omega) only [simprocAttr, amset, tyset, Function.comp_apply, one1, lenV, calleeOf, lateOk, belowV, aop, AV.ofValue, AV.ofCell, AV.cells, AV.flat, AV.one, arep, aBin, aAppend, aConv])) rfl ⟨by simp [this], rfl⟩)
  · have hne : ((l.length : Int) != (m.length : Int)) = true := by simp; omega
    (refine ACalls_run try_mixed Try.func24 true _ rfl (Nat.le_of_ble_eq_true (by kernel_rfl)) (by kernel_rfl) ?_; intro hbel Q hQ hQ' c hc; unfold Try.f24 at hc; simp only [Option.some.injEq] at hc; subst hc; clear hQ')
    simp -implicitDefEqProofs (disch := omega) only [hne, simprocAttr, amset, tyset, Function.comp_apply, one1, lenV, calleeOf, lateOk, belowV, aop, AV.ofValue, AV.ofCell, AV.cells, AV.flat, AV.one, arep, aBin, aAppend, aConv]
    exact hQ _ _ (end_plain0 (.inl rfl) hbel (x := .bool false) (ret_of Try.results24 (by simp -implicitDefEqProofs (disch := omega) only [simprocAttr, amset, tyset, Function.comp_apply, one1, lenV, calleeOf, lateOk, belowV, aop, AV.ofValue, AV.ofCell, AV.cells, AV.flat, AV.one, arep, aBin, aAppend, aConv])) rfl ⟨by simp; intro h; exact hlm (by rw [h]), rfl⟩)
set_option maxRecDepth 100000 in
theorem zonogons_c (H : AHeap) (x1 y1 x2 y2 : Int) (s1 s2 : AV) (l m : List Pt) (h1 : IsP H s1 l) (h2 : IsP H s2 m) (hl : l.length ≤ 1000000) (hm : m.length ≤ 1000000) :
    ACalls Try.prog 21 [.agg [.int .i64 x1, .int .i64 y1, s1], .agg [.int .i64 x2, .int .i64 y2, s2]] H (fun v H' => v = .bool (x1 == x2 && y1 == y2 && decide (l = m)) ∧ H' = H) := by
  have key := fun l' => points_c (H ++ l') s1 s2 l m (h1.app l') (h2.app l') hl hm
  obtain ⟨a1, c1, rfl⟩ := h1.parts
  obtain ⟨a2, c2, rfl⟩ := h2.parts
  (refine ACalls_run try_mixed Try.func21 true _ rfl (Nat.le_of_ble_eq_true (by kernel_rfl)) (by kernel_rfl) ?_; intro hbel Q hQ hQ' c hc; unfold Try.f21 at hc; simp only [Option.some.injEq] at hc; subst hc; clear hQ')
  cases e1 : (x1 == x2)
  · simp -implicitDefEqProofs (disch := omega) only [e1, simprocAttr, amset, tyset, Function.comp_apply, one1, lenV, calleeOf, lateOk, belowV, aop, AV.ofValue, AV.ofCell, AV.cells, AV.flat, AV.one, arep, aBin, aAppend, aConv]
    exact hQ _ _ (end_plain (.inl rfl) hbel (x := .bool false) (ret_of Try.results21 (by simp -implicitDefEqProofs (disch := omega) only [simprocAttr, amset, tyset, Function.comp_apply, one1, lenV, calleeOf, lateOk, belowV, aop, AV.ofValue, AV.ofCell, AV.cells, AV.flat, AV.one, arep, aBin, aAppend, aConv])) rfl ⟨by rw [e1]; rfl, rfl⟩)
  cases e2 : (y1 == y2)
  · simp -implicitDefEqProofs (disch := omega) only [e1, e2, simprocAttr, amset, tyset, Function.comp_apply, one1, lenV, calleeOf, lateOk, belowV, aop, AV.ofValue, AV.ofCell, AV.cells, AV.flat, AV.one, arep, aBin, aAppend, aConv]
    exact hQ _ _ (end_plain (.inl rfl) hbel (x := .bool false) (ret_of Try.results21 (by simp -implicitDefEqProofs (disch := omega) only [simprocAttr, amset, tyset, Function.comp_apply, one1, lenV, calleeOf, lateOk, belowV, aop, AV.ofValue, AV.ofCell, AV.cells, AV.flat, AV.one, arep, aBin, aAppend, aConv])) rfl ⟨by rw [e1, e2]; rfl, rfl⟩)
  simp -implicitDefEqProofs (disch := omega) only [e1, e2, simprocAttr, amset, tyset, Function.comp_apply, one1, lenV, calleeOf, lateOk, belowV, aop, AV.ofValue, AV.ofCell, AV.cells, AV.flat, AV.one, arep, aBin, aAppend, aConv]
  refine call_v (by kernel_rfl) (key _) ?_
  simp -implicitDefEqProofs (disch := omega) only [simprocAttr, amset, tyset, Function.comp_apply, one1, lenV, calleeOf, lateOk, belowV, aop, AV.ofValue, AV.ofCell, AV.cells, AV.flat, AV.one, arep, aBin, aAppend, aConv]
  exact hQ _ _ (end_plain (.inl rfl) hbel (x := .bool (decide (l = m))) (ret_of Try.results21 (by simp -implicitDefEqProofs (disch := omega) only [simprocAttr, amset, tyset, Function.comp_apply, one1, lenV, calleeOf, lateOk, belowV, aop, AV.ofValue, AV.ofCell, AV.cells, AV.flat, AV.one, arep, aBin, aAppend, aConv])) rfl ⟨by rw [e1, e2]; rfl, rfl⟩)
end Go.Proofs.Ytjfnbcifafmefaa

/- Walks by the abstract machine: canonical forms of any zonogons; slices.Equal. Conditions: as each theorem states. -/
namespace Go.Proofs.Ytjfnbcifafmefaa
set_option linter.unusedSimpArgs false
set_option linter.unusedVariables false
open Go.RowKit
theorem within_iff {x m : Int} : within x m = true ↔ -m ≤ x ∧ x ≤ m := by unfold within; simp
theorem within_not {x m : Int} : within x m = false ↔ ¬ (-m ≤ x ∧ x ≤ m) := by rw [← within_iff]; simp
/-- What is handed back: a canonical form, or an error. -/
def mkR (H : AHeap) (e : Int) (x y : Int) (L : List Pt) : AV × AHeap := if e = 0 then (.tup [.agg [.int .i64 x, .int .i64 y, (retP H L).1], .int .i64 0], (retP H L).2) else (.tup [.agg [.int .i64 0, .int .i64 0, .sl none 0 (some 0)], .int .i64 e], H)
theorem mkR_err {H : AHeap} {e x y : Int} {L : List Pt} (h : e ≠ 0) : mkR H e x y L = (.tup [.agg [.int .i64 0, .int .i64 0, .sl none 0 (some 0)], .int .i64 e], H) := by unfold mkR; rw [if_neg h]
theorem mkR_nil {H : AHeap} {e x y : Int} (h : e = 0) : mkR H e x y [] = (.tup [.agg [.int .i64 x, .int .i64 y, .sl none 0 (some 0)], .int .i64 0], H) := by unfold mkR; rw [if_pos h]; rfl
theorem mkR_pos {H : AHeap} {e x y : Int} {L : List Pt} (h : e = 0) (h0 : 0 < L.length) : mkR H e x y L = (.tup [.agg [.int .i64 x, .int .i64 y, .sl (some (H.length, 0)) L.length none], .int .i64 0], H ++ [.cells true 2 (prs L)]) := by unfold mkR; rw [if_pos h, retP_pos h0]
def far4 (a b c d : Int) : Bool := within a 2097152 && within b 2097152 && within c 2097152 && within d 2097152
theorem far4_any (a b c d : Int) : (!([a, b, c, d] : List Int).any farB) = far4 a b c d := by
  simp only [List.any_cons, List.any_nil, farB, nearB, far4]
  cases within a 2097152 <;> cases within b 2097152 <;> cases within c 2097152 <;> cases within d 2097152 <;> rfl
theorem far4_bd {a b c d : Int} (h : far4 a b c d = true) : (-2097152 ≤ a ∧ a ≤ 2097152) ∧ (-2097152 ≤ b ∧ b ≤ 2097152) ∧ (-2097152 ≤ c ∧ c ≤ 2097152) ∧ (-2097152 ≤ d ∧ d ≤ 2097152) := by
  unfold far4 at h
  simp only [Bool.and_eq_true, within_iff] at h
  exact ⟨h.1.1.1, h.1.1.2, h.1.2, h.2⟩
/-- The error of OfRect. -/
def rectE (x0 y0 x1 y1 : Int) : Int := if far4 x0 y0 x1 y1 = true ∧ x0 ≤ x1 ∧ y0 ≤ y1 ∧ x1 - x0 ≤ 65536 ∧ y1 - y0 ≤ 65536 then 0 else 1
def segE (x0 y0 x1 y1 : Int) : Int := if far4 x0 y0 x1 y1 = true ∧ within (x0 - x1) 65536 = true ∧ within (y0 - y1) 65536 = true then 0 else 1
theorem rectE_bad {x0 y0 x1 y1 : Int} (h : ¬ (far4 x0 y0 x1 y1 = true ∧ x0 ≤ x1 ∧ y0 ≤ y1 ∧ x1 - x0 ≤ 65536 ∧ y1 - y0 ≤ 65536)) : rectE x0 y0 x1 y1 = 1 := if_neg h
theorem segE_bad {x0 y0 x1 y1 : Int} (h : ¬ (far4 x0 y0 x1 y1 = true ∧ within (x0 - x1) 65536 = true ∧ within (y0 - y1) 65536 = true)) : segE x0 y0 x1 y1 = 1 := if_neg h
/-- A zonogon handed back. -/
def zR (H : AHeap) (x y : Int) (L : List Pt) : AV × AHeap := (.agg [.int .i64 x, .int .i64 y, (retP H L).1], (retP H L).2)
theorem zR_nil {H : AHeap} {x y : Int} : zR H x y [] = (.agg [.int .i64 x, .int .i64 y, .sl none 0 (some 0)], H) := rfl
theorem zR_pos {H : AHeap} {x y : Int} {L : List Pt} (h : 0 < L.length) : zR H x y L = (.agg [.int .i64 x, .int .i64 y, .sl (some (H.length, 0)) L.length none], H ++ [.cells true 2 (prs L)]) := by unfold zR; rw [retP_pos h]
set_option maxRecDepth 100000 in
theorem canonical0_c (H : AHeap) (x y : Int) : ACalls Try.prog 44 [.agg [.int .i64 x, .int .i64 y, .sl none 0 (some 0)]] H (fun v H' => v = .agg [.int .i64 x, .int .i64 y, .sl none 0 (some 0)] ∧ H' = H) := by
  (refine ACalls_run try_mixed Try.func44 true _ rfl (Nat.le_of_ble_eq_true (by kernel_rfl)) (by kernel_rfl) ?_; intro hbel Q hQ hQ' c hc; unfold Try.f44 at hc; simp only [Option.some.injEq] at hc; subst hc; clear hQ')
  simp -implicitDefEqProofs (disch := omega) only [simprocAttr, amset, tyset, Function.comp_apply, one1, lenV, calleeOf, lateOk, belowV, aop, AV.ofValue, AV.ofCell, AV.cells, AV.flat, AV.one, arep, aBin, aAppend, aConv]
  refine go_loop try_mixed (by kernel_rfl) (fun k F Hx => F = [(1, .ptr (some (H.length, 0))), (2, .ptr (some (H.length + 1, 0))), (3, .sl none 0 (some 0)), (12, .int .i64 0), (13, .int .i64 0)] ∧ Hx = H ++ [.cells true 0 [.int .i64 x, .int .i64 y, .sl none 0 (some 0)], .cells true 0 [.int .i64 0, .int .i64 0, .sl none 0 (some 0)]]) 1 ?_ ?_
  · refine ⟨_, _, _, ⟨rfl, rfl⟩, Abs.by hbel [0, 1] (by decide) ?_⟩
    simp -implicitDefEqProofs (disch := omega) only [absF, absH, W_refl', W_any', W_agg, W_tup, Ws_cons, Ws_refl', Wc_refl', Wcs_cons, Wcs_nil, look, List.cons_append, List.nil_append, List.append_nil, List.length_cons, List.length_nil, Nat.zero_add, Nat.reduceAdd, AV.mv, AV.mvs, ABlk.mv, sig_new0, sig_newk, sig_lt, List.getElem?_cons_zero, List.getElem?_cons_succ, mvs_ints, mvs_bools, mvs_prs, mvs_append, cond_true, cond_false, beq_self_eq_true, Nat.reduceBEq, true_and, and_true, or_true, true_or, and_self, decide_true, Nat.add_zero, reduceCtorEq, false_or, or_false]
    repeat' (first | exact True.intro | exact Nat.add_lt_add_left (by decide) _ | exact Nat.lt_add_of_pos_right (by decide) | refine W_nils ?_ (Or.inr rfl) | refine W_nils ?_ (Or.inl rfl) | refine Wc_nils ?_ (Or.inr rfl) | refine Wc_nils ?_ (Or.inl rfl) | exact W_cap | rfl | refine And.intro ?_ ?_ | exact Or.inl rfl | exact Or.inr rfl | exact Or.inr (Or.inl rfl) | exact Or.inr (Or.inr BW.emp) | exact Or.inr BW.emp | exact BW.emp | exact Or.inr (Or.inr BW.pre) | exact Or.inr BW.pre | exact BW.pre | refine Or.inr (BW.cells ?_) | refine BW.cells ?_ | refine Or.inr (Or.inr (BW.cells ?_)) | exact Wc_cap)
  · rintro k F Hx ⟨rfl, rfl⟩ J hJ
    simp -implicitDefEqProofs (disch := omega) only [Int.lt_irrefl, simprocAttr, amset, tyset, Function.comp_apply, one1, lenV, calleeOf, lateOk, belowV, aop, AV.ofValue, AV.ofCell, AV.cells, AV.flat, AV.one, arep, aBin, aAppend, aConv]
    refine call_v (by kernel_rfl) (sortnil_c _) ?_
    simp -implicitDefEqProofs (disch := omega) only [simprocAttr, amset, tyset, Function.comp_apply, one1, lenV, calleeOf, lateOk, belowV, aop, AV.ofValue, AV.ofCell, AV.cells, AV.flat, AV.one, arep, aBin, aAppend, aConv]
    refine go_loop try_mixed (by kernel_rfl) (fun k F Hx => F = [(2, .ptr (some (H.length, 0))), (6, .ptr (some (H.length + 1, 0))), (53, .int .i64 0), (54, .int .i64 0)] ∧ Hx = H ++ [.cells true 0 [.int .i64 0, .int .i64 0, .sl none 0 (some 0)], .cells true 0 [.int .i64 x, .int .i64 y, .sl none 0 (some 0)]]) 1 ?_ ?_
    · refine ⟨_, _, _, ⟨rfl, rfl⟩, Abs.by hbel [1, 2] (by decide) ?_⟩
      simp -implicitDefEqProofs (disch := omega) only [absF, absH, W_refl', W_any', W_agg, W_tup, Ws_cons, Ws_refl', Wc_refl', Wcs_cons, Wcs_nil, look, List.cons_append, List.nil_append, List.append_nil, List.length_cons, List.length_nil, Nat.zero_add, Nat.reduceAdd, AV.mv, AV.mvs, ABlk.mv, sig_new0, sig_newk, sig_lt, List.getElem?_cons_zero, List.getElem?_cons_succ, mvs_ints, mvs_bools, mvs_prs, mvs_append, cond_true, cond_false, beq_self_eq_true, Nat.reduceBEq, true_and, and_true, or_true, true_or, and_self, decide_true, Nat.add_zero, reduceCtorEq, false_or, or_false]
      repeat' (first | exact True.intro | exact Nat.add_lt_add_left (by decide) _ | exact Nat.lt_add_of_pos_right (by decide) | refine W_nils ?_ (Or.inr rfl) | refine W_nils ?_ (Or.inl rfl) | refine Wc_nils ?_ (Or.inr rfl) | refine Wc_nils ?_ (Or.inl rfl) | exact W_cap | rfl | refine And.intro ?_ ?_ | exact Or.inl rfl | exact Or.inr rfl | exact Or.inr (Or.inl rfl) | exact Or.inr (Or.inr BW.emp) | exact Or.inr BW.emp | exact BW.emp | exact Or.inr (Or.inr BW.pre) | exact Or.inr BW.pre | exact BW.pre | refine Or.inr (BW.cells ?_) | refine BW.cells ?_ | refine Or.inr (Or.inr (BW.cells ?_)) | exact Wc_cap)
    · rintro k F Hx ⟨rfl, rfl⟩ J hJ
      simp -implicitDefEqProofs (disch := omega) only [Int.lt_irrefl, simprocAttr, amset, tyset, Function.comp_apply, one1, lenV, calleeOf, lateOk, belowV, aop, AV.ofValue, AV.ofCell, AV.cells, AV.flat, AV.one, arep, aBin, aAppend, aConv]
      exact hQ _ _ (end_plain (.inl rfl) hbel (x := .agg [.int .i64 x, .int .i64 y, .sl none 0 (some 0)]) (ret_of Try.results44 (by simp -implicitDefEqProofs (disch := omega) only [simprocAttr, amset, tyset, Function.comp_apply, one1, lenV, calleeOf, lateOk, belowV, aop, AV.ofValue, AV.ofCell, AV.cells, AV.flat, AV.one, arep, aBin, aAppend, aConv])) rfl ⟨rfl, rfl⟩)
theorem rcanon0_c (H : AHeap) (x y : Int) : ACalls Try.prog 45 [.agg [.int .i64 x, .int .i64 y, .sl none 0 (some 0)]] H (fun v H' => v = .agg [.int .i64 x, .int .i64 y, .sl none 0 (some 0)] ∧ H' = H) := by
  (refine ACalls_run try_mixed Try.func45 false _ rfl (Nat.le_of_ble_eq_true (by kernel_rfl)) (by kernel_rfl) ?_; intro hbel Q hQ hQ' c hc; unfold Try.f45 at hc; simp only [Option.some.injEq] at hc; subst hc; clear hQ')
  simp -implicitDefEqProofs (disch := omega) only [simprocAttr, amset, tyset, Function.comp_apply, one1, lenV, calleeOf, lateOk, belowV, aop, AV.ofValue, AV.ofCell, AV.cells, AV.flat, AV.one, arep, aBin, aAppend, aConv]
  refine go_loop try_mixed (by kernel_rfl) (fun k F Hx => F = [(1, .ptr (some (H.length, 0))), (2, .ptr (some (H.length + 1, 0))), (3, .ptr (some (H.length + 2, 0))), (4, .int .i64 0)] ∧ Hx = H ++ [.cells true 0 [.int .i64 x, .int .i64 y, .sl none 0 (some 0)], .cells true 0 [.int .i64 0, .int .i64 0, .sl none 0 (some 0)], .cells true 0 [.int .i64 x, .int .i64 y, .sl none 0 (some 0)]]) 1 ?_ ?_
  · refine ⟨_, _, _, ⟨rfl, rfl⟩, Abs.by hbel [0, 1, 2] (by decide) ?_⟩
    simp -implicitDefEqProofs (disch := omega) only [absF, absH, W_refl', W_any', W_agg, W_tup, Ws_cons, Ws_refl', Wc_refl', Wcs_cons, Wcs_nil, look, List.cons_append, List.nil_append, List.append_nil, List.length_cons, List.length_nil, Nat.zero_add, Nat.reduceAdd, AV.mv, AV.mvs, ABlk.mv, sig_new0, sig_newk, sig_lt, List.getElem?_cons_zero, List.getElem?_cons_succ, mvs_ints, mvs_bools, mvs_prs, mvs_append, cond_true, cond_false, beq_self_eq_true, Nat.reduceBEq, true_and, and_true, or_true, true_or, and_self, decide_true, Nat.add_zero, reduceCtorEq, false_or, or_false]
    repeat' (first | exact True.intro | exact Nat.add_lt_add_left (by decide) _ | exact Nat.lt_add_of_pos_right (by decide) | refine W_nils ?_ (Or.inr rfl) | refine W_nils ?_ (Or.inl rfl) | refine Wc_nils ?_ (Or.inr rfl) | refine Wc_nils ?_ (Or.inl rfl) | exact W_cap | rfl | refine And.intro ?_ ?_ | exact Or.inl rfl | exact Or.inr rfl | exact Or.inr (Or.inl rfl) | exact Or.inr (Or.inr BW.emp) | exact Or.inr BW.emp | exact BW.emp | exact Or.inr (Or.inr BW.pre) | exact Or.inr BW.pre | exact BW.pre | refine Or.inr (BW.cells ?_) | refine BW.cells ?_ | refine Or.inr (Or.inr (BW.cells ?_)) | exact Wc_cap)
  · rintro k F Hx ⟨rfl, rfl⟩ J hJ
    simp -implicitDefEqProofs (disch := omega) only [Int.lt_irrefl, simprocAttr, amset, tyset, Function.comp_apply, one1, lenV, calleeOf, lateOk, belowV, aop, AV.ofValue, AV.ofCell, AV.cells, AV.flat, AV.one, arep, aBin, aAppend, aConv]
    exact hQ _ _ (end_plain (.inl rfl) hbel (x := .agg [.int .i64 x, .int .i64 y, .sl none 0 (some 0)]) (ret_of Try.results45 (by simp -implicitDefEqProofs (disch := omega) only [simprocAttr, amset, tyset, Function.comp_apply, one1, lenV, calleeOf, lateOk, belowV, aop, AV.ofValue, AV.ofCell, AV.cells, AV.flat, AV.one, arep, aBin, aAppend, aConv])) rfl ⟨rfl, rfl⟩)
theorem canonical_a (H : AHeap) (x y : Int) (s : AV) (l : List Pt) (hs : IsP H s l) (hl : l.length ≤ 40) (hB : ∀ e ∈ l, Bd 4194304 e) :
    ACalls Try.prog 44 [.agg [.int .i64 x, .int .i64 y, s]] H (fun v H' => v = (zR H x y (canonL l)).1 ∧ H' = (zR H x y (canonL l)).2) := by
  rcases hs with ⟨rfl, rfl⟩ | ⟨b, own, cap, rfl, hb⟩
  · exact canonical0_c H x y
  · exact canonical_c H x y b own cap l hb hl hB
theorem rcanon_a (H : AHeap) (x y : Int) (s : AV) (l : List Pt) (hs : IsP H s l) (hl : l.length ≤ 40) (hB : ∀ e ∈ l, Bd 4194304 e) :
    ACalls Try.prog 45 [.agg [.int .i64 x, .int .i64 y, s]] H (fun v H' => v = (zR H x y (canonL l)).1 ∧ H' = (zR H x y (canonL l)).2) := by
  rcases hs with ⟨rfl, rfl⟩ | ⟨b, own, cap, rfl, hb⟩
  · exact rcanon0_c H x y
  · exact rcanon_c H x y b own cap l hb hl hB
set_option maxRecDepth 100000 in
theorem equal_c (H : AHeap) (s1 s2 : AV) (l m : List (Int × Int)) (h1 : IsP H s1 l) (h2 : IsP H s2 m) (hl : l.length ≤ 1000000) (hm : m.length ≤ 1000000) :
    ACalls Try.prog 63 [s1, s2] H (fun v H' => v = .bool (decide (l = m)) ∧ H' = H) := by
  have hs1 : ∃ a c, s1 = .sl a l.length c := by
    rcases h1 with ⟨rfl, rfl⟩ | ⟨b, own, cap, rfl, hb⟩
    · exact ⟨_, _, rfl⟩
    · exact ⟨_, _, rfl⟩
  have hs2 : ∃ a c, s2 = .sl a m.length c := by
    rcases h2 with ⟨rfl, rfl⟩ | ⟨b, own, cap, rfl, hb⟩
    · exact ⟨_, _, rfl⟩
    · exact ⟨_, _, rfl⟩
  obtain ⟨a1, c1, rfl⟩ := hs1
  obtain ⟨a2, c2, rfl⟩ := hs2
  by_cases hlm : l.length = m.length
  · have hne : ((l.length : Int) != (m.length : Int)) = false := by simp [hlm]
    rcases Nat.eq_zero_or_pos l.length with h0 | h0
    · have e1 : l = [] := List.eq_nil_of_length_eq_zero h0
      have e2 : m = [] := List.eq_nil_of_length_eq_zero (by omega)
      subst e1 e2
      (refine ACalls_run try_mixed Try.func63 true _ rfl (Nat.le_of_ble_eq_true (by kernel_rfl)) (by kernel_rfl) ?_; intro hbel Q hQ hQ' c hc; unfold Try.f63 at hc; simp only [Option.some.injEq] at hc; subst hc; clear hQ')
      simp -implicitDefEqProofs (disch := omega) only [List.length_nil, simprocAttr, amset, tyset, Function.comp_apply, one1, lenV, calleeOf, lateOk, belowV, aop, AV.ofValue, AV.ofCell, AV.cells, AV.flat, AV.one, arep, aBin, aAppend, aConv]
      refine go_loop try_mixed (by kernel_rfl) (fun k F Hx => F = [(0, .sl a1 0 c1), (12, .int .i64 0), (13, .int .i64 0)] ∧ Hx = H) 1 ?_ ?_
      · refine ⟨_, _, _, ⟨rfl, rfl⟩, Abs.by0 hbel ?_⟩
        rcases h1 with ⟨-, h⟩ | ⟨b, own, cap, h, hb⟩
        · injection h with h _ h'
          subst h h'
          simp -implicitDefEqProofs (disch := omega) only [absF, absH, W_refl', W_any', W_agg, W_tup, Ws_cons, Ws_refl', Wc_refl', Wcs_cons, Wcs_nil, look, List.cons_append, List.nil_append, List.append_nil, List.length_cons, List.length_nil, Nat.zero_add, Nat.reduceAdd, AV.mv, AV.mvs, ABlk.mv, sig_new0, sig_newk, sig_lt, List.getElem?_cons_zero, List.getElem?_cons_succ, mvs_ints, mvs_bools, mvs_prs, mvs_append, cond_true, cond_false, beq_self_eq_true, Nat.reduceBEq, true_and, and_true, or_true, true_or, and_self, decide_true, Nat.add_zero, reduceCtorEq, false_or, or_false]
          repeat' (first | exact True.intro | exact Nat.add_lt_add_left (by decide) _ | exact Nat.lt_add_of_pos_right (by decide) | refine W_nils ?_ (Or.inr rfl) | refine W_nils ?_ (Or.inl rfl) | refine Wc_nils ?_ (Or.inr rfl) | refine Wc_nils ?_ (Or.inl rfl) | exact W_cap | rfl | refine And.intro ?_ ?_ | exact Or.inl rfl | exact Or.inr rfl | exact Or.inr (Or.inl rfl) | exact Or.inr (Or.inr BW.emp) | exact Or.inr BW.emp | exact BW.emp | exact Or.inr (Or.inr BW.pre) | exact Or.inr BW.pre | exact BW.pre | refine Or.inr (BW.cells ?_) | refine BW.cells ?_ | refine Or.inr (Or.inr (BW.cells ?_)) | exact Wc_cap)
        · injection h with h _ h'
          subst h h'
          have hbb := getElem?_lt ‹H[b]? = _›
          simp -implicitDefEqProofs (disch := omega) only [absF, absH, W_refl', W_any', W_agg, W_tup, Ws_cons, Ws_refl', Wc_refl', Wcs_cons, Wcs_nil, look, List.cons_append, List.nil_append, List.append_nil, List.length_cons, List.length_nil, Nat.zero_add, Nat.reduceAdd, AV.mv, AV.mvs, ABlk.mv, sig_new0, sig_newk, sig_lt, List.getElem?_cons_zero, List.getElem?_cons_succ, mvs_ints, mvs_bools, mvs_prs, mvs_append, cond_true, cond_false, beq_self_eq_true, Nat.reduceBEq, true_and, and_true, or_true, true_or, and_self, decide_true, Nat.add_zero, reduceCtorEq, false_or, or_false]
          repeat' (first | exact True.intro | exact Nat.add_lt_add_left (by decide) _ | exact Nat.lt_add_of_pos_right (by decide) | refine W_nils ?_ (Or.inr rfl) | refine W_nils ?_ (Or.inl rfl) | refine Wc_nils ?_ (Or.inr rfl) | refine Wc_nils ?_ (Or.inl rfl) | exact W_cap | rfl | refine And.intro ?_ ?_ | exact Or.inl rfl | exact Or.inr rfl | exact Or.inr (Or.inl rfl) | exact Or.inr (Or.inr BW.emp) | exact Or.inr BW.emp | exact BW.emp | exact Or.inr (Or.inr BW.pre) | exact Or.inr BW.pre | exact BW.pre | refine Or.inr (BW.cells ?_) | refine BW.cells ?_ | refine Or.inr (Or.inr (BW.cells ?_)) | exact Wc_cap)
      · rintro k F Hx ⟨rfl, rfl⟩ J hJ
        simp -implicitDefEqProofs (disch := omega) only [Int.lt_irrefl, simprocAttr, amset, tyset, Function.comp_apply, one1, lenV, calleeOf, lateOk, belowV, aop, AV.ofValue, AV.ofCell, AV.cells, AV.flat, AV.one, arep, aBin, aAppend, aConv]
        exact hQ _ _ (end_plain0 (.inl rfl) hbel (x := .bool true) (ret_of Try.results63 (by simp -implicitDefEqProofs (disch := omega) only [simprocAttr, amset, tyset, Function.comp_apply, one1, lenV, calleeOf, lateOk, belowV, aop, AV.ofValue, AV.ofCell, AV.cells, AV.flat, AV.one, arep, aBin, aAppend, aConv])) rfl ⟨rfl, rfl⟩)
    · obtain ⟨b, own, cap, e1, hb⟩ := h1.resolve_left (fun h => by rw [h.1] at h0; simp at h0)
      injection e1 with e1 _ e1'; subst e1 e1'
      obtain ⟨b', own', cap', e2, hb'⟩ := h2.resolve_left (fun h => by rw [h.1] at hlm; simp at hlm; rw [hlm] at h0; simp at h0)
      injection e2 with e2 _ e2'; subst e2 e2'
      have hbl := getElem?_lt hb
      have hbl' := getElem?_lt hb'
      (refine ACalls_run try_mixed Try.func63 true _ rfl (Nat.le_of_ble_eq_true (by kernel_rfl)) (by kernel_rfl) ?_; intro hbel Q hQ hQ' c hc; unfold Try.f63 at hc; simp only [Option.some.injEq] at hc; subst hc; clear hQ')
      simp -implicitDefEqProofs (disch := omega) only [hne, simprocAttr, amset, tyset, Function.comp_apply, one1, lenV, calleeOf, lateOk, belowV, aop, AV.ofValue, AV.ofCell, AV.cells, AV.flat, AV.one, arep, aBin, aAppend, aConv]
      refine go_loop try_mixed (by kernel_rfl) (fun k F Hx => ∃ i : Nat, i + k = l.length ∧ l.take i = m.take i ∧ F = [(0, .sl (some (b, 0)) l.length none), (1, .sl (some (b', 0)) m.length none), (12, .int .i64 l.length), (13, .int .i64 (i : Nat))] ∧ Hx = H) l.length ?_ ?_
      · refine ⟨_, _, _, ⟨0, by omega, rfl, rfl, rfl⟩, Abs.by0 hbel ?_⟩
        simp -implicitDefEqProofs (disch := omega) only [absF, absH, W_refl', W_any', W_agg, W_tup, Ws_cons, Ws_refl', Wc_refl', Wcs_cons, Wcs_nil, look, List.cons_append, List.nil_append, List.append_nil, List.length_cons, List.length_nil, Nat.zero_add, Nat.reduceAdd, AV.mv, AV.mvs, ABlk.mv, sig_new0, sig_newk, sig_lt, List.getElem?_cons_zero, List.getElem?_cons_succ, mvs_ints, mvs_bools, mvs_prs, mvs_append, cond_true, cond_false, beq_self_eq_true, Nat.reduceBEq, true_and, and_true, or_true, true_or, and_self, decide_true, Nat.add_zero, reduceCtorEq, false_or, or_false]
        repeat' (first | exact True.intro | exact Nat.add_lt_add_left (by decide) _ | exact Nat.lt_add_of_pos_right (by decide) | refine W_nils ?_ (Or.inr rfl) | refine W_nils ?_ (Or.inl rfl) | refine Wc_nils ?_ (Or.inr rfl) | refine Wc_nils ?_ (Or.inl rfl) | exact W_cap | rfl | refine And.intro ?_ ?_ | exact Or.inl rfl | exact Or.inr rfl | exact Or.inr (Or.inl rfl) | exact Or.inr (Or.inr BW.emp) | exact Or.inr BW.emp | exact BW.emp | exact Or.inr (Or.inr BW.pre) | exact Or.inr BW.pre | exact BW.pre | refine Or.inr (BW.cells ?_) | refine BW.cells ?_ | refine Or.inr (Or.inr (BW.cells ?_)) | exact Wc_cap)
      · rintro k F Hx ⟨i, hik, ht, rfl, rfl⟩ J hJ
        by_cases hi : i < l.length
        · have hii : (i : Int) < (l.length : Int) := by omega
          have q1 := prs_load hi
          have q2 := prs_load (l := m) (j := i) (by omega)
          cases p : (g1 l i == g1 m i && g2 l i == g2 m i)
          · simp -implicitDefEqProofs (disch := omega) only [hii, hb, hb', q1, q2, p, simprocAttr, amset, tyset, Function.comp_apply, one1, lenV, calleeOf, lateOk, belowV, aop, AV.ofValue, AV.ofCell, AV.cells, AV.flat, AV.one, arep, aBin, aAppend, aConv]
            repeat refine And.intro (by omega) ?_
            have hlm : l ≠ m := fun h => by subst h; simp at p
            exact hQ _ _ (end_plain0 (.inl rfl) hbel (x := .bool false) (ret_of Try.results63 (by simp -implicitDefEqProofs (disch := omega) only [simprocAttr, amset, tyset, Function.comp_apply, one1, lenV, calleeOf, lateOk, belowV, aop, AV.ofValue, AV.ofCell, AV.cells, AV.flat, AV.one, arep, aBin, aAppend, aConv])) rfl ⟨by simp [hlm], rfl⟩)
          · simp -implicitDefEqProofs (disch := omega) only [hii, hb, hb', q1, q2, p, simprocAttr, amset, tyset, Function.comp_apply, one1, lenV, calleeOf, lateOk, belowV, aop, AV.ofValue, AV.ofCell, AV.cells, AV.flat, AV.one, arep, aBin, aAppend, aConv]
            repeat refine And.intro (by omega) ?_
            refine hJ _ _ ⟨k - 1, by omega, _, _, _, ⟨i + 1, by omega, ?_, rfl, rfl⟩, Abs.by0 hbel ?_⟩
            · simp at p
              exact take_eq_step hi (by omega) ht p.1 p.2
            · simp -implicitDefEqProofs (disch := omega) only [absF, absH, W_refl', W_any', W_agg, W_tup, Ws_cons, Ws_refl', Wc_refl', Wcs_cons, Wcs_nil, look, List.cons_append, List.nil_append, List.append_nil, List.length_cons, List.length_nil, Nat.zero_add, Nat.reduceAdd, AV.mv, AV.mvs, ABlk.mv, sig_new0, sig_newk, sig_lt, List.getElem?_cons_zero, List.getElem?_cons_succ, mvs_ints, mvs_bools, mvs_prs, mvs_append, cond_true, cond_false, beq_self_eq_true, Nat.reduceBEq, true_and, and_true, or_true, true_or, and_self, decide_true, Nat.add_zero, reduceCtorEq, false_or, or_false]
              repeat' (first | exact True.intro | exact Nat.add_lt_add_left (by decide) _ | exact Nat.lt_add_of_pos_right (by decide) | refine W_nils ?_ (Or.inr rfl) | refine W_nils ?_ (Or.inl rfl) | refine Wc_nils ?_ (Or.inr rfl) | refine Wc_nils ?_ (Or.inl rfl) | exact W_cap | rfl | refine And.intro ?_ ?_ | exact Or.inl rfl | exact Or.inr rfl | exact Or.inr (Or.inl rfl) | exact Or.inr (Or.inr BW.emp) | exact Or.inr BW.emp | exact BW.emp | exact Or.inr (Or.inr BW.pre) | exact Or.inr BW.pre | exact BW.pre | refine Or.inr (BW.cells ?_) | refine BW.cells ?_ | refine Or.inr (Or.inr (BW.cells ?_)) | exact Wc_cap)
        · have hnn : ¬ ((i : Int) < (l.length : Int)) := by omega
          simp -implicitDefEqProofs (disch := omega) only [hnn, simprocAttr, amset, tyset, Function.comp_apply, one1, lenV, calleeOf, lateOk, belowV, aop, AV.ofValue, AV.ofCell, AV.cells, AV.flat, AV.one, arep, aBin, aAppend, aConv]
          have : l = m := by rwa [List.take_of_length_le (by omega), List.take_of_length_le (by omega)] at ht
          exact hQ _ _ (end_plain0 (.inl rfl) hbel (x := .bool true) (ret_of Try.results63 (by simp -implicitDefEqProofs (disch := omega) only [simprocAttr, amset, tyset, Function.comp_apply, one1, lenV, calleeOf, lateOk, belowV, aop, AV.ofValue, AV.ofCell, AV.cells, AV.flat, AV.one, arep, aBin, aAppend, aConv])) rfl ⟨by simp [this], rfl⟩)
  · have hne : ((l.length : Int) != (m.length : Int)) = true := by simp; omega
    (refine ACalls_run try_mixed Try.func63 true _ rfl (Nat.le_of_ble_eq_true (by kernel_rfl)) (by kernel_rfl) ?_; intro hbel Q hQ hQ' c hc; unfold Try.f63 at hc; simp only [Option.some.injEq] at hc; subst hc; clear hQ')
    simp -implicitDefEqProofs (disch := omega) only [hne, simprocAttr, amset, tyset, Function.comp_apply, one1, lenV, calleeOf, lateOk, belowV, aop, AV.ofValue, AV.ofCell, AV.cells, AV.flat, AV.one, arep, aBin, aAppend, aConv]
    exact hQ _ _ (end_plain0 (.inl rfl) hbel (x := .bool false) (ret_of Try.results63 (by simp -implicitDefEqProofs (disch := omega) only [simprocAttr, amset, tyset, Function.comp_apply, one1, lenV, calleeOf, lateOk, belowV, aop, AV.ofValue, AV.ofCell, AV.cells, AV.flat, AV.one, arep, aBin, aAppend, aConv])) rfl ⟨by simp; intro h; exact hlm (by rw [h]), rfl⟩)

theorem valid_bd {x y : Int} {l : List Pt} (h : validB x y l = true) : l.length ≤ 16 ∧ ∀ e ∈ l, Bd 65536 e := by
  unfold validB at h
  simp only [Bool.and_eq_true, decide_eq_true_eq, Bool.not_eq_true'] at h
  refine ⟨h.1.2, fun e he => ?_⟩
  have := List.any_eq_false.1 h.2 e he
  simp only [wrongB, Bool.not_eq_true', Bool.not_eq_false, Bool.and_eq_true, within_iff] at this
  exact ⟨this.1.1, this.1.2, this.2.1, this.2.2⟩
theorem valid_bd2 {x y : Int} {l : List Pt} (h : validB x y l = true) : l.length ≤ 40 ∧ ∀ e ∈ l, Bd 4194304 e := by
  obtain ⟨h1, h2⟩ := valid_bd h
  exact ⟨by omega, fun e he => by have := h2 e he; unfold Bd at *; omega⟩
end Go.Proofs.Ytjfnbcifafmefaa

/- Walks by the abstract machine: spread, slices.Clone at points. Conditions: as each theorem states. -/
namespace Go.Proofs.Ytjfnbcifafmefaa
set_option linter.unusedSimpArgs false
set_option linter.unusedVariables false
open Go.RowKit
def dotP (n g : Pt) : Int := n.1 * g.1 + n.2 * g.2
def spr (n : Pt) : List Pt → Int
  | [] => 0
  | g :: l => absI (dotP n g) + spr n l
theorem spr_app (n : Pt) : ∀ l m : List Pt, spr n (l ++ m) = spr n l + spr n m
  | [], m => by simp [spr]
  | g :: l, m => by simp only [List.cons_append, spr, spr_app n l m]; omega
theorem absI_bd {x M : Int} (h : -M ≤ x ∧ x ≤ M) : 0 ≤ absI x ∧ absI x ≤ M := by unfold absI; split <;> omega
theorem dotP_bd {a b : Pt} {A B : Int} (h1 : Bd A a) (h2 : Bd B b) : (-(A * B) ≤ a.1 * b.1 ∧ a.1 * b.1 ≤ A * B) ∧ (-(A * B) ≤ a.2 * b.2 ∧ a.2 * b.2 ≤ A * B) :=
  ⟨mul_bd ⟨h1.1, h1.2.1⟩ ⟨h2.1, h2.2.1⟩, mul_bd ⟨h1.2.2.1, h1.2.2.2⟩ ⟨h2.2.2.1, h2.2.2.2⟩⟩
theorem spr_bd {n : Pt} (hn : Bd 268435456 n) : ∀ l : List Pt, (∀ e ∈ l, Bd 268435456 e) → 0 ≤ spr n l ∧ spr n l ≤ l.length * 144115188075855872
  | [], _ => by simp [spr]
  | g :: l, h => by
    have ih := spr_bd hn l fun e he => h e (by simp [he])
    have hd := dotP_bd hn (h g (by simp))
    have ha := absI_bd (x := dotP n g) (M := 144115188075855872) (by unfold dotP; omega)
    simp only [spr, List.length_cons, Int.natCast_add]
    omega
set_option maxRecDepth 100000 in
theorem spread_c (H : AHeap) (s : AV) (l : List Pt) (n : Pt) (hs : IsP H s l) (hl : l.length ≤ 40) (hB : ∀ e ∈ l, Bd 268435456 e) (hn : Bd 268435456 n) : ACalls Try.prog 61 [s, pv n] H (fun v H' => v = .int .i64 (spr n l) ∧ H' = H) := by
  rcases hs with ⟨rfl, rfl⟩ | ⟨b, own, cap, rfl, hb⟩
  · (refine ACalls_run try_mixed Try.func61 true _ rfl (Nat.le_of_ble_eq_true (by kernel_rfl)) (by kernel_rfl) ?_; intro hbel Q hQ hQ' c hc; unfold Try.f61 at hc; simp only [Option.some.injEq] at hc; subst hc; clear hQ')
    simp -implicitDefEqProofs (disch := omega) only [simprocAttr, amset, tyset, Function.comp_apply, one1, lenV, calleeOf, lateOk, belowV, aop, AV.ofValue, AV.ofCell, AV.cells, AV.flat, AV.one, arep, aBin, aAppend, aConv]
    refine go_loop try_mixed (by kernel_rfl) (fun k F Hx => F = [(5, .int .i64 0), (9, .int .i64 0), (10, .int .i64 0)] ∧ Hx = H) 1 ?_ ?_
    · refine ⟨_, _, _, ⟨rfl, (List.append_nil H).symm ▸ rfl⟩, Abs.by (l2 := []) hbel [] (by decide) ?_⟩
      simp -implicitDefEqProofs (disch := omega) only [absF, absH, W_refl', W_any', W_agg, W_tup, Ws_cons, Ws_refl', Wc_refl', Wcs_cons, Wcs_nil, look, List.cons_append, List.nil_append, List.append_nil, List.length_cons, List.length_nil, Nat.zero_add, Nat.reduceAdd, AV.mv, AV.mvs, ABlk.mv, sig_new0, sig_newk, sig_lt, List.getElem?_cons_zero, List.getElem?_cons_succ, mvs_ints, mvs_bools, mvs_prs, mvs_append, cond_true, cond_false, beq_self_eq_true, Nat.reduceBEq, true_and, and_true, or_true, true_or, and_self, decide_true, Nat.add_zero, reduceCtorEq, false_or, or_false]
      repeat' (first | exact True.intro | exact Nat.add_lt_add_left (by decide) _ | exact Nat.lt_add_of_pos_right (by decide) | refine W_nils ?_ (Or.inr rfl) | refine W_nils ?_ (Or.inl rfl) | refine Wc_nils ?_ (Or.inr rfl) | refine Wc_nils ?_ (Or.inl rfl) | exact W_cap | rfl | refine And.intro ?_ ?_ | exact Or.inl rfl | exact Or.inr rfl | exact Or.inr (Or.inl rfl) | exact Or.inr (Or.inr BW.emp) | exact Or.inr BW.emp | exact BW.emp | exact Or.inr (Or.inr BW.pre) | exact Or.inr BW.pre | exact BW.pre | refine Or.inr (BW.cells ?_) | refine BW.cells ?_ | refine Or.inr (Or.inr (BW.cells ?_)) | exact Wc_cap)
    · rintro k F Hx ⟨rfl, rfl⟩ J hJ
      simp -implicitDefEqProofs (disch := omega) only [Int.lt_irrefl, simprocAttr, amset, tyset, Function.comp_apply, one1, lenV, calleeOf, lateOk, belowV, aop, AV.ofValue, AV.ofCell, AV.cells, AV.flat, AV.one, arep, aBin, aAppend, aConv]
      exact hQ _ _ (end_plain0 (.inl rfl) hbel (x := .int .i64 0) (ret_of Try.results61 (by simp -implicitDefEqProofs (disch := omega) only [simprocAttr, amset, tyset, Function.comp_apply, one1, lenV, calleeOf, lateOk, belowV, aop, AV.ofValue, AV.ofCell, AV.cells, AV.flat, AV.one, arep, aBin, aAppend, aConv])) rfl ⟨rfl, rfl⟩)
  have hbl := getElem?_lt hb
  have hb0 := fun l => get_app (l := l) hb
  generalize hm : l.length = m at *
  (refine ACalls_run try_mixed Try.func61 true _ rfl (Nat.le_of_ble_eq_true (by kernel_rfl)) (by kernel_rfl) ?_; intro hbel Q hQ hQ' c hc; unfold Try.f61 at hc; simp only [Option.some.injEq] at hc; subst hc; clear hQ')
  simp -implicitDefEqProofs (disch := omega) only [simprocAttr, amset, tyset, Function.comp_apply, one1, lenV, calleeOf, lateOk, belowV, aop, AV.ofValue, AV.ofCell, AV.cells, AV.flat, AV.one, arep, aBin, aAppend, aConv]
  refine go_loop try_mixed (by kernel_rfl) (fun k F Hx => ∃ i : Nat, i + k = m ∧ F = [(3, .ptr (some (H.length, 0))), (5, .int .i64 (spr n (l.take i))), (8, .sl (some (b, 0)) m none), (9, .int .i64 m), (10, .int .i64 (i : Nat))] ∧ Hx = H ++ [.cells true 0 [.int .i64 n.1, .int .i64 n.2]]) m ?_ ?_
  · refine ⟨_, _, _, ⟨0, by omega, rfl, rfl⟩, Abs.by hbel [0] (by decide) ?_⟩
    simp -implicitDefEqProofs (disch := omega) only [absF, absH, W_refl', W_any', W_agg, W_tup, Ws_cons, Ws_refl', Wc_refl', Wcs_cons, Wcs_nil, look, List.cons_append, List.nil_append, List.append_nil, List.length_cons, List.length_nil, Nat.zero_add, Nat.reduceAdd, AV.mv, AV.mvs, ABlk.mv, sig_new0, sig_newk, sig_lt, List.getElem?_cons_zero, List.getElem?_cons_succ, mvs_ints, mvs_bools, mvs_prs, mvs_append, cond_true, cond_false, beq_self_eq_true, Nat.reduceBEq, true_and, and_true, or_true, true_or, and_self, decide_true, Nat.add_zero, reduceCtorEq, false_or, or_false]
    repeat' (first | exact True.intro | exact Nat.add_lt_add_left (by decide) _ | exact Nat.lt_add_of_pos_right (by decide) | refine W_nils ?_ (Or.inr rfl) | refine W_nils ?_ (Or.inl rfl) | refine Wc_nils ?_ (Or.inr rfl) | refine Wc_nils ?_ (Or.inl rfl) | exact W_cap | rfl | refine And.intro ?_ ?_ | exact Or.inl rfl | exact Or.inr rfl | exact Or.inr (Or.inl rfl) | exact Or.inr (Or.inr BW.emp) | exact Or.inr BW.emp | exact BW.emp | exact Or.inr (Or.inr BW.pre) | exact Or.inr BW.pre | exact BW.pre | refine Or.inr (BW.cells ?_) | refine BW.cells ?_ | refine Or.inr (Or.inr (BW.cells ?_)) | exact Wc_cap)
  · rintro k F Hx ⟨i, hik, rfl, rfl⟩ J hJ
    by_cases hi : i < l.length
    · have hii : (i : Int) < (m : Int) := by omega
      have q0 := prs_load hi
      have hg : gp l i = l[i] := gp_eq hi
      have hgb := hB l[i] (List.getElem_mem hi)
      rw [← hg] at hgb
      have hd := dotP_bd hn hgb
      have hsb := spr_bd hn (l.take i) fun e he => hB e (List.mem_of_mem_take he)
      have hsl : ((l.take i).length : Int) * 144115188075855872 ≤ 39 * 144115188075855872 := Int.mul_le_mul_of_nonneg_right (by rw [List.length_take]; omega) (by decide)
      have ha := absI_bd (x := dotP n (gp l i)) (M := 144115188075855872) (by unfold dotP; omega)
      have hst : spr n (l.take (i + 1)) = spr n (l.take i) + absI (dotP n (gp l i)) := by rw [List.take_succ_eq_append_getElem hi, spr_app, hg]; simp [spr]
      have hdd : n.1 * g1 l i + n.2 * g2 l i = dotP n (gp l i) := rfl
      have hd2 : (-(268435456 * 268435456) ≤ n.1 * g1 l i ∧ n.1 * g1 l i ≤ 268435456 * 268435456) ∧ (-(268435456 * 268435456) ≤ n.2 * g2 l i ∧ n.2 * g2 l i ≤ 268435456 * 268435456) := hd
      simp -implicitDefEqProofs (disch := omega) only [hii, hb0, q0, simprocAttr, amset, tyset, Function.comp_apply, one1, lenV, calleeOf, lateOk, belowV, aop, AV.ofValue, AV.ofCell, AV.cells, AV.flat, AV.one, arep, aBin, aAppend, aConv]
      repeat refine And.intro (by omega) ?_
      refine call_v (by kernel_rfl) (abs_c _ _ (by omega)) ?_
      rw [hdd]
      simp -implicitDefEqProofs (disch := omega) only [simprocAttr, amset, tyset, Function.comp_apply, one1, lenV, calleeOf, lateOk, belowV, aop, AV.ofValue, AV.ofCell, AV.cells, AV.flat, AV.one, arep, aBin, aAppend, aConv]
      repeat refine And.intro (by omega) ?_
      refine hJ _ _ ⟨k - 1, by omega, _, _, _, ⟨i + 1, by omega, rfl, rfl⟩, Abs.by hbel [0] (by decide) ?_⟩
      rw [hst]
      simp -implicitDefEqProofs (disch := omega) only [absF, absH, W_refl', W_any', W_agg, W_tup, Ws_cons, Ws_refl', Wc_refl', Wcs_cons, Wcs_nil, look, List.cons_append, List.nil_append, List.append_nil, List.length_cons, List.length_nil, Nat.zero_add, Nat.reduceAdd, AV.mv, AV.mvs, ABlk.mv, sig_new0, sig_newk, sig_lt, List.getElem?_cons_zero, List.getElem?_cons_succ, mvs_ints, mvs_bools, mvs_prs, mvs_append, cond_true, cond_false, beq_self_eq_true, Nat.reduceBEq, true_and, and_true, or_true, true_or, and_self, decide_true, Nat.add_zero, reduceCtorEq, false_or, or_false]
      repeat' (first | exact True.intro | exact Nat.add_lt_add_left (by decide) _ | exact Nat.lt_add_of_pos_right (by decide) | refine W_nils ?_ (Or.inr rfl) | refine W_nils ?_ (Or.inl rfl) | refine Wc_nils ?_ (Or.inr rfl) | refine Wc_nils ?_ (Or.inl rfl) | exact W_cap | rfl | refine And.intro ?_ ?_ | exact Or.inl rfl | exact Or.inr rfl | exact Or.inr (Or.inl rfl) | exact Or.inr (Or.inr BW.emp) | exact Or.inr BW.emp | exact BW.emp | exact Or.inr (Or.inr BW.pre) | exact Or.inr BW.pre | exact BW.pre | refine Or.inr (BW.cells ?_) | refine BW.cells ?_ | refine Or.inr (Or.inr (BW.cells ?_)) | exact Wc_cap)
    · have hnn : ¬ ((i : Int) < (m : Int)) := by omega
      simp -implicitDefEqProofs (disch := omega) only [hnn, simprocAttr, amset, tyset, Function.comp_apply, one1, lenV, calleeOf, lateOk, belowV, aop, AV.ofValue, AV.ofCell, AV.cells, AV.flat, AV.one, arep, aBin, aAppend, aConv]
      exact hQ _ _ (end_plain (.inl rfl) hbel (x := .int .i64 (spr n (l.take i))) (ret_of Try.results61 (by simp -implicitDefEqProofs (disch := omega) only [simprocAttr, amset, tyset, Function.comp_apply, one1, lenV, calleeOf, lateOk, belowV, aop, AV.ofValue, AV.ofCell, AV.cells, AV.flat, AV.one, arep, aBin, aAppend, aConv])) rfl ⟨by rw [List.take_of_length_le (by omega)], rfl⟩)
set_option maxRecDepth 100000 in
theorem clone_c (H : AHeap) (s : AV) (l : List Pt) (hs : IsP H s l) (hl : l.length ≤ 1000000) (h0 : 0 < l.length) : ACalls Try.prog 64 [s] H (fun v H' => v = .sl (some (H.length, 0)) l.length none ∧ H' = H ++ [.cells true 2 (prs l)]) := by
  obtain ⟨b, own, cap, rfl, hb⟩ := hs.pos h0
  have hbl := getElem?_lt hb
  have hb0 := fun l => get_app (l := l) hb
  generalize hm : l.length = m at *
  (refine ACalls_run try_mixed Try.func64 true _ rfl (Nat.le_of_ble_eq_true (by kernel_rfl)) (by kernel_rfl) ?_; intro hbel Q hQ hQ' c hc; unfold Try.f64 at hc; simp only [Option.some.injEq] at hc; subst hc; clear hQ')
  have htk : List.take (m * 2) (prs l) = prs l := List.take_of_length_le (by rw [prs_len]; omega)
  have hm0 : (m == 0) = false := beq_eq_false_iff_ne.2 (by omega)
  have hm1 : (m != 0) = true := bne_iff_ne.2 (by omega)
  simp -implicitDefEqProofs (disch := omega) only [hb, hb0, Option.isNone_some, hm0, h0, htk, nilKnown, hm1, simprocAttr, amset, tyset, Function.comp_apply, one1, lenV, calleeOf, lateOk, belowV, aop, AV.ofValue, AV.ofCell, AV.cells, AV.flat, AV.one, arep, aBin, aAppend, aConv]
  repeat refine And.intro (by omega) ?_
  refine hQ _ _ (end_by (.inl rfl) hbel (x1 := .sl (some (H.length + 1, 0)) m none) (.sl (some (H.length, 0)) m none) (ret_of Try.results64 (by simp -implicitDefEqProofs (disch := omega) only [simprocAttr, amset, tyset, Function.comp_apply, one1, lenV, calleeOf, lateOk, belowV, aop, AV.ofValue, AV.ofCell, AV.cells, AV.flat, AV.one, arep, aBin, aAppend, aConv])) [1] (by decide) ⟨rfl, rfl⟩ ?_)
  simp -implicitDefEqProofs (disch := omega) only [absF, absH, W_refl', W_any', W_agg, W_tup, Ws_cons, Ws_refl', Wc_refl', Wcs_cons, Wcs_nil, look, List.cons_append, List.nil_append, List.append_nil, List.length_cons, List.length_nil, Nat.zero_add, Nat.reduceAdd, AV.mv, AV.mvs, ABlk.mv, sig_new0, sig_newk, sig_lt, List.getElem?_cons_zero, List.getElem?_cons_succ, mvs_ints, mvs_bools, mvs_prs, mvs_append, cond_true, cond_false, beq_self_eq_true, Nat.reduceBEq, true_and, and_true, or_true, true_or, and_self, decide_true, Nat.add_zero, reduceCtorEq, false_or, or_false]
  repeat' (first | exact True.intro | exact Nat.add_lt_add_left (by decide) _ | exact Nat.lt_add_of_pos_right (by decide) | refine W_nils ?_ (Or.inr rfl) | refine W_nils ?_ (Or.inl rfl) | refine Wc_nils ?_ (Or.inr rfl) | refine Wc_nils ?_ (Or.inl rfl) | exact W_cap | rfl | refine And.intro ?_ ?_ | exact Or.inl rfl | exact Or.inr rfl | exact Or.inr (Or.inl rfl) | exact Or.inr (Or.inr BW.emp) | exact Or.inr BW.emp | exact BW.emp | exact Or.inr (Or.inr BW.pre) | exact Or.inr BW.pre | exact BW.pre | refine Or.inr (BW.cells ?_) | refine BW.cells ?_ | refine Or.inr (Or.inr (BW.cells ?_)) | exact Wc_cap)
theorem clonenil_c (H : AHeap) : ACalls Try.prog 64 [.sl none 0 (some 0)] H (fun v H' => v = .sl none 0 (some 0) ∧ H' = H) := by
  (refine ACalls_run try_mixed Try.func64 true _ rfl (Nat.le_of_ble_eq_true (by kernel_rfl)) (by kernel_rfl) ?_; intro hbel Q hQ hQ' c hc; unfold Try.f64 at hc; simp only [Option.some.injEq] at hc; subst hc; clear hQ')
  simp -implicitDefEqProofs (disch := omega) only [Option.isNone_none, nilKnown, simprocAttr, amset, tyset, Function.comp_apply, one1, lenV, calleeOf, lateOk, belowV, aop, AV.ofValue, AV.ofCell, AV.cells, AV.flat, AV.one, arep, aBin, aAppend, aConv]
  exact hQ _ _ (end_plain0 (.inl rfl) hbel (x := .sl none 0 (some 0)) (ret_of Try.results64 (by simp -implicitDefEqProofs (disch := omega) only [simprocAttr, amset, tyset, Function.comp_apply, one1, lenV, calleeOf, lateOk, belowV, aop, AV.ofValue, AV.ofCell, AV.cells, AV.flat, AV.one, arep, aBin, aAppend, aConv])) rfl ⟨rfl, rfl⟩)
theorem clone0_c (H : AHeap) (b : Nat) (hb : H[b]? = some (.cells false 2 [])) : ACalls Try.prog 64 [.sl (some (b, 1)) 0 (some 0)] H (fun v H' => v = .sl (some (H.length, 0)) 0 (some 0) ∧ H' = H ++ [.cells true 2 []]) := by
  have hb0 := fun l => get_app (l := l) hb
  have hbl := getElem?_lt hb
  (refine ACalls_run try_mixed Try.func64 true _ rfl (Nat.le_of_ble_eq_true (by kernel_rfl)) (by kernel_rfl) ?_; intro hbel Q hQ hQ' c hc; unfold Try.f64 at hc; simp only [Option.some.injEq] at hc; subst hc; clear hQ')
  have hk : nilKnown (some (b, 1)) 0 (some 0) = true := rfl
  simp -implicitDefEqProofs (disch := omega) only [hb, hb0, Option.isNone_some, hk, simprocAttr, amset, tyset, Function.comp_apply, one1, lenV, calleeOf, lateOk, belowV, aop, AV.ofValue, AV.ofCell, AV.cells, AV.flat, AV.one, arep, aBin, aAppend, aConv]
  refine hQ _ _ (end_by (.inl rfl) hbel (x1 := .sl (some (H.length, 0)) 0 (some 0)) (.sl (some (H.length, 0)) 0 (some 0)) (ret_of Try.results64 (by simp -implicitDefEqProofs (disch := omega) only [simprocAttr, amset, tyset, Function.comp_apply, one1, lenV, calleeOf, lateOk, belowV, aop, AV.ofValue, AV.ofCell, AV.cells, AV.flat, AV.one, arep, aBin, aAppend, aConv])) [0] (by decide) ⟨rfl, rfl⟩ ?_)
  simp -implicitDefEqProofs (disch := omega) only [absF, absH, W_refl', W_any', W_agg, W_tup, Ws_cons, Ws_refl', Wc_refl', Wcs_cons, Wcs_nil, look, List.cons_append, List.nil_append, List.append_nil, List.length_cons, List.length_nil, Nat.zero_add, Nat.reduceAdd, AV.mv, AV.mvs, ABlk.mv, sig_new0, sig_newk, sig_lt, List.getElem?_cons_zero, List.getElem?_cons_succ, mvs_ints, mvs_bools, mvs_prs, mvs_append, cond_true, cond_false, beq_self_eq_true, Nat.reduceBEq, true_and, and_true, or_true, true_or, and_self, decide_true, Nat.add_zero, reduceCtorEq, false_or, or_false]
  repeat' (first | exact True.intro | exact Nat.add_lt_add_left (by decide) _ | exact Nat.lt_add_of_pos_right (by decide) | refine W_nils ?_ (Or.inr rfl) | refine W_nils ?_ (Or.inl rfl) | refine Wc_nils ?_ (Or.inr rfl) | refine Wc_nils ?_ (Or.inl rfl) | exact W_cap | rfl | refine And.intro ?_ ?_ | exact Or.inl rfl | exact Or.inr rfl | exact Or.inr (Or.inl rfl) | exact Or.inr (Or.inr BW.emp) | exact Or.inr BW.emp | exact BW.emp | exact Or.inr (Or.inr BW.pre) | exact Or.inr BW.pre | exact BW.pre | refine Or.inr (BW.cells ?_) | refine BW.cells ?_ | refine Or.inr (Or.inr (BW.cells ?_)) | exact Wc_cap)
theorem cloneempty_c (H : AHeap) (b : Nat) (cap : Option Nat) (own : Bool) (hb : H[b]? = some (.cells own 2 [])) : ACalls Try.prog 64 [.sl (some (b, 0)) 0 cap] H (fun v H' => v = .sl (some (H.length, 0)) 0 (some 0) ∧ H' = H ++ [.cells false 2 []]) := by
  have hb0 := fun l => get_app (l := l) hb
  have hbl := getElem?_lt hb
  refine ACalls.nilsplit (es := 2) (x := .sl (some (H.length + 1, 0)) 0 (some 0)) (l1 := [.cells false 2 [], .cells true 2 []]) ?_ (fun c hc => ?_) ?_ [] rfl [1] (by decide) ?_
  · refine (clonenil_c H).weak0 [.cells false 2 []] rfl [0] (by decide) _ _ ?_
    simp -implicitDefEqProofs (disch := omega) only [absF, absH, W_refl', W_any', W_agg, W_tup, Ws_cons, Ws_refl', Wc_refl', Wcs_cons, Wcs_nil, look, List.cons_append, List.nil_append, List.append_nil, List.length_cons, List.length_nil, Nat.zero_add, Nat.reduceAdd, AV.mv, AV.mvs, ABlk.mv, sig_new0, sig_newk, sig_lt, List.getElem?_cons_zero, List.getElem?_cons_succ, mvs_ints, mvs_bools, mvs_prs, mvs_append, cond_true, cond_false, beq_self_eq_true, Nat.reduceBEq, true_and, and_true, or_true, true_or, and_self, decide_true, Nat.add_zero, reduceCtorEq, false_or, or_false]
    repeat' (first | exact True.intro | exact Nat.add_lt_add_left (by decide) _ | exact Nat.lt_add_of_pos_right (by decide) | refine W_nils ?_ (Or.inr rfl) | refine W_nils ?_ (Or.inl rfl) | refine Wc_nils ?_ (Or.inr rfl) | refine Wc_nils ?_ (Or.inl rfl) | exact W_cap | rfl | refine And.intro ?_ ?_ | exact Or.inl rfl | exact Or.inr rfl | exact Or.inr (Or.inl rfl) | exact Or.inr (Or.inr BW.emp) | exact Or.inr BW.emp | exact BW.emp | exact Or.inr (Or.inr BW.pre) | exact Or.inr BW.pre | exact BW.pre | refine Or.inr (BW.cells ?_) | refine BW.cells ?_ | refine Or.inr (Or.inr (BW.cells ?_)) | exact Wc_cap)
  · have hc1 : (c != 0) = true := bne_iff_ne.2 (by omega)
    (refine ACalls_run try_mixed Try.func64 true _ rfl (Nat.le_of_ble_eq_true (by kernel_rfl)) (by kernel_rfl) ?_; intro hbel Q hQ hQ' c hc; unfold Try.f64 at hc; simp only [Option.some.injEq] at hc; subst hc; clear hQ')
    simp -implicitDefEqProofs (disch := omega) only [hb, hb0, Option.isNone_some, nilKnown, hc1, Nat.reduceBNe, simprocAttr, amset, tyset, Function.comp_apply, one1, lenV, calleeOf, lateOk, belowV, aop, AV.ofValue, AV.ofCell, AV.cells, AV.flat, AV.one, arep, aBin, aAppend, aConv]
    refine hQ _ _ (end_byG (.inl rfl) hbel (x1 := .sl (some (H.length, 0)) 0 (some 0)) (l2 := [.cells false 2 []]) (.sl (some (H.length, 0)) 0 (some 0)) (ret_of Try.results64 (by simp -implicitDefEqProofs (disch := omega) only [simprocAttr, amset, tyset, Function.comp_apply, one1, lenV, calleeOf, lateOk, belowV, aop, AV.ofValue, AV.ofCell, AV.cells, AV.flat, AV.one, arep, aBin, aAppend, aConv])) [] rfl [0] (by decide) ⟨rfl, rfl⟩ ?_)
    simp -implicitDefEqProofs (disch := omega) only [absF, absH, W_refl', W_any', W_agg, W_tup, Ws_cons, Ws_refl', Wc_refl', Wcs_cons, Wcs_nil, look, List.cons_append, List.nil_append, List.append_nil, List.length_cons, List.length_nil, Nat.zero_add, Nat.reduceAdd, AV.mv, AV.mvs, ABlk.mv, sig_new0, sig_newk, sig_lt, List.getElem?_cons_zero, List.getElem?_cons_succ, mvs_ints, mvs_bools, mvs_prs, mvs_append, cond_true, cond_false, beq_self_eq_true, Nat.reduceBEq, true_and, and_true, or_true, true_or, and_self, decide_true, Nat.add_zero, reduceCtorEq, false_or, or_false]
    repeat' (first | exact True.intro | exact Nat.add_lt_add_left (by decide) _ | exact Nat.lt_add_of_pos_right (by decide) | refine W_nils ?_ (Or.inr rfl) | refine W_nils ?_ (Or.inl rfl) | refine Wc_nils ?_ (Or.inr rfl) | refine Wc_nils ?_ (Or.inl rfl) | exact W_cap | rfl | refine And.intro ?_ ?_ | exact Or.inl rfl | exact Or.inr rfl | exact Or.inr (Or.inl rfl) | exact Or.inr (Or.inr BW.emp) | exact Or.inr BW.emp | exact BW.emp | exact Or.inr (Or.inr BW.pre) | exact Or.inr BW.pre | exact BW.pre | refine Or.inr (BW.cells ?_) | refine BW.cells ?_ | refine Or.inr (Or.inr (BW.cells ?_)) | exact Wc_cap)
  · have hh := clone0_c (H ++ [.cells false 2 []]) H.length (by rw [get_new0]; rfl)
    refine hh.mono fun y H1 ⟨h1, h2⟩ => ⟨by rw [h1]; simp, by rw [h2]; simp⟩
  · simp -implicitDefEqProofs (disch := omega) only [absF, absH, W_refl', W_any', W_agg, W_tup, Ws_cons, Ws_refl', Wc_refl', Wcs_cons, Wcs_nil, look, List.cons_append, List.nil_append, List.append_nil, List.length_cons, List.length_nil, Nat.zero_add, Nat.reduceAdd, AV.mv, AV.mvs, ABlk.mv, sig_new0, sig_newk, sig_lt, List.getElem?_cons_zero, List.getElem?_cons_succ, mvs_ints, mvs_bools, mvs_prs, mvs_append, cond_true, cond_false, beq_self_eq_true, Nat.reduceBEq, true_and, and_true, or_true, true_or, and_self, decide_true, Nat.add_zero, reduceCtorEq, false_or, or_false]
    repeat' (first | exact True.intro | exact Nat.add_lt_add_left (by decide) _ | exact Nat.lt_add_of_pos_right (by decide) | refine W_nils ?_ (Or.inr rfl) | refine W_nils ?_ (Or.inl rfl) | refine Wc_nils ?_ (Or.inr rfl) | refine Wc_nils ?_ (Or.inl rfl) | exact W_cap | rfl | refine And.intro ?_ ?_ | exact Or.inl rfl | exact Or.inr rfl | exact Or.inr (Or.inl rfl) | exact Or.inr (Or.inr BW.emp) | exact Or.inr BW.emp | exact BW.emp | exact Or.inr (Or.inr BW.pre) | exact Or.inr BW.pre | exact BW.pre | refine Or.inr (BW.cells ?_) | refine BW.cells ?_ | refine Or.inr (Or.inr (BW.cells ?_)) | exact Wc_cap)
end Go.Proofs.Ytjfnbcifafmefaa

/- Walks by the abstract machine: bounds, Bounds, Support, Area. Conditions: as each theorem states. -/
namespace Go.Proofs.Ytjfnbcifafmefaa
set_option linter.unusedSimpArgs false
set_option linter.unusedVariables false
open Go.RowKit
theorem valid_bd3 {x y : Int} {l : List Pt} (h : validB x y l = true) : (-8388608 ≤ x ∧ x ≤ 8388608) ∧ -8388608 ≤ y ∧ y ≤ 8388608 := by
  unfold validB at h
  simp only [Bool.and_eq_true, within_iff] at h
  exact ⟨h.1.1.1, h.1.1.2⟩
theorem canonical_u (H : AHeap) (x y : Int) (s : AV) (l : List Pt) (hs : IsP H s l) (hl : l.length ≤ 40) (hB : ∀ e ∈ l, Bd 4194304 e) :
    ACalls Try.prog 44 [.agg [.int .i64 x, .int .i64 y, s]] H (fun v H' => v = .agg [.int .i64 x, .int .i64 y, .sl (some (H.length, 0)) (canonL l).length (capG (canonL l).length)] ∧ H' = H ++ [.cells (ownG (canonL l).length) 2 (prs (canonL l))]) := by
  have h := canonical_a H x y s l hs hl hB
  rcases Nat.eq_zero_or_pos (canonL l).length with h0 | h0
  · rw [List.eq_nil_of_length_eq_zero h0] at h ⊢
    simp only [zR_nil] at h
    refine ACalls.weak0 h [.cells false 2 []] rfl [0] (by decide) _ _ ?_
    simp -implicitDefEqProofs (disch := omega) only [List.length_nil, capG_0, ownG_0, prs_nil, absF, absH, W_refl', W_any', W_agg, W_tup, Ws_cons, Ws_refl', Wc_refl', Wcs_cons, Wcs_nil, look, List.cons_append, List.nil_append, List.append_nil, List.length_cons, List.length_nil, Nat.zero_add, Nat.reduceAdd, AV.mv, AV.mvs, ABlk.mv, sig_new0, sig_newk, sig_lt, List.getElem?_cons_zero, List.getElem?_cons_succ, mvs_ints, mvs_bools, mvs_prs, mvs_append, cond_true, cond_false, beq_self_eq_true, Nat.reduceBEq, true_and, and_true, or_true, true_or, and_self, decide_true, Nat.add_zero, reduceCtorEq, false_or, or_false]
    repeat' (first | exact True.intro | exact Nat.add_lt_add_left (by decide) _ | exact Nat.lt_add_of_pos_right (by decide) | refine W_nils ?_ (Or.inr rfl) | refine W_nils ?_ (Or.inl rfl) | refine Wc_nils ?_ (Or.inr rfl) | refine Wc_nils ?_ (Or.inl rfl) | exact W_cap | rfl | refine And.intro ?_ ?_ | exact Or.inl rfl | exact Or.inr rfl | exact Or.inr (Or.inl rfl) | exact Or.inr (Or.inr BW.emp) | exact Or.inr BW.emp | exact BW.emp | exact Or.inr (Or.inr BW.pre) | exact Or.inr BW.pre | exact BW.pre | refine Or.inr (BW.cells ?_) | refine BW.cells ?_ | refine Or.inr (Or.inr (BW.cells ?_)) | exact Wc_cap)
  · rw [zR_pos h0] at h
    refine ACalls.weak h [] rfl [0] (by decide) _ _ ?_
    rw [capG_p h0, ownG_p h0]
    generalize canonL l = L
    simp -implicitDefEqProofs (disch := omega) only [absF, absH, W_refl', W_any', W_agg, W_tup, Ws_cons, Ws_refl', Wc_refl', Wcs_cons, Wcs_nil, look, List.cons_append, List.nil_append, List.append_nil, List.length_cons, List.length_nil, Nat.zero_add, Nat.reduceAdd, AV.mv, AV.mvs, ABlk.mv, sig_new0, sig_newk, sig_lt, List.getElem?_cons_zero, List.getElem?_cons_succ, mvs_ints, mvs_bools, mvs_prs, mvs_append, cond_true, cond_false, beq_self_eq_true, Nat.reduceBEq, true_and, and_true, or_true, true_or, and_self, decide_true, Nat.add_zero, reduceCtorEq, false_or, or_false]
    repeat' (first | exact True.intro | exact Nat.add_lt_add_left (by decide) _ | exact Nat.lt_add_of_pos_right (by decide) | refine W_nils ?_ (Or.inr rfl) | refine W_nils ?_ (Or.inl rfl) | refine Wc_nils ?_ (Or.inr rfl) | refine Wc_nils ?_ (Or.inl rfl) | exact W_cap | rfl | refine And.intro ?_ ?_ | exact Or.inl rfl | exact Or.inr rfl | exact Or.inr (Or.inl rfl) | exact Or.inr (Or.inr BW.emp) | exact Or.inr BW.emp | exact BW.emp | exact Or.inr (Or.inr BW.pre) | exact Or.inr BW.pre | exact BW.pre | refine Or.inr (BW.cells ?_) | refine BW.cells ?_ | refine Or.inr (Or.inr (BW.cells ?_)) | exact Wc_cap)
theorem rcanon_u (H : AHeap) (x y : Int) (s : AV) (l : List Pt) (hs : IsP H s l) (hl : l.length ≤ 40) (hB : ∀ e ∈ l, Bd 4194304 e) :
    ACalls Try.prog 45 [.agg [.int .i64 x, .int .i64 y, s]] H (fun v H' => v = .agg [.int .i64 x, .int .i64 y, .sl (some (H.length, 0)) (canonL l).length (capG (canonL l).length)] ∧ H' = H ++ [.cells (ownG (canonL l).length) 2 (prs (canonL l))]) := by
  have h := rcanon_a H x y s l hs hl hB
  rcases Nat.eq_zero_or_pos (canonL l).length with h0 | h0
  · rw [List.eq_nil_of_length_eq_zero h0] at h ⊢
    simp only [zR_nil] at h
    refine ACalls.weak0 h [.cells false 2 []] rfl [0] (by decide) _ _ ?_
    simp -implicitDefEqProofs (disch := omega) only [List.length_nil, capG_0, ownG_0, prs_nil, absF, absH, W_refl', W_any', W_agg, W_tup, Ws_cons, Ws_refl', Wc_refl', Wcs_cons, Wcs_nil, look, List.cons_append, List.nil_append, List.append_nil, List.length_cons, List.length_nil, Nat.zero_add, Nat.reduceAdd, AV.mv, AV.mvs, ABlk.mv, sig_new0, sig_newk, sig_lt, List.getElem?_cons_zero, List.getElem?_cons_succ, mvs_ints, mvs_bools, mvs_prs, mvs_append, cond_true, cond_false, beq_self_eq_true, Nat.reduceBEq, true_and, and_true, or_true, true_or, and_self, decide_true, Nat.add_zero, reduceCtorEq, false_or, or_false]
    repeat' (first | exact True.intro | exact Nat.add_lt_add_left (by decide) _ | exact Nat.lt_add_of_pos_right (by decide) | refine W_nils ?_ (Or.inr rfl) | refine W_nils ?_ (Or.inl rfl) | refine Wc_nils ?_ (Or.inr rfl) | refine Wc_nils ?_ (Or.inl rfl) | exact W_cap | rfl | refine And.intro ?_ ?_ | exact Or.inl rfl | exact Or.inr rfl | exact Or.inr (Or.inl rfl) | exact Or.inr (Or.inr BW.emp) | exact Or.inr BW.emp | exact BW.emp | exact Or.inr (Or.inr BW.pre) | exact Or.inr BW.pre | exact BW.pre | refine Or.inr (BW.cells ?_) | refine BW.cells ?_ | refine Or.inr (Or.inr (BW.cells ?_)) | exact Wc_cap)
  · rw [zR_pos h0] at h
    refine ACalls.weak h [] rfl [0] (by decide) _ _ ?_
    rw [capG_p h0, ownG_p h0]
    generalize canonL l = L
    simp -implicitDefEqProofs (disch := omega) only [absF, absH, W_refl', W_any', W_agg, W_tup, Ws_cons, Ws_refl', Wc_refl', Wcs_cons, Wcs_nil, look, List.cons_append, List.nil_append, List.append_nil, List.length_cons, List.length_nil, Nat.zero_add, Nat.reduceAdd, AV.mv, AV.mvs, ABlk.mv, sig_new0, sig_newk, sig_lt, List.getElem?_cons_zero, List.getElem?_cons_succ, mvs_ints, mvs_bools, mvs_prs, mvs_append, cond_true, cond_false, beq_self_eq_true, Nat.reduceBEq, true_and, and_true, or_true, true_or, and_self, decide_true, Nat.add_zero, reduceCtorEq, false_or, or_false]
    repeat' (first | exact True.intro | exact Nat.add_lt_add_left (by decide) _ | exact Nat.lt_add_of_pos_right (by decide) | refine W_nils ?_ (Or.inr rfl) | refine W_nils ?_ (Or.inl rfl) | refine Wc_nils ?_ (Or.inr rfl) | refine Wc_nils ?_ (Or.inl rfl) | exact W_cap | rfl | refine And.intro ?_ ?_ | exact Or.inl rfl | exact Or.inr rfl | exact Or.inr (Or.inl rfl) | exact Or.inr (Or.inr BW.emp) | exact Or.inr BW.emp | exact BW.emp | exact Or.inr (Or.inr BW.pre) | exact Or.inr BW.pre | exact BW.pre | refine Or.inr (BW.cells ?_) | refine BW.cells ?_ | refine Or.inr (Or.inr (BW.cells ?_)) | exact Wc_cap)
set_option maxHeartbeats 4000000 in
set_option maxRecDepth 100000 in
theorem bounds_c (H : AHeap) (x : Int) (y : Int) (s : AV) (l : List (Int × Int)) (hs : Sl H 2 s l.length (prs l)) (hv : validB x y l = true) : ACalls Try.prog 46 [.agg [.int .i64 x, .int .i64 y, s]] H (fun v H' => v = .agg [.int .i64 (x - spr (1, 0) l), .int .i64 (y - spr (0, 1) l), .int .i64 (x + spr (1, 0) l), .int .i64 (y + spr (0, 1) l)] ∧ H' = H) := by
  obtain ⟨bs, os, cs, rfl, hbs⟩ := hs
  have hbls := getElem?_lt hbs
  have hb0s := fun l => get_app (l := l) hbs
  obtain ⟨hl16, hlB⟩ := valid_bd hv
  have hxy := valid_bd3 hv
  have hB2 : ∀ e ∈ l, Bd 268435456 e := fun e he => by have := hlB e he; unfold Bd at *; omega
  have hB4 : ∀ e ∈ l, Bd 4194304 e := fun e he => by have := hlB e he; unfold Bd at *; omega
  have hs1 := spr_bd (n := (1, 0)) (by unfold Bd; simp) l hB2
  have hs2 := spr_bd (n := (0, 1)) (by unfold Bd; simp) l hB2
  (refine ACalls_run try_mixed Try.func46 true _ rfl (Nat.le_of_ble_eq_true (by kernel_rfl)) (by kernel_rfl) ?_; intro hbel Q hQ hQ' c hc; unfold Try.f46 at hc; simp only [Option.some.injEq] at hc; subst hc; clear hQ')
  simp -implicitDefEqProofs (disch := omega) only [hbs, hb0s, aApp_nil, aApp_none, aApp_some, aApp_grw, simprocAttr, amset, tyset, Function.comp_apply, one1, lenV, calleeOf, lateOk, belowV, aop, AV.ofValue, AV.ofCell, AV.cells, AV.flat, AV.one, arep, aBin, aConv]
  repeat refine And.intro (by omega) ?_
  refine call_d (by kernel_rfl) (spread_c _ _ l (1, 0) (.inr ⟨_, _, _, rfl, by first | exact hb0s _ | exact hbs⟩) (by omega) (by assumption) (by first | assumption | (unfold Bd; simp only; omega) | (unfold Bd at *; simp only at *; omega) | (unfold Bd; simp; omega) | (unfold Bd; simp))) ?_
  simp -implicitDefEqProofs (disch := omega) only [hbs, hb0s, aApp_nil, aApp_none, aApp_some, aApp_grw, simprocAttr, amset, tyset, Function.comp_apply, one1, lenV, calleeOf, lateOk, belowV, aop, AV.ofValue, AV.ofCell, AV.cells, AV.flat, AV.one, arep, aBin, aConv]
  repeat refine And.intro (by omega) ?_
  refine call_d (by kernel_rfl) (spread_c _ _ l (0, 1) (.inr ⟨_, _, _, rfl, by first | exact hb0s _ | exact hbs⟩) (by omega) (by assumption) (by first | assumption | (unfold Bd; simp only; omega) | (unfold Bd at *; simp only at *; omega) | (unfold Bd; simp; omega) | (unfold Bd; simp))) ?_
  simp -implicitDefEqProofs (disch := omega) only [hbs, hb0s, aApp_nil, aApp_none, aApp_some, aApp_grw, simprocAttr, amset, tyset, Function.comp_apply, one1, lenV, calleeOf, lateOk, belowV, aop, AV.ofValue, AV.ofCell, AV.cells, AV.flat, AV.one, arep, aBin, aConv]
  repeat refine And.intro (by omega) ?_
  exact hQ _ _ (end_plain (.inl rfl) hbel (x := .agg [.int .i64 (x - (spr (1, 0) l)), .int .i64 (y - (spr (0, 1) l)), .int .i64 (x + (spr (1, 0) l)), .int .i64 (y + (spr (0, 1) l))]) (ret_of Try.results46 (by simp -implicitDefEqProofs (disch := omega) only [simprocAttr, amset, tyset, Function.comp_apply, one1, lenV, calleeOf, lateOk, belowV, aop, AV.ofValue, AV.ofCell, AV.cells, AV.flat, AV.one, arep, aBin, aAppend, aConv])) rfl ⟨by simp [true_and], rfl⟩)
def ifv (b : Bool) (v : Int) : Int := if b = true then v else 0
set_option maxHeartbeats 4000000 in
set_option maxRecDepth 100000 in
theorem Bounds_c (H : AHeap) (x : Int) (y : Int) (s : AV) (l : List (Int × Int)) (hs : Sl H 2 s l.length (prs l)) : ACalls Try.prog 17 [.agg [.int .i64 x, .int .i64 y, s]] H (fun v H' => v = .tup [.agg [.int .i64 (ifv (validB x y l) (x - spr (1, 0) l)), .int .i64 (ifv (validB x y l) (y - spr (0, 1) l)), .int .i64 (ifv (validB x y l) (x + spr (1, 0) l)), .int .i64 (ifv (validB x y l) (y + spr (0, 1) l))], .int .i64 (if validB x y l = true then 0 else 1)] ∧ H' = H) := by
  obtain ⟨bs, os, cs, rfl, hbs⟩ := hs
  have hbls := getElem?_lt hbs
  have hb0s := fun l => get_app (l := l) hbs
  (refine ACalls_run try_mixed Try.func17 true _ rfl (Nat.le_of_ble_eq_true (by kernel_rfl)) (by kernel_rfl) ?_; intro hbel Q hQ hQ' c hc; unfold Try.f17 at hc; simp only [Option.some.injEq] at hc; subst hc; clear hQ')
  simp -implicitDefEqProofs (disch := omega) only [hbs, hb0s, aApp_nil, aApp_none, aApp_some, aApp_grw, simprocAttr, amset, tyset, Function.comp_apply, one1, lenV, calleeOf, lateOk, belowV, aop, AV.ofValue, AV.ofCell, AV.cells, AV.flat, AV.one, arep, aBin, aConv]
  repeat refine And.intro (by omega) ?_
  refine call_v (by kernel_rfl) (valid_c _ x y _ l (.inr ⟨_, _, _, rfl, by first | exact hb0s _ | exact hbs⟩)) ?_
  simp -implicitDefEqProofs (disch := omega) only [hbs, hb0s, aApp_nil, aApp_none, aApp_some, aApp_grw, simprocAttr, amset, tyset, Function.comp_apply, one1, lenV, calleeOf, lateOk, belowV, aop, AV.ofValue, AV.ofCell, AV.cells, AV.flat, AV.one, arep, aBin, aConv]
  repeat refine And.intro (by omega) ?_
  refine cond_split (fun h1 => ?_) (fun h1 => ?_)
  · have h1d := h1
    try simp only [Bool.not_eq_true', Bool.not_eq_false', decide_eq_true_eq, decide_eq_false_iff_not, beq_iff_eq, bne_iff_ne, ne_eq, Bool.not_eq_true, Bool.not_eq_false, beq_eq_false_iff_ne, bne_eq_false_iff_eq, Classical.not_not, Bool.and_eq_true, Bool.and_eq_false_imp] at h1d
    simp -implicitDefEqProofs (disch := omega) only [hbs, hb0s, h1, h1d, aApp_nil, aApp_none, aApp_some, aApp_grw, simprocAttr, amset, tyset, Function.comp_apply, one1, lenV, calleeOf, lateOk, belowV, aop, AV.ofValue, AV.ofCell, AV.cells, AV.flat, AV.one, arep, aBin, aConv]
    repeat refine And.intro (by omega) ?_
    exact hQ _ _ (end_plain (.inl rfl) hbel (x := .tup [.agg [.int .i64 0, .int .i64 0, .int .i64 0, .int .i64 0], .int .i64 1]) (ret_of Try.results17 (by simp -implicitDefEqProofs (disch := omega) only [simprocAttr, amset, tyset, Function.comp_apply, one1, lenV, calleeOf, lateOk, belowV, aop, AV.ofValue, AV.ofCell, AV.cells, AV.flat, AV.one, arep, aBin, aAppend, aConv])) rfl ⟨by simp [ifv, h1d], rfl⟩)
  · have h1d := h1
    try simp only [Bool.not_eq_true', Bool.not_eq_false', decide_eq_true_eq, decide_eq_false_iff_not, beq_iff_eq, bne_iff_ne, ne_eq, Bool.not_eq_true, Bool.not_eq_false, beq_eq_false_iff_ne, bne_eq_false_iff_eq, Classical.not_not, Bool.and_eq_true, Bool.and_eq_false_imp] at h1d
    simp -implicitDefEqProofs (disch := omega) only [hbs, hb0s, h1, h1d, aApp_nil, aApp_none, aApp_some, aApp_grw, simprocAttr, amset, tyset, Function.comp_apply, one1, lenV, calleeOf, lateOk, belowV, aop, AV.ofValue, AV.ofCell, AV.cells, AV.flat, AV.one, arep, aBin, aConv]
    repeat refine And.intro (by omega) ?_
    refine call_v (by kernel_rfl) (bounds_c _ x y _ l ⟨_, _, _, rfl, by first | exact hb0s _ | exact hbs⟩ (by assumption)) ?_
    simp -implicitDefEqProofs (disch := omega) only [hbs, hb0s, h1, h1d, aApp_nil, aApp_none, aApp_some, aApp_grw, simprocAttr, amset, tyset, Function.comp_apply, one1, lenV, calleeOf, lateOk, belowV, aop, AV.ofValue, AV.ofCell, AV.cells, AV.flat, AV.one, arep, aBin, aConv]
    repeat refine And.intro (by omega) ?_
    exact hQ _ _ (end_plain (.inl rfl) hbel (x := .tup [.agg [.int .i64 (x - spr (1, 0) l), .int .i64 (y - spr (0, 1) l), .int .i64 (x + spr (1, 0) l), .int .i64 (y + spr (0, 1) l)], .int .i64 0]) (ret_of Try.results17 (by simp -implicitDefEqProofs (disch := omega) only [simprocAttr, amset, tyset, Function.comp_apply, one1, lenV, calleeOf, lateOk, belowV, aop, AV.ofValue, AV.ofCell, AV.cells, AV.flat, AV.one, arep, aBin, aAppend, aConv])) rfl ⟨by simp [ifv, h1d], rfl⟩)
/-- The greatest value in a direction. -/
def supI (x y : Int) (l : List Pt) (nx ny : Int) : Int := if (validB x y l && (within nx 65536 && within ny 65536)) = true then nx * x + ny * y + spr (nx, ny) l else 0
set_option maxHeartbeats 4000000 in
set_option maxRecDepth 100000 in
theorem support_c (H : AHeap) (x : Int) (y : Int) (s : AV) (l : List (Int × Int)) (nx : Int) (ny : Int) (hs : Sl H 2 s l.length (prs l)) : ACalls Try.prog 34 [.agg [.int .i64 x, .int .i64 y, s], .agg [.int .i64 nx, .int .i64 ny]] H (fun v H' => v = .int .i64 (supI x y l nx ny) ∧ H' = H) := by
  obtain ⟨bs, os, cs, rfl, hbs⟩ := hs
  have hbls := getElem?_lt hbs
  have hb0s := fun l => get_app (l := l) hbs
  (refine ACalls_run try_mixed Try.func34 true _ rfl (Nat.le_of_ble_eq_true (by kernel_rfl)) (by kernel_rfl) ?_; intro hbel Q hQ hQ' c hc; unfold Try.f34 at hc; simp only [Option.some.injEq] at hc; subst hc; clear hQ')
  simp -implicitDefEqProofs (disch := omega) only [hbs, hb0s, aApp_nil, aApp_none, aApp_some, aApp_grw, simprocAttr, amset, tyset, Function.comp_apply, one1, lenV, calleeOf, lateOk, belowV, aop, AV.ofValue, AV.ofCell, AV.cells, AV.flat, AV.one, arep, aBin, aConv]
  repeat refine And.intro (by omega) ?_
  refine call_v (by kernel_rfl) (valid_c _ x y _ l (.inr ⟨_, _, _, rfl, by first | exact hb0s _ | exact hbs⟩)) ?_
  simp -implicitDefEqProofs (disch := omega) only [hbs, hb0s, aApp_nil, aApp_none, aApp_some, aApp_grw, simprocAttr, amset, tyset, Function.comp_apply, one1, lenV, calleeOf, lateOk, belowV, aop, AV.ofValue, AV.ofCell, AV.cells, AV.flat, AV.one, arep, aBin, aConv]
  repeat refine And.intro (by omega) ?_
  refine gd_split (fun h1 => ?_) (fun h1 => ?_)
  · have h1d := h1
    try simp only [Bool.not_eq_true', Bool.not_eq_false', decide_eq_true_eq, decide_eq_false_iff_not, beq_iff_eq, bne_iff_ne, ne_eq, Bool.not_eq_true, Bool.not_eq_false, beq_eq_false_iff_ne, bne_eq_false_iff_eq, Classical.not_not, Bool.and_eq_true, Bool.and_eq_false_imp] at h1d
    simp -implicitDefEqProofs (disch := omega) only [hbs, hb0s, h1, h1d, aApp_nil, aApp_none, aApp_some, aApp_grw, simprocAttr, amset, tyset, Function.comp_apply, one1, lenV, calleeOf, lateOk, belowV, aop, AV.ofValue, AV.ofCell, AV.cells, AV.flat, AV.one, arep, aBin, aConv]
    repeat refine And.intro (by omega) ?_
    refine call_v (by kernel_rfl) (size_c _ _ _ (by decide)) ?_
    simp -implicitDefEqProofs (disch := omega) only [hbs, hb0s, h1, h1d, aApp_nil, aApp_none, aApp_some, aApp_grw, simprocAttr, amset, tyset, Function.comp_apply, one1, lenV, calleeOf, lateOk, belowV, aop, AV.ofValue, AV.ofCell, AV.cells, AV.flat, AV.one, arep, aBin, aConv]
    repeat refine And.intro (by omega) ?_
    refine gd_split (fun h2 => ?_) (fun h2 => ?_)
    · have h2d := h2
      try simp only [Bool.not_eq_true', Bool.not_eq_false', decide_eq_true_eq, decide_eq_false_iff_not, beq_iff_eq, bne_iff_ne, ne_eq, Bool.not_eq_true, Bool.not_eq_false, beq_eq_false_iff_ne, bne_eq_false_iff_eq, Classical.not_not, Bool.and_eq_true, Bool.and_eq_false_imp] at h2d
      simp -implicitDefEqProofs (disch := omega) only [hbs, hb0s, h1, h1d, h2, h2d, aApp_nil, aApp_none, aApp_some, aApp_grw, simprocAttr, amset, tyset, Function.comp_apply, one1, lenV, calleeOf, lateOk, belowV, aop, AV.ofValue, AV.ofCell, AV.cells, AV.flat, AV.one, arep, aBin, aConv]
      repeat refine And.intro (by omega) ?_
      refine call_v (by kernel_rfl) (size_c _ _ _ (by decide)) ?_
      simp -implicitDefEqProofs (disch := omega) only [hbs, hb0s, h1, h1d, h2, h2d, aApp_nil, aApp_none, aApp_some, aApp_grw, simprocAttr, amset, tyset, Function.comp_apply, one1, lenV, calleeOf, lateOk, belowV, aop, AV.ofValue, AV.ofCell, AV.cells, AV.flat, AV.one, arep, aBin, aConv]
      repeat refine And.intro (by omega) ?_
      refine cond_split (fun h3 => ?_) (fun h3 => ?_)
      · have h3d := h3
        try simp only [Bool.not_eq_true', Bool.not_eq_false', decide_eq_true_eq, decide_eq_false_iff_not, beq_iff_eq, bne_iff_ne, ne_eq, Bool.not_eq_true, Bool.not_eq_false, beq_eq_false_iff_ne, bne_eq_false_iff_eq, Classical.not_not, Bool.and_eq_true, Bool.and_eq_false_imp] at h3d
        simp -implicitDefEqProofs (disch := omega) only [hbs, hb0s, h1, h1d, h2, h2d, h3, h3d, aApp_nil, aApp_none, aApp_some, aApp_grw, simprocAttr, amset, tyset, Function.comp_apply, one1, lenV, calleeOf, lateOk, belowV, aop, AV.ofValue, AV.ofCell, AV.cells, AV.flat, AV.one, arep, aBin, aConv]
        repeat refine And.intro (by omega) ?_
        exact hQ _ _ (end_plain (.inl rfl) hbel (x := .int .i64 0) (ret_of Try.results34 (by simp -implicitDefEqProofs (disch := omega) only [simprocAttr, amset, tyset, Function.comp_apply, one1, lenV, calleeOf, lateOk, belowV, aop, AV.ofValue, AV.ofCell, AV.cells, AV.flat, AV.one, arep, aBin, aAppend, aConv])) rfl ⟨by simp [supI, h1d, h2d, h3d], rfl⟩)
      · have h3d := h3
        try simp only [Bool.not_eq_true', Bool.not_eq_false', decide_eq_true_eq, decide_eq_false_iff_not, beq_iff_eq, bne_iff_ne, ne_eq, Bool.not_eq_true, Bool.not_eq_false, beq_eq_false_iff_ne, bne_eq_false_iff_eq, Classical.not_not, Bool.and_eq_true, Bool.and_eq_false_imp] at h3d
        simp -implicitDefEqProofs (disch := omega) only [hbs, hb0s, h1, h1d, h2, h2d, h3, h3d, aApp_nil, aApp_none, aApp_some, aApp_grw, simprocAttr, amset, tyset, Function.comp_apply, one1, lenV, calleeOf, lateOk, belowV, aop, AV.ofValue, AV.ofCell, AV.cells, AV.flat, AV.one, arep, aBin, aConv]
        repeat refine And.intro (by omega) ?_
        obtain ⟨hl16, hlB⟩ := valid_bd h1d
        have hxy := valid_bd3 h1d
        have hB2 : ∀ e ∈ l, Bd 268435456 e := fun e he => by have := hlB e he; unfold Bd at *; omega
        have hB4 : ∀ e ∈ l, Bd 4194304 e := fun e he => by have := hlB e he; unfold Bd at *; omega
        have w2 := h2d
        have w3 := h3d
        simp only [within_iff] at w2 w3
        have hnb : Bd 268435456 (nx, ny) := by unfold Bd; simp only; omega
        have hsb := spr_bd hnb l hB2
        have hp1 := mul_bd (a := nx) (b := x) (A := 65536) (B := 8388608) (by omega) (by omega)
        have hp2 := mul_bd (a := ny) (b := y) (A := 65536) (B := 8388608) (by omega) (by omega)
        refine call_d (by kernel_rfl) (spread_c _ _ l (nx, ny) (.inr ⟨_, _, _, rfl, by first | exact hb0s _ | exact hbs⟩) (by omega) (by assumption) (by first | assumption | (unfold Bd; simp only; omega) | (unfold Bd at *; simp only at *; omega) | (unfold Bd; simp; omega) | (unfold Bd; simp))) ?_
        simp -implicitDefEqProofs (disch := omega) only [hbs, hb0s, h1, h1d, h2, h2d, h3, h3d, aApp_nil, aApp_none, aApp_some, aApp_grw, simprocAttr, amset, tyset, Function.comp_apply, one1, lenV, calleeOf, lateOk, belowV, aop, AV.ofValue, AV.ofCell, AV.cells, AV.flat, AV.one, arep, aBin, aConv]
        repeat refine And.intro (by omega) ?_
        exact hQ _ _ (end_plain (.inl rfl) hbel (x := .int .i64 (((nx * x) + (ny * y)) + (spr (nx, ny) l))) (ret_of Try.results34 (by simp -implicitDefEqProofs (disch := omega) only [simprocAttr, amset, tyset, Function.comp_apply, one1, lenV, calleeOf, lateOk, belowV, aop, AV.ofValue, AV.ofCell, AV.cells, AV.flat, AV.one, arep, aBin, aAppend, aConv])) rfl ⟨by simp [supI, h1d, h2d, h3d], rfl⟩)
    · have h2d := h2
      try simp only [Bool.not_eq_true', Bool.not_eq_false', decide_eq_true_eq, decide_eq_false_iff_not, beq_iff_eq, bne_iff_ne, ne_eq, Bool.not_eq_true, Bool.not_eq_false, beq_eq_false_iff_ne, bne_eq_false_iff_eq, Classical.not_not, Bool.and_eq_true, Bool.and_eq_false_imp] at h2d
      simp -implicitDefEqProofs (disch := omega) only [hbs, hb0s, h1, h1d, h2, h2d, aApp_nil, aApp_none, aApp_some, aApp_grw, simprocAttr, amset, tyset, Function.comp_apply, one1, lenV, calleeOf, lateOk, belowV, aop, AV.ofValue, AV.ofCell, AV.cells, AV.flat, AV.one, arep, aBin, aConv]
      repeat refine And.intro (by omega) ?_
      exact hQ _ _ (end_plain (.inl rfl) hbel (x := .int .i64 0) (ret_of Try.results34 (by simp -implicitDefEqProofs (disch := omega) only [simprocAttr, amset, tyset, Function.comp_apply, one1, lenV, calleeOf, lateOk, belowV, aop, AV.ofValue, AV.ofCell, AV.cells, AV.flat, AV.one, arep, aBin, aAppend, aConv])) rfl ⟨by simp [supI, h1d, h2d], rfl⟩)
  · have h1d := h1
    try simp only [Bool.not_eq_true', Bool.not_eq_false', decide_eq_true_eq, decide_eq_false_iff_not, beq_iff_eq, bne_iff_ne, ne_eq, Bool.not_eq_true, Bool.not_eq_false, beq_eq_false_iff_ne, bne_eq_false_iff_eq, Classical.not_not, Bool.and_eq_true, Bool.and_eq_false_imp] at h1d
    simp -implicitDefEqProofs (disch := omega) only [hbs, hb0s, h1, h1d, aApp_nil, aApp_none, aApp_some, aApp_grw, simprocAttr, amset, tyset, Function.comp_apply, one1, lenV, calleeOf, lateOk, belowV, aop, AV.ofValue, AV.ofCell, AV.cells, AV.flat, AV.one, arep, aBin, aConv]
    repeat refine And.intro (by omega) ?_
    exact hQ _ _ (end_plain (.inl rfl) hbel (x := .int .i64 0) (ret_of Try.results34 (by simp -implicitDefEqProofs (disch := omega) only [simprocAttr, amset, tyset, Function.comp_apply, one1, lenV, calleeOf, lateOk, belowV, aop, AV.ofValue, AV.ofCell, AV.cells, AV.flat, AV.one, arep, aBin, aAppend, aConv])) rfl ⟨by simp [supI, h1d], rfl⟩)
/-- The sum of the cross products with the first ones. -/
def areaR (g : Pt) : List Pt → Int
  | [] => 0
  | h :: l => absI (crs g h) + areaR g l
theorem gpb {M : Int} {l : List Pt} (h : ∀ e ∈ l, Bd M e) {i : Nat} (hi : i < l.length) : -M ≤ g1 l i ∧ g1 l i ≤ M ∧ -M ≤ g2 l i ∧ g2 l i ≤ M := by
  have := h l[i] (List.getElem_mem hi)
  rw [← gp_eq hi] at this
  exact this
def areaS : List Pt → List Pt → Int
  | _, [] => 0
  | p, g :: l => areaR g p + areaS (p ++ [g]) l
theorem areaR_app (g : Pt) : ∀ l m : List Pt, areaR g (l ++ m) = areaR g l + areaR g m
  | [], m => by simp [areaR]
  | h :: l, m => by simp only [List.cons_append, areaR, areaR_app g l m]; omega
theorem areaS_app : ∀ (p l : List Pt) (g : Pt), areaS p (l ++ [g]) = areaS p l + areaR g (p ++ l)
  | p, [], g => by simp [areaS]
  | p, h :: l, g => by simp only [List.cons_append, areaS, areaS_app (p ++ [h]) l g, List.append_assoc, List.nil_append]; omega
theorem areaR_bd {g : Pt} (hg : Bd 65536 g) : ∀ l : List Pt, (∀ e ∈ l, Bd 65536 e) → 0 ≤ areaR g l ∧ areaR g l ≤ l.length * 8589934592
  | [], _ => by simp [areaR]
  | h :: l, hB => by
    have ih := areaR_bd hg l fun e he => hB e (by simp [he])
    have hc := crs_bd hg (hB h (by simp))
    have ha := absI_bd (x := crs g h) (M := 8589934592) (by unfold crs; omega)
    simp only [areaR, List.length_cons, Int.natCast_add]
    omega
theorem areaS_bd : ∀ (l p : List Pt), (∀ e ∈ l, Bd 65536 e) → (∀ e ∈ p, Bd 65536 e) → p.length + l.length ≤ 16 → 0 ≤ areaS p l ∧ areaS p l ≤ l.length * 137438953472
  | [], p, _, _, _ => by simp [areaS]
  | g :: l, p, hl, hp, hn => by
    simp only [List.length_cons] at hn
    have ih := areaS_bd l (p ++ [g]) (fun e he => hl e (by simp [he])) (fun e he => by rcases List.mem_append.1 he with h | h; exact hp e h; simp at h; subst h; exact hl _ (by simp)) (by simp; omega)
    have h1 := areaR_bd (hl g (by simp)) p hp
    simp only [areaS, List.length_cons, Int.natCast_add]
    omega
set_option maxHeartbeats 4000000 in
set_option maxRecDepth 100000 in
theorem area_c (H : AHeap) (x : Int) (y : Int) (s : AV) (l : List (Int × Int)) (hs : Sl H 2 s l.length (prs l)) : ACalls Try.prog 22 [.agg [.int .i64 x, .int .i64 y, s]] H (fun v H' => v = .int .i64 (if validB x y l = true then areaS [] l else 0) ∧ H' = H) := by
  obtain ⟨bs, os, cs, rfl, hbs⟩ := hs
  have hbls := getElem?_lt hbs
  have hb0s := fun l => get_app (l := l) hbs
  (refine ACalls_run try_mixed Try.func22 true _ rfl (Nat.le_of_ble_eq_true (by kernel_rfl)) (by kernel_rfl) ?_; intro hbel Q hQ hQ' c hc; unfold Try.f22 at hc; simp only [Option.some.injEq] at hc; subst hc; clear hQ')
  simp -implicitDefEqProofs (disch := omega) only [hbs, hb0s, aApp_nil, aApp_none, aApp_some, aApp_grw, simprocAttr, amset, tyset, Function.comp_apply, one1, lenV, calleeOf, lateOk, belowV, aop, AV.ofValue, AV.ofCell, AV.cells, AV.flat, AV.one, arep, aBin, aConv]
  repeat refine And.intro (by omega) ?_
  refine call_v (by kernel_rfl) (valid_c _ x y _ l (.inr ⟨_, _, _, rfl, by first | exact hb0s _ | exact hbs⟩)) ?_
  simp -implicitDefEqProofs (disch := omega) only [hbs, hb0s, aApp_nil, aApp_none, aApp_some, aApp_grw, simprocAttr, amset, tyset, Function.comp_apply, one1, lenV, calleeOf, lateOk, belowV, aop, AV.ofValue, AV.ofCell, AV.cells, AV.flat, AV.one, arep, aBin, aConv]
  repeat refine And.intro (by omega) ?_
  refine cond_split (fun h1 => ?_) (fun h1 => ?_)
  · have h1d := h1
    try simp only [Bool.not_eq_true', Bool.not_eq_false', decide_eq_true_eq, decide_eq_false_iff_not, beq_iff_eq, bne_iff_ne, ne_eq, Bool.not_eq_true, Bool.not_eq_false, beq_eq_false_iff_ne, bne_eq_false_iff_eq, Classical.not_not, Bool.and_eq_true, Bool.and_eq_false_imp] at h1d
    simp -implicitDefEqProofs (disch := omega) only [hbs, hb0s, h1, h1d, aApp_nil, aApp_none, aApp_some, aApp_grw, simprocAttr, amset, tyset, Function.comp_apply, one1, lenV, calleeOf, lateOk, belowV, aop, AV.ofValue, AV.ofCell, AV.cells, AV.flat, AV.one, arep, aBin, aConv]
    repeat refine And.intro (by omega) ?_
    exact hQ _ _ (end_plain (.inl rfl) hbel (x := .int .i64 0) (ret_of Try.results22 (by simp -implicitDefEqProofs (disch := omega) only [simprocAttr, amset, tyset, Function.comp_apply, one1, lenV, calleeOf, lateOk, belowV, aop, AV.ofValue, AV.ofCell, AV.cells, AV.flat, AV.one, arep, aBin, aAppend, aConv])) rfl ⟨by simp [h1d], rfl⟩)
  · have h1d := h1
    try simp only [Bool.not_eq_true', Bool.not_eq_false', decide_eq_true_eq, decide_eq_false_iff_not, beq_iff_eq, bne_iff_ne, ne_eq, Bool.not_eq_true, Bool.not_eq_false, beq_eq_false_iff_ne, bne_eq_false_iff_eq, Classical.not_not, Bool.and_eq_true, Bool.and_eq_false_imp] at h1d
    obtain ⟨hl16, hlB⟩ := valid_bd h1d
    have hxy := valid_bd3 h1d
    have hB2 : ∀ e ∈ l, Bd 268435456 e := fun e he => by have := hlB e he; unfold Bd at *; omega
    have hB4 : ∀ e ∈ l, Bd 4194304 e := fun e he => by have := hlB e he; unfold Bd at *; omega
    simp -implicitDefEqProofs (disch := omega) only [hbs, hb0s, h1, h1d, aApp_nil, aApp_none, aApp_some, aApp_grw, simprocAttr, amset, tyset, Function.comp_apply, one1, lenV, calleeOf, lateOk, belowV, aop, AV.ofValue, AV.ofCell, AV.cells, AV.flat, AV.one, arep, aBin, aConv]
    repeat refine And.intro (by omega) ?_
    refine go_loop try_mixed (by kernel_rfl) (fun k F Hx => ∃ i : Nat, i + k = l.length ∧ F = [(1, .ptr (some (H.length, 0))), (3, .int .i64 (areaS [] (l.take i))), (12, .sl (some (bs, 0)) l.length cs), (13, .int .i64 ((l.length : Nat) : Int)), (14, .int .i64 ((i : Nat) : Int))] ∧ Hx = H ++ [.cells true 0 [.int .i64 x, .int .i64 y, .sl (some (bs, 0)) l.length cs]]) (l.length) ?_ ?_
    · refine ⟨_, _, _, ⟨0, by omega, rfl, rfl⟩, Abs.byG hbel [] rfl [0] (by decide) ?_⟩
      simp -implicitDefEqProofs (disch := omega) only [W_nil0, W_nil1, W_cap', Wc_nil0, Wc_nil1, Wc_cap', absF, absH, W_refl', W_any', W_agg, W_tup, Ws_cons, Ws_refl', Wc_refl', Wcs_cons, Wcs_nil, look, List.cons_append, List.nil_append, List.append_nil, List.length_cons, List.length_nil, Nat.zero_add, Nat.reduceAdd, AV.mv, AV.mvs, ABlk.mv, sig_new0, sig_newk, sig_lt, List.getElem?_cons_zero, List.getElem?_cons_succ, mvs_ints, mvs_bools, mvs_prs, mvs_append, cond_true, cond_false, beq_self_eq_true, Nat.reduceBEq, true_and, and_true, or_true, true_or, and_self, decide_true, Nat.add_zero, reduceCtorEq, false_or, or_false]
      repeat' (first | exact True.intro | exact Nat.add_lt_add_left (by decide) _ | exact Nat.lt_add_of_pos_right (by decide) | refine W_nils ?_ (Or.inr rfl) | refine W_nils ?_ (Or.inl rfl) | refine Wc_nils ?_ (Or.inr rfl) | refine Wc_nils ?_ (Or.inl rfl) | exact W_cap | rfl | refine And.intro ?_ ?_ | exact Or.inl rfl | exact Or.inr rfl | exact Or.inr (Or.inl rfl) | exact Or.inr (Or.inr BW.emp) | exact Or.inr BW.emp | exact BW.emp | exact Or.inr (Or.inr BW.pre) | exact Or.inr BW.pre | exact BW.pre | refine Or.inr (BW.cells ?_) | refine BW.cells ?_ | refine Or.inr (Or.inr (BW.cells ?_)) | exact Wc_cap)
    · rintro k0 F Hx ⟨i, hm0, rfl, rfl⟩ J0 hJ0
      simp -implicitDefEqProofs (disch := omega) only [hbs, hb0s, h1, h1d, aApp_nil, aApp_none, aApp_some, aApp_grw, simprocAttr, amset, tyset, Function.comp_apply, one1, lenV, calleeOf, lateOk, belowV, aop, AV.ofValue, AV.ofCell, AV.cells, AV.flat, AV.one, arep, aBin, aConv]
      repeat refine And.intro (by omega) ?_
      refine cond_split (fun h2 => ?_) (fun h2 => ?_)
      · have h2d := h2
        try simp only [Bool.not_eq_true', Bool.not_eq_false', decide_eq_true_eq, decide_eq_false_iff_not, beq_iff_eq, bne_iff_ne, ne_eq, Bool.not_eq_true, Bool.not_eq_false, beq_eq_false_iff_ne, bne_eq_false_iff_eq, Classical.not_not, Bool.and_eq_true, Bool.and_eq_false_imp] at h2d
        have hgi := gpb (i := i) hlB (by omega)
        have hst : areaS [] (l.take (i + 1)) = areaS [] (l.take i) + areaR (g1 l i, g2 l i) (l.take i) := by rw [List.take_succ_eq_append_getElem (by omega), areaS_app, List.nil_append, ← gp_eq (by omega)]; rfl
        have hsb := areaS_bd (l.take i) [] (fun e he => hlB e (List.mem_of_mem_take he)) (by simp) (by rw [List.length_take]; simp; omega)
        rw [List.length_take] at hsb
        have q3 := prs_load (l := l) (j := i) (by omega)
        simp -implicitDefEqProofs (disch := omega) only [hbs, hb0s, h1, h1d, h2, h2d, q3, aApp_nil, aApp_none, aApp_some, aApp_grw, simprocAttr, amset, tyset, Function.comp_apply, one1, lenV, calleeOf, lateOk, belowV, aop, AV.ofValue, AV.ofCell, AV.cells, AV.flat, AV.one, arep, aBin, aConv]
        repeat refine And.intro (by omega) ?_
        refine go_loop try_mixed (by kernel_rfl) (fun k F Hx => ∃ j : Nat, j + k = i ∧ F = [(1, .ptr (some (H.length, 0))), (3, .int .i64 (areaS [] (l.take i) + areaR (g1 l i, g2 l i) (l.take j))), (5, .ptr (some (H.length + 1, 0))), (12, .sl (some (bs, 0)) l.length cs), (13, .int .i64 ((l.length : Nat) : Int)), (14, .int .i64 ((i : Nat) : Int)), (22, .sl (some (bs, 0)) i none), (23, .int .i64 ((i : Nat) : Int)), (24, .int .i64 ((j : Nat) : Int))] ∧ Hx = H ++ [.cells true 0 [.int .i64 x, .int .i64 y, .sl (some (bs, 0)) l.length cs], .cells true 0 [.int .i64 (g1 l i), .int .i64 (g2 l i)]]) (i) ?_ ?_
        · refine ⟨_, _, _, ⟨0, by omega, rfl, rfl⟩, Abs.byG hbel [] rfl [0, 1] (by decide) ?_⟩
          simp -implicitDefEqProofs (disch := omega) only [List.take_zero, areaR.eq_1, Int.add_zero, W_nil0, W_nil1, W_cap', Wc_nil0, Wc_nil1, Wc_cap', absF, absH, W_refl', W_any', W_agg, W_tup, Ws_cons, Ws_refl', Wc_refl', Wcs_cons, Wcs_nil, look, List.cons_append, List.nil_append, List.append_nil, List.length_cons, List.length_nil, Nat.zero_add, Nat.reduceAdd, AV.mv, AV.mvs, ABlk.mv, sig_new0, sig_newk, sig_lt, List.getElem?_cons_zero, List.getElem?_cons_succ, mvs_ints, mvs_bools, mvs_prs, mvs_append, cond_true, cond_false, beq_self_eq_true, Nat.reduceBEq, true_and, and_true, or_true, true_or, and_self, decide_true, Nat.add_zero, reduceCtorEq, false_or, or_false]
          repeat' (first | exact True.intro | exact Nat.add_lt_add_left (by decide) _ | exact Nat.lt_add_of_pos_right (by decide) | refine W_nils ?_ (Or.inr rfl) | refine W_nils ?_ (Or.inl rfl) | refine Wc_nils ?_ (Or.inr rfl) | refine Wc_nils ?_ (Or.inl rfl) | exact W_cap | rfl | refine And.intro ?_ ?_ | exact Or.inl rfl | exact Or.inr rfl | exact Or.inr (Or.inl rfl) | exact Or.inr (Or.inr BW.emp) | exact Or.inr BW.emp | exact BW.emp | exact Or.inr (Or.inr BW.pre) | exact Or.inr BW.pre | exact BW.pre | refine Or.inr (BW.cells ?_) | refine BW.cells ?_ | refine Or.inr (Or.inr (BW.cells ?_)) | exact Wc_cap)
        · rintro k1 F Hx ⟨j, hm1, rfl, rfl⟩ J1 hJ1
          simp -implicitDefEqProofs (disch := omega) only [hbs, hb0s, h1, h1d, h2, h2d, q3, aApp_nil, aApp_none, aApp_some, aApp_grw, simprocAttr, amset, tyset, Function.comp_apply, one1, lenV, calleeOf, lateOk, belowV, aop, AV.ofValue, AV.ofCell, AV.cells, AV.flat, AV.one, arep, aBin, aConv]
          repeat refine And.intro (by omega) ?_
          refine cond_split (fun h4 => ?_) (fun h4 => ?_)
          · have h4d := h4
            try simp only [Bool.not_eq_true', Bool.not_eq_false', decide_eq_true_eq, decide_eq_false_iff_not, beq_iff_eq, bne_iff_ne, ne_eq, Bool.not_eq_true, Bool.not_eq_false, beq_eq_false_iff_ne, bne_eq_false_iff_eq, Classical.not_not, Bool.and_eq_true, Bool.and_eq_false_imp] at h4d
            have hgj := gpb (i := j) hlB (by omega)
            have hst2 : areaR (g1 l i, g2 l i) (l.take (j + 1)) = areaR (g1 l i, g2 l i) (l.take j) + absI (crs (g1 l i, g2 l i) (g1 l j, g2 l j)) := by rw [List.take_succ_eq_append_getElem (by omega), areaR_app, ← gp_eq (i := j) (by omega)]; simp [areaR, gp]
            have hrb := areaR_bd (g := (g1 l i, g2 l i)) hgi (l.take j) (fun e he => hlB e (List.mem_of_mem_take he))
            rw [List.length_take] at hrb
            have hcr := crs_bd (a := (g1 l i, g2 l i)) (b := (g1 l j, g2 l j)) (A := 65536) (B := 65536) hgi hgj
            have hcr2 : -8589934592 ≤ crs (g1 l i, g2 l i) (g1 l j, g2 l j) ∧ crs (g1 l i, g2 l i) (g1 l j, g2 l j) ≤ 8589934592 := by unfold crs; omega
            have hab := absI_bd hcr2
            have q5 := prs_load (l := l) (j := j) (by omega)
            simp -implicitDefEqProofs (disch := omega) only [hbs, hb0s, h1, h1d, h2, h2d, q3, h4, h4d, q5, aApp_nil, aApp_none, aApp_some, aApp_grw, simprocAttr, amset, tyset, Function.comp_apply, one1, lenV, calleeOf, lateOk, belowV, aop, AV.ofValue, AV.ofCell, AV.cells, AV.flat, AV.one, arep, aBin, aConv]
            repeat refine And.intro (by omega) ?_
            refine call_v (by kernel_rfl) (cross_c _ (g1 l i, g2 l i) (g1 l j, g2 l j) (by first | assumption | (unfold Bd; simp only; omega) | (unfold Bd at *; simp only at *; omega) | (unfold Bd; simp; omega) | (unfold Bd; simp)) (by first | assumption | (unfold Bd; simp only; omega) | (unfold Bd at *; simp only at *; omega) | (unfold Bd; simp; omega) | (unfold Bd; simp))) ?_
            simp -implicitDefEqProofs (disch := omega) only [hbs, hb0s, h1, h1d, h2, h2d, q3, h4, h4d, q5, aApp_nil, aApp_none, aApp_some, aApp_grw, simprocAttr, amset, tyset, Function.comp_apply, one1, lenV, calleeOf, lateOk, belowV, aop, AV.ofValue, AV.ofCell, AV.cells, AV.flat, AV.one, arep, aBin, aConv]
            repeat refine And.intro (by omega) ?_
            refine call_v (by kernel_rfl) (abs_c _ _ (by omega)) ?_
            simp -implicitDefEqProofs (disch := omega) only [hbs, hb0s, h1, h1d, h2, h2d, q3, h4, h4d, q5, aApp_nil, aApp_none, aApp_some, aApp_grw, simprocAttr, amset, tyset, Function.comp_apply, one1, lenV, calleeOf, lateOk, belowV, aop, AV.ofValue, AV.ofCell, AV.cells, AV.flat, AV.one, arep, aBin, aConv]
            repeat refine And.intro (by omega) ?_
            refine hJ1 _ _ ⟨k1 - 1, by omega, _, _, _, ⟨j + 1, by omega, rfl, rfl⟩, Abs.byG hbel [] rfl [0, 1] (by decide) ?_⟩
            simp -implicitDefEqProofs (disch := omega) only [hst2, Int.add_assoc, W_nil0, W_nil1, W_cap', Wc_nil0, Wc_nil1, Wc_cap', absF, absH, W_refl', W_any', W_agg, W_tup, Ws_cons, Ws_refl', Wc_refl', Wcs_cons, Wcs_nil, look, List.cons_append, List.nil_append, List.append_nil, List.length_cons, List.length_nil, Nat.zero_add, Nat.reduceAdd, AV.mv, AV.mvs, ABlk.mv, sig_new0, sig_newk, sig_lt, List.getElem?_cons_zero, List.getElem?_cons_succ, mvs_ints, mvs_bools, mvs_prs, mvs_append, cond_true, cond_false, beq_self_eq_true, Nat.reduceBEq, true_and, and_true, or_true, true_or, and_self, decide_true, Nat.add_zero, reduceCtorEq, false_or, or_false]
            repeat' (first | exact True.intro | exact Nat.add_lt_add_left (by decide) _ | exact Nat.lt_add_of_pos_right (by decide) | refine W_nils ?_ (Or.inr rfl) | refine W_nils ?_ (Or.inl rfl) | refine Wc_nils ?_ (Or.inr rfl) | refine Wc_nils ?_ (Or.inl rfl) | exact W_cap | rfl | refine And.intro ?_ ?_ | exact Or.inl rfl | exact Or.inr rfl | exact Or.inr (Or.inl rfl) | exact Or.inr (Or.inr BW.emp) | exact Or.inr BW.emp | exact BW.emp | exact Or.inr (Or.inr BW.pre) | exact Or.inr BW.pre | exact BW.pre | refine Or.inr (BW.cells ?_) | refine BW.cells ?_ | refine Or.inr (Or.inr (BW.cells ?_)) | exact Wc_cap)
          · have h4d := h4
            try simp only [Bool.not_eq_true', Bool.not_eq_false', decide_eq_true_eq, decide_eq_false_iff_not, beq_iff_eq, bne_iff_ne, ne_eq, Bool.not_eq_true, Bool.not_eq_false, beq_eq_false_iff_ne, bne_eq_false_iff_eq, Classical.not_not, Bool.and_eq_true, Bool.and_eq_false_imp] at h4d
            obtain rfl : i = j := by omega
            have hz := hst
            simp -implicitDefEqProofs (disch := omega) only [hbs, hb0s, h1, h1d, h2, h2d, q3, h4, h4d, aApp_nil, aApp_none, aApp_some, aApp_grw, simprocAttr, amset, tyset, Function.comp_apply, one1, lenV, calleeOf, lateOk, belowV, aop, AV.ofValue, AV.ofCell, AV.cells, AV.flat, AV.one, arep, aBin, aConv]
            repeat refine And.intro (by omega) ?_
            refine hJ0 _ _ ⟨k0 - 1, by omega, _, _, _, ⟨i + 1, by omega, rfl, rfl⟩, Abs.byG hbel [] rfl [0] (by decide) ?_⟩
            simp -implicitDefEqProofs (disch := omega) only [hst, hz, W_nil0, W_nil1, W_cap', Wc_nil0, Wc_nil1, Wc_cap', absF, absH, W_refl', W_any', W_agg, W_tup, Ws_cons, Ws_refl', Wc_refl', Wcs_cons, Wcs_nil, look, List.cons_append, List.nil_append, List.append_nil, List.length_cons, List.length_nil, Nat.zero_add, Nat.reduceAdd, AV.mv, AV.mvs, ABlk.mv, sig_new0, sig_newk, sig_lt, List.getElem?_cons_zero, List.getElem?_cons_succ, mvs_ints, mvs_bools, mvs_prs, mvs_append, cond_true, cond_false, beq_self_eq_true, Nat.reduceBEq, true_and, and_true, or_true, true_or, and_self, decide_true, Nat.add_zero, reduceCtorEq, false_or, or_false]
            repeat' (first | exact True.intro | exact Nat.add_lt_add_left (by decide) _ | exact Nat.lt_add_of_pos_right (by decide) | refine W_nils ?_ (Or.inr rfl) | refine W_nils ?_ (Or.inl rfl) | refine Wc_nils ?_ (Or.inr rfl) | refine Wc_nils ?_ (Or.inl rfl) | exact W_cap | rfl | refine And.intro ?_ ?_ | exact Or.inl rfl | exact Or.inr rfl | exact Or.inr (Or.inl rfl) | exact Or.inr (Or.inr BW.emp) | exact Or.inr BW.emp | exact BW.emp | exact Or.inr (Or.inr BW.pre) | exact Or.inr BW.pre | exact BW.pre | refine Or.inr (BW.cells ?_) | refine BW.cells ?_ | refine Or.inr (Or.inr (BW.cells ?_)) | exact Wc_cap)
      · have h2d := h2
        try simp only [Bool.not_eq_true', Bool.not_eq_false', decide_eq_true_eq, decide_eq_false_iff_not, beq_iff_eq, bne_iff_ne, ne_eq, Bool.not_eq_true, Bool.not_eq_false, beq_eq_false_iff_ne, bne_eq_false_iff_eq, Classical.not_not, Bool.and_eq_true, Bool.and_eq_false_imp] at h2d
        have hfin : l.take i = l := List.take_of_length_le (by omega)
        simp -implicitDefEqProofs (disch := omega) only [hbs, hb0s, h1, h1d, h2, h2d, aApp_nil, aApp_none, aApp_some, aApp_grw, simprocAttr, amset, tyset, Function.comp_apply, one1, lenV, calleeOf, lateOk, belowV, aop, AV.ofValue, AV.ofCell, AV.cells, AV.flat, AV.one, arep, aBin, aConv]
        repeat refine And.intro (by omega) ?_
        exact hQ _ _ (end_plain (.inl rfl) hbel (x := .int .i64 (areaS [] (l.take i))) (ret_of Try.results22 (by simp -implicitDefEqProofs (disch := omega) only [simprocAttr, amset, tyset, Function.comp_apply, one1, lenV, calleeOf, lateOk, belowV, aop, AV.ofValue, AV.ofCell, AV.cells, AV.flat, AV.one, arep, aBin, aAppend, aConv])) rfl ⟨by simp [h1d, h2d, hfin], rfl⟩)
end Go.Proofs.Ytjfnbcifafmefaa

/- The directions in which a zonogon and a point are tried. Conditions: as each theorem states. -/
namespace Go.Proofs.Ytjfnbcifafmefaa
set_option linter.unusedSimpArgs false
set_option linter.unusedVariables false
open Go.RowKit
/-- The directions that are tried. -/
def nrmls (L : List Pt) : List Pt := [(1, 0), (0, 1)] ++ L.flatMap fun g => [(0 - g.2, g.1), g]
/-- A direction in which d is beyond the sum. -/
def beyond (L : List Pt) (d n : Pt) : Bool := decide (spr n L < absI (dotP n d))
def apartB (x y : Int) (l : List Pt) (x0 y0 x1 y1 : Int) : Bool :=
  validB x y l && (far4 x0 y0 x1 y1 && decide (x0 ≤ x1 ∧ y0 ≤ y1) && (nrmls (canonL (l ++ [(x1 - x0, 0), (0, y1 - y0)]))).any (beyond (canonL (l ++ [(x1 - x0, 0), (0, y1 - y0)])) (x0 + x1 - x, y0 + y1 - y)))
theorem nrmls_step {L : List Pt} {i : Nat} (h : i < L.length) : nrmls (L.take (i + 1)) = nrmls (L.take i) ++ [(0 - g2 L i, g1 L i), (g1 L i, g2 L i)] := by
  unfold nrmls
  rw [List.take_succ_eq_append_getElem h, List.flatMap_append, ← gp_eq h, List.append_assoc]
  simp [gp]
theorem prs_snoc2 {l : List Pt} {a b c d : Int} : prs l ++ [.int .i64 a, .int .i64 b, .int .i64 c, .int .i64 d] = prs (l ++ [(a, b), (c, d)]) := by rw [prs_append]; rfl
theorem nrmls_len (L : List Pt) : (nrmls L).length = 2 + 2 * L.length := by
  unfold nrmls
  rw [List.length_append]
  have : ∀ l : List Pt, (l.flatMap fun g => [(0 - g.2, g.1), g]).length = 2 * l.length := fun l => by
    induction l with
    | nil => rfl
    | cons g l ih => rw [List.flatMap_cons, List.length_append, ih]; simp; omega
  rw [this]; rfl
theorem nrmls_bd {M : Int} (hM : 1 ≤ M) {L : List Pt} (h : ∀ e ∈ L, Bd M e) : ∀ e ∈ nrmls L, Bd M e := fun e he => by
  unfold nrmls at he
  simp only [List.mem_append, List.mem_cons, List.not_mem_nil, or_false, List.mem_flatMap] at he
  rcases he with (rfl | rfl) | ⟨g, hg, rfl | rfl⟩
  · unfold Bd; simp only; omega
  · unfold Bd; simp only; omega
  · have := h g hg; unfold Bd at *; simp only; omega
  · exact h _ hg
theorem any_gp {p : Pt → Bool} {N : List Pt} {j : Nat} (hj : j < N.length) (h : p (gp N j) = true) : N.any p = true := List.any_eq_true.2 ⟨N[j], List.getElem_mem hj, by rw [← gp_eq hj]; exact h⟩
theorem nrmls_nil : nrmls [] = [(1, 0), (0, 1)] := rfl
theorem canon_bd16 {l : List Pt} (hl : l.length ≤ 16) (hB : ∀ e ∈ l, Bd 65536 e) : ∀ e ∈ canonL l, Bd 1048576 e := fun e he => by
  have := canonL_bd (M := 65536) (by decide) hB e he
  have h40 : ((l.length : Nat) : Int) * 65536 ≤ 16 * 65536 := Int.mul_le_mul_of_nonneg_right (by omega) (by decide)
  unfold Bd at *; omega
end Go.Proofs.Ytjfnbcifafmefaa

/- Walks by the abstract machine: Has. Conditions: as each theorem states. -/
namespace Go.Proofs.Ytjfnbcifafmefaa
set_option linter.unusedSimpArgs false
set_option linter.unusedVariables false
open Go.RowKit
/-- Whether a point is in a zonogon. -/
def hasB (x y : Int) (l : List Pt) (x2 y2 : Int) : Bool := validB x y l && (within x2 16777216 && (within y2 16777216 && !(nrmls (canonL l)).any (beyond (canonL l) (x2 - x, y2 - y))))
set_option maxHeartbeats 4000000 in
set_option maxRecDepth 100000 in
theorem has_c (H : AHeap) (x : Int) (y : Int) (s : AV) (l : List (Int × Int)) (x2 : Int) (y2 : Int) (hs : Sl H 2 s l.length (prs l)) : ACalls Try.prog 33 [.agg [.int .i64 x, .int .i64 y, s], .int .i64 x2, .int .i64 y2] H (fun v H' => v = .bool (hasB x y l x2 y2) ∧ H' = H) := by
  obtain ⟨bs, os, cs, rfl, hbs⟩ := hs
  have hbls := getElem?_lt hbs
  have hb0s := fun l => get_app (l := l) hbs
  (refine ACalls_run try_mixed Try.func33 true _ rfl (Nat.le_of_ble_eq_true (by kernel_rfl)) (by kernel_rfl) ?_; intro hbel Q hQ hQ' c hc; unfold Try.f33 at hc; simp only [Option.some.injEq] at hc; subst hc; clear hQ')
  simp -implicitDefEqProofs (disch := omega) only [hbs, hb0s, aApp_nil, aApp_none, aApp_some, aApp_grw, simprocAttr, amset, tyset, Function.comp_apply, one1, lenV, calleeOf, lateOk, belowV, aop, AV.ofValue, AV.ofCell, AV.cells, AV.flat, AV.one, arep, aBin, aConv]
  repeat refine And.intro (by omega) ?_
  refine call_v (by kernel_rfl) (valid_c _ x y _ l (.inr ⟨_, _, _, rfl, by first | exact hb0s _ | exact hbs⟩)) ?_
  simp -implicitDefEqProofs (disch := omega) only [hbs, hb0s, aApp_nil, aApp_none, aApp_some, aApp_grw, simprocAttr, amset, tyset, Function.comp_apply, one1, lenV, calleeOf, lateOk, belowV, aop, AV.ofValue, AV.ofCell, AV.cells, AV.flat, AV.one, arep, aBin, aConv]
  repeat refine And.intro (by omega) ?_
  refine gd_split (fun h1 => ?_) (fun h1 => ?_)
  · have h1d := h1
    try simp only [Bool.not_eq_true', Bool.not_eq_false', decide_eq_true_eq, decide_eq_false_iff_not, beq_iff_eq, bne_iff_ne, ne_eq, Bool.not_eq_true, Bool.not_eq_false, beq_eq_false_iff_ne, bne_eq_false_iff_eq, Classical.not_not, Bool.and_eq_true, Bool.and_eq_false_imp] at h1d
    simp -implicitDefEqProofs (disch := omega) only [hbs, hb0s, h1, h1d, aApp_nil, aApp_none, aApp_some, aApp_grw, simprocAttr, amset, tyset, Function.comp_apply, one1, lenV, calleeOf, lateOk, belowV, aop, AV.ofValue, AV.ofCell, AV.cells, AV.flat, AV.one, arep, aBin, aConv]
    repeat refine And.intro (by omega) ?_
    refine call_v (by kernel_rfl) (size_c _ _ _ (by decide)) ?_
    simp -implicitDefEqProofs (disch := omega) only [hbs, hb0s, h1, h1d, aApp_nil, aApp_none, aApp_some, aApp_grw, simprocAttr, amset, tyset, Function.comp_apply, one1, lenV, calleeOf, lateOk, belowV, aop, AV.ofValue, AV.ofCell, AV.cells, AV.flat, AV.one, arep, aBin, aConv]
    repeat refine And.intro (by omega) ?_
    refine gd_split (fun h2 => ?_) (fun h2 => ?_)
    · have h2d := h2
      try simp only [Bool.not_eq_true', Bool.not_eq_false', decide_eq_true_eq, decide_eq_false_iff_not, beq_iff_eq, bne_iff_ne, ne_eq, Bool.not_eq_true, Bool.not_eq_false, beq_eq_false_iff_ne, bne_eq_false_iff_eq, Classical.not_not, Bool.and_eq_true, Bool.and_eq_false_imp] at h2d
      simp -implicitDefEqProofs (disch := omega) only [hbs, hb0s, h1, h1d, h2, h2d, aApp_nil, aApp_none, aApp_some, aApp_grw, simprocAttr, amset, tyset, Function.comp_apply, one1, lenV, calleeOf, lateOk, belowV, aop, AV.ofValue, AV.ofCell, AV.cells, AV.flat, AV.one, arep, aBin, aConv]
      repeat refine And.intro (by omega) ?_
      refine call_v (by kernel_rfl) (size_c _ _ _ (by decide)) ?_
      simp -implicitDefEqProofs (disch := omega) only [hbs, hb0s, h1, h1d, h2, h2d, aApp_nil, aApp_none, aApp_some, aApp_grw, simprocAttr, amset, tyset, Function.comp_apply, one1, lenV, calleeOf, lateOk, belowV, aop, AV.ofValue, AV.ofCell, AV.cells, AV.flat, AV.one, arep, aBin, aConv]
      repeat refine And.intro (by omega) ?_
      refine cond_split (fun h3 => ?_) (fun h3 => ?_)
      · have h3d := h3
        try simp only [Bool.not_eq_true', Bool.not_eq_false', decide_eq_true_eq, decide_eq_false_iff_not, beq_iff_eq, bne_iff_ne, ne_eq, Bool.not_eq_true, Bool.not_eq_false, beq_eq_false_iff_ne, bne_eq_false_iff_eq, Classical.not_not, Bool.and_eq_true, Bool.and_eq_false_imp] at h3d
        simp -implicitDefEqProofs (disch := omega) only [hbs, hb0s, h1, h1d, h2, h2d, h3, h3d, aApp_nil, aApp_none, aApp_some, aApp_grw, simprocAttr, amset, tyset, Function.comp_apply, one1, lenV, calleeOf, lateOk, belowV, aop, AV.ofValue, AV.ofCell, AV.cells, AV.flat, AV.one, arep, aBin, aConv]
        repeat refine And.intro (by omega) ?_
        exact hQ _ _ (end_plain (.inl rfl) hbel (x := .bool false) (ret_of Try.results33 (by simp -implicitDefEqProofs (disch := omega) only [simprocAttr, amset, tyset, Function.comp_apply, one1, lenV, calleeOf, lateOk, belowV, aop, AV.ofValue, AV.ofCell, AV.cells, AV.flat, AV.one, arep, aBin, aAppend, aConv])) rfl ⟨by simp [hasB, h1d, h2d, h3d], rfl⟩)
      · have h3d := h3
        try simp only [Bool.not_eq_true', Bool.not_eq_false', decide_eq_true_eq, decide_eq_false_iff_not, beq_iff_eq, bne_iff_ne, ne_eq, Bool.not_eq_true, Bool.not_eq_false, beq_eq_false_iff_ne, bne_eq_false_iff_eq, Classical.not_not, Bool.and_eq_true, Bool.and_eq_false_imp] at h3d
        simp -implicitDefEqProofs (disch := omega) only [hbs, hb0s, h1, h1d, h2, h2d, h3, h3d, aApp_nil, aApp_none, aApp_some, aApp_grw, simprocAttr, amset, tyset, Function.comp_apply, one1, lenV, calleeOf, lateOk, belowV, aop, AV.ofValue, AV.ofCell, AV.cells, AV.flat, AV.one, arep, aBin, aConv]
        repeat refine And.intro (by omega) ?_
        obtain ⟨hl16, hlB⟩ := valid_bd h1d
        have hxy := valid_bd3 h1d
        have hB2 : ∀ e ∈ l, Bd 268435456 e := fun e he => by have := hlB e he; unfold Bd at *; omega
        have hB4 : ∀ e ∈ l, Bd 4194304 e := fun e he => by have := hlB e he; unfold Bd at *; omega
        have w2 := h2d
        have w3 := h3d
        simp only [within_iff] at w2 w3
        have hcb := canon_bd16 hl16 hlB
        have hcl := canonL_len l
        have hc28 : ∀ e ∈ canonL l, Bd 268435456 e := fun e he => by have := hcb e he; unfold Bd at *; omega
        have hNb := nrmls_bd (M := 1048576) (by decide) hcb
        have hNl := nrmls_len (canonL l)
        refine call_v (by kernel_rfl) (canonical_u _ x y _ l (.inr ⟨_, _, _, rfl, by first | exact hb0s _ | exact hbs⟩) (by first | omega | (simp only [List.length_cons, List.length_nil]; omega) | exact Nat.le_trans (mkL_len _ _) (by first | omega | simp) | exact Nat.le_trans (vL_len _ _) (by first | omega | simp) | exact Nat.le_trans corV_len (by omega) | exact Nat.le_trans (canonL_len _) (by first | omega | simp)) (by assumption)) ?_
        simp -implicitDefEqProofs (disch := omega) only [hbs, hb0s, h1, h1d, h2, h2d, h3, h3d, aApp_nil, aApp_none, aApp_some, aApp_grw, simprocAttr, amset, tyset, Function.comp_apply, one1, lenV, calleeOf, lateOk, belowV, aop, AV.ofValue, AV.ofCell, AV.cells, AV.flat, AV.one, arep, aBin, aConv]
        repeat refine And.intro (by omega) ?_
        refine go_loop try_mixed (by kernel_rfl) (fun k F Hx => ∃ i : Nat, i + k = (canonL l).length ∧ F = [(7, .sl (some (H.length, 0)) ((canonL l).length) (capG (canonL l).length)), (8, .ptr (some (H.length + 1, 0))), (9, .sl (some (H.length + 2, 0)) ((nrmls ((canonL l).take i)).length) (capG (nrmls ((canonL l).take i)).length)), (42, .sl (some (H.length, 0)) ((canonL l).length) (capG (canonL l).length)), (43, .int .i64 (((canonL l).length : Nat) : Int)), (44, .int .i64 ((i : Nat) : Int))] ∧ Hx = H ++ [.cells (ownG (canonL l).length) 2 (prs (canonL l)), .cells true 0 [.int .i64 (x2 - x), .int .i64 (y2 - y)], .cells (ownG (nrmls ((canonL l).take i)).length) 2 (prs (nrmls ((canonL l).take i)))]) ((canonL l).length) ?_ ?_
        · refine ⟨_, _, _, ⟨0, by omega, rfl, rfl⟩, Abs.byG hbel [] rfl [1, 2, 3] (by decide) ?_⟩
          simp -implicitDefEqProofs (disch := omega) only [List.take_zero, nrmls_nil, prs_cons, prs_nil, List.length_cons, List.length_nil, List.length_append, capG_s, ownG_s, capG_0, ownG_0, prs_append, W_nil0, W_nil1, W_cap', Wc_nil0, Wc_nil1, Wc_cap', absF, absH, W_refl', W_any', W_agg, W_tup, Ws_cons, Ws_refl', Wc_refl', Wcs_cons, Wcs_nil, look, List.cons_append, List.nil_append, List.append_nil, List.length_cons, List.length_nil, Nat.zero_add, Nat.reduceAdd, AV.mv, AV.mvs, ABlk.mv, sig_new0, sig_newk, sig_lt, List.getElem?_cons_zero, List.getElem?_cons_succ, mvs_ints, mvs_bools, mvs_prs, mvs_append, cond_true, cond_false, beq_self_eq_true, Nat.reduceBEq, true_and, and_true, or_true, true_or, and_self, decide_true, Nat.add_zero, reduceCtorEq, false_or, or_false]
          repeat' (first | exact True.intro | exact Nat.add_lt_add_left (by decide) _ | exact Nat.lt_add_of_pos_right (by decide) | refine W_nils ?_ (Or.inr rfl) | refine W_nils ?_ (Or.inl rfl) | refine Wc_nils ?_ (Or.inr rfl) | refine Wc_nils ?_ (Or.inl rfl) | exact W_cap | rfl | refine And.intro ?_ ?_ | exact Or.inl rfl | exact Or.inr rfl | exact Or.inr (Or.inl rfl) | exact Or.inr (Or.inr BW.emp) | exact Or.inr BW.emp | exact BW.emp | exact Or.inr (Or.inr BW.pre) | exact Or.inr BW.pre | exact BW.pre | refine Or.inr (BW.cells ?_) | refine BW.cells ?_ | refine Or.inr (Or.inr (BW.cells ?_)) | exact Wc_cap)
        · rintro k0 F Hx ⟨i, hm0, rfl, rfl⟩ J0 hJ0
          simp -implicitDefEqProofs (disch := omega) only [hbs, hb0s, h1, h1d, h2, h2d, h3, h3d, prs_len, prs_one, aApp_nil, aApp_none, aApp_some, aApp_grw, simprocAttr, amset, tyset, Function.comp_apply, one1, lenV, calleeOf, lateOk, belowV, aop, AV.ofValue, AV.ofCell, AV.cells, AV.flat, AV.one, arep, aBin, aConv]
          repeat refine And.intro (by omega) ?_
          refine cond_split (fun h4 => ?_) (fun h4 => ?_)
          · have h4d := h4
            try simp only [Bool.not_eq_true', Bool.not_eq_false', decide_eq_true_eq, decide_eq_false_iff_not, beq_iff_eq, bne_iff_ne, ne_eq, Bool.not_eq_true, Bool.not_eq_false, beq_eq_false_iff_ne, bne_eq_false_iff_eq, Classical.not_not, Bool.and_eq_true, Bool.and_eq_false_imp] at h4d
            have hgi := gpb (i := i) hcb (by omega)
            have hst := nrmls_step (L := canonL l) (i := i) (by omega)
            have hnl := nrmls_len ((canonL l).take i)
            rw [List.length_take] at hnl
            have q5 := prs_load (l := canonL l) (j := i) (by omega)
            simp -implicitDefEqProofs (disch := omega) only [hbs, hb0s, h1, h1d, h2, h2d, h3, h3d, prs_len, prs_one, h4, h4d, q5, capG_s, aApp_nil, aApp_none, aApp_some, aApp_grw, simprocAttr, amset, tyset, Function.comp_apply, one1, lenV, calleeOf, lateOk, belowV, aop, AV.ofValue, AV.ofCell, AV.cells, AV.flat, AV.one, arep, aBin, aConv]
            repeat refine And.intro (by omega) ?_
            refine hJ0 _ _ ⟨k0 - 1, by omega, _, _, _, ⟨i + 1, by omega, rfl, rfl⟩, Abs.byG hbel [] rfl [0, 1, 5] (by decide) ?_⟩
            simp -implicitDefEqProofs (disch := omega) only [hst, Int.zero_sub, List.length_append, List.length_cons, List.length_nil, capG_s, ownG_s, capG_0, ownG_0, prs_append, prs_cons, prs_nil, W_nil0, W_nil1, W_cap', Wc_nil0, Wc_nil1, Wc_cap', absF, absH, W_refl', W_any', W_agg, W_tup, Ws_cons, Ws_refl', Wc_refl', Wcs_cons, Wcs_nil, look, List.cons_append, List.nil_append, List.append_nil, List.length_cons, List.length_nil, Nat.zero_add, Nat.reduceAdd, AV.mv, AV.mvs, ABlk.mv, sig_new0, sig_newk, sig_lt, List.getElem?_cons_zero, List.getElem?_cons_succ, mvs_ints, mvs_bools, mvs_prs, mvs_append, cond_true, cond_false, beq_self_eq_true, Nat.reduceBEq, true_and, and_true, or_true, true_or, and_self, decide_true, Nat.add_zero, reduceCtorEq, false_or, or_false]
            repeat' (first | exact True.intro | exact Nat.add_lt_add_left (by decide) _ | exact Nat.lt_add_of_pos_right (by decide) | refine W_nils ?_ (Or.inr rfl) | refine W_nils ?_ (Or.inl rfl) | refine Wc_nils ?_ (Or.inr rfl) | refine Wc_nils ?_ (Or.inl rfl) | exact W_cap | rfl | refine And.intro ?_ ?_ | exact Or.inl rfl | exact Or.inr rfl | exact Or.inr (Or.inl rfl) | exact Or.inr (Or.inr BW.emp) | exact Or.inr BW.emp | exact BW.emp | exact Or.inr (Or.inr BW.pre) | exact Or.inr BW.pre | exact BW.pre | refine Or.inr (BW.cells ?_) | refine BW.cells ?_ | refine Or.inr (Or.inr (BW.cells ?_)) | exact Wc_cap)
          · have h4d := h4
            try simp only [Bool.not_eq_true', Bool.not_eq_false', decide_eq_true_eq, decide_eq_false_iff_not, beq_iff_eq, bne_iff_ne, ne_eq, Bool.not_eq_true, Bool.not_eq_false, beq_eq_false_iff_ne, bne_eq_false_iff_eq, Classical.not_not, Bool.and_eq_true, Bool.and_eq_false_imp] at h4d
            have hfinT : (canonL l).take i = canonL l := List.take_of_length_le (by omega)
            simp -implicitDefEqProofs (disch := omega) only [hbs, hb0s, h1, h1d, h2, h2d, h3, h3d, prs_len, prs_one, h4, h4d, aApp_nil, aApp_none, aApp_some, aApp_grw, simprocAttr, amset, tyset, Function.comp_apply, one1, lenV, calleeOf, lateOk, belowV, aop, AV.ofValue, AV.ofCell, AV.cells, AV.flat, AV.one, arep, aBin, aConv]
            repeat refine And.intro (by omega) ?_
            refine go_loop try_mixed (by kernel_rfl) (fun k F Hx => ∃ j : Nat, j + k = (nrmls (canonL l)).length ∧ ((nrmls (canonL l)).take j).any (beyond (canonL l) (x2 - x, y2 - y)) = false ∧ F = [(7, .sl (some (H.length, 0)) ((canonL l).length) (capG (canonL l).length)), (8, .ptr (some (H.length + 1, 0))), (59, .sl (some (H.length + 2, 0)) ((nrmls (canonL l)).length) (capG (nrmls (canonL l)).length)), (60, .int .i64 (((nrmls (canonL l)).length : Nat) : Int)), (61, .int .i64 ((j : Nat) : Int))] ∧ Hx = H ++ [.cells (ownG (canonL l).length) 2 (prs (canonL l)), .cells true 0 [.int .i64 (x2 - x), .int .i64 (y2 - y)], .cells (ownG (nrmls (canonL l)).length) 2 (prs (nrmls (canonL l)))]) ((nrmls (canonL l)).length) ?_ ?_
            · refine ⟨_, _, _, ⟨0, by omega, by simp, rfl, rfl⟩, Abs.byG hbel [] rfl [0, 1, 2] (by decide) ?_⟩
              simp -implicitDefEqProofs (disch := omega) only [hfinT, List.length_append, List.length_cons, List.length_nil, capG_s, ownG_s, capG_0, ownG_0, prs_append, prs_cons, prs_nil, W_nil0, W_nil1, W_cap', Wc_nil0, Wc_nil1, Wc_cap', absF, absH, W_refl', W_any', W_agg, W_tup, Ws_cons, Ws_refl', Wc_refl', Wcs_cons, Wcs_nil, look, List.cons_append, List.nil_append, List.append_nil, List.length_cons, List.length_nil, Nat.zero_add, Nat.reduceAdd, AV.mv, AV.mvs, ABlk.mv, sig_new0, sig_newk, sig_lt, List.getElem?_cons_zero, List.getElem?_cons_succ, mvs_ints, mvs_bools, mvs_prs, mvs_append, cond_true, cond_false, beq_self_eq_true, Nat.reduceBEq, true_and, and_true, or_true, true_or, and_self, decide_true, Nat.add_zero, reduceCtorEq, false_or, or_false]
              repeat' (first | exact True.intro | exact Nat.add_lt_add_left (by decide) _ | exact Nat.lt_add_of_pos_right (by decide) | refine W_nils ?_ (Or.inr rfl) | refine W_nils ?_ (Or.inl rfl) | refine Wc_nils ?_ (Or.inr rfl) | refine Wc_nils ?_ (Or.inl rfl) | exact W_cap | rfl | refine And.intro ?_ ?_ | exact Or.inl rfl | exact Or.inr rfl | exact Or.inr (Or.inl rfl) | exact Or.inr (Or.inr BW.emp) | exact Or.inr BW.emp | exact BW.emp | exact Or.inr (Or.inr BW.pre) | exact Or.inr BW.pre | exact BW.pre | refine Or.inr (BW.cells ?_) | refine BW.cells ?_ | refine Or.inr (Or.inr (BW.cells ?_)) | exact Wc_cap)
            · rintro k1 F Hx ⟨j, hm1, ht, rfl, rfl⟩ J1 hJ1
              simp -implicitDefEqProofs (disch := omega) only [hbs, hb0s, h1, h1d, h2, h2d, h3, h3d, prs_len, prs_one, h4, h4d, aApp_nil, aApp_none, aApp_some, aApp_grw, simprocAttr, amset, tyset, Function.comp_apply, one1, lenV, calleeOf, lateOk, belowV, aop, AV.ofValue, AV.ofCell, AV.cells, AV.flat, AV.one, arep, aBin, aConv]
              repeat refine And.intro (by omega) ?_
              refine cond_split (fun h6 => ?_) (fun h6 => ?_)
              · have h6d := h6
                try simp only [Bool.not_eq_true', Bool.not_eq_false', decide_eq_true_eq, decide_eq_false_iff_not, beq_iff_eq, bne_iff_ne, ne_eq, Bool.not_eq_true, Bool.not_eq_false, beq_eq_false_iff_ne, bne_eq_false_iff_eq, Classical.not_not, Bool.and_eq_true, Bool.and_eq_false_imp] at h6d
                have hgj := gpb (i := j) hNb (by omega)
                have hst2 := any_take (p := beyond (canonL l) (x2 - x, y2 - y)) (l := nrmls (canonL l)) (i := j) (by omega)
                rw [← gp_eq (by omega)] at hst2
                have hp1 := mul_bd (a := g1 (nrmls (canonL l)) j) (b := x2 - x) (A := 1048576) (B := 33554432) (by omega) (by omega)
                have hp2 := mul_bd (a := g2 (nrmls (canonL l)) j) (b := y2 - y) (A := 1048576) (B := 33554432) (by omega) (by omega)
                have q7 := prs_load (l := nrmls (canonL l)) (j := j) (by omega)
                simp -implicitDefEqProofs (disch := omega) only [hbs, hb0s, h1, h1d, h2, h2d, h3, h3d, prs_len, prs_one, h4, h4d, h6, h6d, q7, aApp_nil, aApp_none, aApp_some, aApp_grw, simprocAttr, amset, tyset, Function.comp_apply, one1, lenV, calleeOf, lateOk, belowV, aop, AV.ofValue, AV.ofCell, AV.cells, AV.flat, AV.one, arep, aBin, aConv]
                repeat refine And.intro (by omega) ?_
                refine call_d (by kernel_rfl) (abs_c _ _ (by omega)) ?_
                simp -implicitDefEqProofs (disch := omega) only [hbs, hb0s, h1, h1d, h2, h2d, h3, h3d, prs_len, prs_one, h4, h4d, h6, h6d, q7, aApp_nil, aApp_none, aApp_some, aApp_grw, simprocAttr, amset, tyset, Function.comp_apply, one1, lenV, calleeOf, lateOk, belowV, aop, AV.ofValue, AV.ofCell, AV.cells, AV.flat, AV.one, arep, aBin, aConv]
                repeat refine And.intro (by omega) ?_
                refine call_d (by kernel_rfl) (spread_c _ _ (canonL l) (g1 (nrmls (canonL l)) j, g2 (nrmls (canonL l)) j) (.inr ⟨_, _, _, by first | rfl | (rw [List.length_append]; rfl), by first | rfl | (rw [get_newk]; rfl) | (rw [get_new0]; rfl) | (rw [get_newk, prs_append]; rfl) | (rw [get_new0, prs_append]; rfl)⟩) (by omega) (by assumption) (by first | assumption | (unfold Bd; simp only; omega) | (unfold Bd at *; simp only at *; omega) | (unfold Bd; simp; omega) | (unfold Bd; simp))) ?_
                simp -implicitDefEqProofs (disch := omega) only [hbs, hb0s, h1, h1d, h2, h2d, h3, h3d, prs_len, prs_one, h4, h4d, h6, h6d, q7, aApp_nil, aApp_none, aApp_some, aApp_grw, simprocAttr, amset, tyset, Function.comp_apply, one1, lenV, calleeOf, lateOk, belowV, aop, AV.ofValue, AV.ofCell, AV.cells, AV.flat, AV.one, arep, aBin, aConv]
                repeat refine And.intro (by omega) ?_
                refine cond_split (fun h8 => ?_) (fun h8 => ?_)
                · have h8d := h8
                  try simp only [Bool.not_eq_true', Bool.not_eq_false', decide_eq_true_eq, decide_eq_false_iff_not, beq_iff_eq, bne_iff_ne, ne_eq, Bool.not_eq_true, Bool.not_eq_false, beq_eq_false_iff_ne, bne_eq_false_iff_eq, Classical.not_not, Bool.and_eq_true, Bool.and_eq_false_imp] at h8d
                  have hfinA : (nrmls (canonL l)).any (beyond (canonL l) (x2 - x, y2 - y)) = true := any_gp (j := j) (by omega) (decide_eq_true h8d)
                  simp -implicitDefEqProofs (disch := omega) only [hbs, hb0s, h1, h1d, h2, h2d, h3, h3d, prs_len, prs_one, h4, h4d, h6, h6d, q7, h8, h8d, aApp_nil, aApp_none, aApp_some, aApp_grw, simprocAttr, amset, tyset, Function.comp_apply, one1, lenV, calleeOf, lateOk, belowV, aop, AV.ofValue, AV.ofCell, AV.cells, AV.flat, AV.one, arep, aBin, aConv]
                  repeat refine And.intro (by omega) ?_
                  exact hQ _ _ (end_plain (.inl rfl) hbel (x := .bool false) (ret_of Try.results33 (by simp -implicitDefEqProofs (disch := omega) only [simprocAttr, amset, tyset, Function.comp_apply, one1, lenV, calleeOf, lateOk, belowV, aop, AV.ofValue, AV.ofCell, AV.cells, AV.flat, AV.one, arep, aBin, aAppend, aConv])) rfl ⟨by simp [hasB, h1d, h2d, h3d, h4d, h6d, h8d, hfinT, hfinA], rfl⟩)
                · have h8d := h8
                  try simp only [Bool.not_eq_true', Bool.not_eq_false', decide_eq_true_eq, decide_eq_false_iff_not, beq_iff_eq, bne_iff_ne, ne_eq, Bool.not_eq_true, Bool.not_eq_false, beq_eq_false_iff_ne, bne_eq_false_iff_eq, Classical.not_not, Bool.and_eq_true, Bool.and_eq_false_imp] at h8d
                  simp -implicitDefEqProofs (disch := omega) only [hbs, hb0s, h1, h1d, h2, h2d, h3, h3d, prs_len, prs_one, h4, h4d, h6, h6d, q7, h8, h8d, aApp_nil, aApp_none, aApp_some, aApp_grw, simprocAttr, amset, tyset, Function.comp_apply, one1, lenV, calleeOf, lateOk, belowV, aop, AV.ofValue, AV.ofCell, AV.cells, AV.flat, AV.one, arep, aBin, aConv]
                  repeat refine And.intro (by omega) ?_
                  refine hJ1 _ _ ⟨k1 - 1, by omega, _, _, _, ⟨j + 1, by omega, by rw [hst2, ht, Bool.false_or]; exact decide_eq_false h8d, rfl, rfl⟩, Abs.byG hbel [] rfl [0, 1, 2] (by decide) ?_⟩
                  simp -implicitDefEqProofs (disch := omega) only [List.length_append, List.length_cons, List.length_nil, capG_s, ownG_s, capG_0, ownG_0, prs_append, prs_cons, prs_nil, W_nil0, W_nil1, W_cap', Wc_nil0, Wc_nil1, Wc_cap', absF, absH, W_refl', W_any', W_agg, W_tup, Ws_cons, Ws_refl', Wc_refl', Wcs_cons, Wcs_nil, look, List.cons_append, List.nil_append, List.append_nil, List.length_cons, List.length_nil, Nat.zero_add, Nat.reduceAdd, AV.mv, AV.mvs, ABlk.mv, sig_new0, sig_newk, sig_lt, List.getElem?_cons_zero, List.getElem?_cons_succ, mvs_ints, mvs_bools, mvs_prs, mvs_append, cond_true, cond_false, beq_self_eq_true, Nat.reduceBEq, true_and, and_true, or_true, true_or, and_self, decide_true, Nat.add_zero, reduceCtorEq, false_or, or_false]
                  repeat' (first | exact True.intro | exact Nat.add_lt_add_left (by decide) _ | exact Nat.lt_add_of_pos_right (by decide) | refine W_nils ?_ (Or.inr rfl) | refine W_nils ?_ (Or.inl rfl) | refine Wc_nils ?_ (Or.inr rfl) | refine Wc_nils ?_ (Or.inl rfl) | exact W_cap | rfl | refine And.intro ?_ ?_ | exact Or.inl rfl | exact Or.inr rfl | exact Or.inr (Or.inl rfl) | exact Or.inr (Or.inr BW.emp) | exact Or.inr BW.emp | exact BW.emp | exact Or.inr (Or.inr BW.pre) | exact Or.inr BW.pre | exact BW.pre | refine Or.inr (BW.cells ?_) | refine BW.cells ?_ | refine Or.inr (Or.inr (BW.cells ?_)) | exact Wc_cap)
              · have h6d := h6
                try simp only [Bool.not_eq_true', Bool.not_eq_false', decide_eq_true_eq, decide_eq_false_iff_not, beq_iff_eq, bne_iff_ne, ne_eq, Bool.not_eq_true, Bool.not_eq_false, beq_eq_false_iff_ne, bne_eq_false_iff_eq, Classical.not_not, Bool.and_eq_true, Bool.and_eq_false_imp] at h6d
                rw [List.take_of_length_le (by omega)] at ht
                have hfin := ht
                simp -implicitDefEqProofs (disch := omega) only [hbs, hb0s, h1, h1d, h2, h2d, h3, h3d, prs_len, prs_one, h4, h4d, h6, h6d, aApp_nil, aApp_none, aApp_some, aApp_grw, simprocAttr, amset, tyset, Function.comp_apply, one1, lenV, calleeOf, lateOk, belowV, aop, AV.ofValue, AV.ofCell, AV.cells, AV.flat, AV.one, arep, aBin, aConv]
                repeat refine And.intro (by omega) ?_
                exact hQ _ _ (end_plain (.inl rfl) hbel (x := .bool true) (ret_of Try.results33 (by simp -implicitDefEqProofs (disch := omega) only [simprocAttr, amset, tyset, Function.comp_apply, one1, lenV, calleeOf, lateOk, belowV, aop, AV.ofValue, AV.ofCell, AV.cells, AV.flat, AV.one, arep, aBin, aAppend, aConv])) rfl ⟨by simp [hasB, h1d, h2d, h3d, h4d, h6d, hfinT, hfin], rfl⟩)
    · have h2d := h2
      try simp only [Bool.not_eq_true', Bool.not_eq_false', decide_eq_true_eq, decide_eq_false_iff_not, beq_iff_eq, bne_iff_ne, ne_eq, Bool.not_eq_true, Bool.not_eq_false, beq_eq_false_iff_ne, bne_eq_false_iff_eq, Classical.not_not, Bool.and_eq_true, Bool.and_eq_false_imp] at h2d
      simp -implicitDefEqProofs (disch := omega) only [hbs, hb0s, h1, h1d, h2, h2d, aApp_nil, aApp_none, aApp_some, aApp_grw, simprocAttr, amset, tyset, Function.comp_apply, one1, lenV, calleeOf, lateOk, belowV, aop, AV.ofValue, AV.ofCell, AV.cells, AV.flat, AV.one, arep, aBin, aConv]
      repeat refine And.intro (by omega) ?_
      exact hQ _ _ (end_plain (.inl rfl) hbel (x := .bool false) (ret_of Try.results33 (by simp -implicitDefEqProofs (disch := omega) only [simprocAttr, amset, tyset, Function.comp_apply, one1, lenV, calleeOf, lateOk, belowV, aop, AV.ofValue, AV.ofCell, AV.cells, AV.flat, AV.one, arep, aBin, aAppend, aConv])) rfl ⟨by simp [hasB, h1d, h2d], rfl⟩)
  · have h1d := h1
    try simp only [Bool.not_eq_true', Bool.not_eq_false', decide_eq_true_eq, decide_eq_false_iff_not, beq_iff_eq, bne_iff_ne, ne_eq, Bool.not_eq_true, Bool.not_eq_false, beq_eq_false_iff_ne, bne_eq_false_iff_eq, Classical.not_not, Bool.and_eq_true, Bool.and_eq_false_imp] at h1d
    simp -implicitDefEqProofs (disch := omega) only [hbs, hb0s, h1, h1d, aApp_nil, aApp_none, aApp_some, aApp_grw, simprocAttr, amset, tyset, Function.comp_apply, one1, lenV, calleeOf, lateOk, belowV, aop, AV.ofValue, AV.ofCell, AV.cells, AV.flat, AV.one, arep, aBin, aConv]
    repeat refine And.intro (by omega) ?_
    exact hQ _ _ (end_plain (.inl rfl) hbel (x := .bool false) (ret_of Try.results33 (by simp -implicitDefEqProofs (disch := omega) only [simprocAttr, amset, tyset, Function.comp_apply, one1, lenV, calleeOf, lateOk, belowV, aop, AV.ofValue, AV.ofCell, AV.cells, AV.flat, AV.one, arep, aBin, aAppend, aConv])) rfl ⟨by simp [hasB, h1d], rfl⟩)
end Go.Proofs.Ytjfnbcifafmefaa

/- What the code of corners and of its users computes, as functions. Conditions: none. -/
namespace Go.Proofs.Ytjfnbcifafmefaa
set_option linter.unusedSimpArgs false
set_option linter.unusedVariables false
open Go.RowKit
/-- The first corner. -/
def cor0 (x y : Int) (l : List Pt) : Nat → Pt
  | 0 => (x, y)
  | i + 1 => ((cor0 x y l i).1 - g1 l i, (cor0 x y l i).2 - g2 l i)
def sgp (s : Int) (l : List Pt) (p : Pt) : Nat → Pt
  | 0 => p
  | j + 1 => ((sgp s l p j).1 + 2 * s * g1 l j, (sgp s l p j).2 + 2 * s * g2 l j)
def sgo (s : Int) (l : List Pt) (p : Pt) (o : List Pt) : Nat → List Pt
  | 0 => o
  | j + 1 => sgo s l p o j ++ [((sgp s l p j).1 + 2 * s * g1 l j, (sgp s l p j).2 + 2 * s * g2 l j)]
def sgn (m : Nat) : Int := if m = 0 then 1 else -1
def pasP (l : List Pt) (p : Pt) : Nat → Pt
  | 0 => p
  | m + 1 => sgp (sgn m) l (pasP l p m) l.length
def pasO (l : List Pt) (p : Pt) : Nat → List Pt
  | 0 => [p]
  | m + 1 => sgo (sgn m) l (pasP l p m) (pasO l p m) l.length
/-- The corners, by the program. -/
def corP (x y : Int) (l : List Pt) : List Pt := let o := pasO l (cor0 x y l l.length) 2; if o.length = 1 then o else o.take (o.length - 1)
/-- The reference's steps. -/
def stp (l : List Pt) (i : Nat) : Pt := if l.length ≤ i then (-g1 l (i % l.length), -g2 l (i % l.length)) else (g1 l (i % l.length), g2 l (i % l.length))
def rcp (l : List Pt) (p : Pt) : Nat → Pt
  | 0 => p
  | i + 1 => ((rcp l p i).1 + 2 * (stp l i).1, (rcp l p i).2 + 2 * (stp l i).2)
def rco (l : List Pt) (p : Pt) : Nat → List Pt
  | 0 => [p]
  | i + 1 => rco l p i ++ [((rcp l p i).1 + 2 * (stp l i).1, (rcp l p i).2 + 2 * (stp l i).2)]
/-- The corners, by the reference. -/
def corR (x y : Int) (l : List Pt) : List Pt := rco l (cor0 x y l l.length) (2 * l.length - 1)
theorem rco_len (l : List Pt) (p : Pt) : ∀ i, (rco l p i).length = i + 1
  | 0 => rfl
  | i + 1 => by simp [rco, rco_len l p i]
theorem sgo_len (s : Int) (l : List Pt) (p : Pt) (o : List Pt) : ∀ i, (sgo s l p o i).length = o.length + i
  | 0 => rfl
  | i + 1 => by simp [sgo, sgo_len s l p o i]; omega
theorem cor0_bd {x y M A : Int} {l : List Pt} (hA : -A ≤ x ∧ x ≤ A ∧ -A ≤ y ∧ y ≤ A) (h : ∀ e ∈ l, Bd M e) : ∀ i, i ≤ l.length → Bd (A + i * M) (cor0 x y l i)
  | 0, _ => by unfold Bd cor0; simp only [Int.natCast_zero, Int.zero_mul]; omega
  | i + 1, hi => by
    have ih := cor0_bd hA h i (by omega)
    have hg := gpb h (i := i) (by omega)
    have e : (((i + 1 : Nat) : Int)) * M = i * M + M := by rw [Int.natCast_add, Int.add_mul]; simp
    unfold Bd at *
    simp only [cor0]
    rw [e]; omega
theorem stp_bd {M : Int} {l : List Pt} (h : ∀ e ∈ l, Bd M e) (h0 : 0 < l.length) (i : Nat) : Bd M (stp l i) := by
  have hg := gpb h (i := i % l.length) (Nat.mod_lt _ h0)
  unfold stp Bd
  split <;> (simp only; omega)
theorem rcp_bd {M A : Int} {l : List Pt} {p : Pt} (hA : Bd A p) (h : ∀ e ∈ l, Bd M e) (h0 : 0 < l.length) : ∀ i : Nat, Bd (A + (i : Int) * (2 * M)) (rcp l p i)
  | 0 => by unfold Bd rcp at *; simp only [Int.natCast_zero, Int.zero_mul]; omega
  | i + 1 => by
    have ih := rcp_bd hA h h0 i
    have hg := stp_bd h h0 i
    have e : (((i + 1 : Nat) : Int)) * (2 * M) = i * (2 * M) + 2 * M := by rw [Int.natCast_add, Int.add_mul]; simp
    unfold Bd at *
    simp only [rcp]
    rw [e]; omega
theorem sgp_bd {M A s : Int} {l : List Pt} {p : Pt} (hs : s = 1 ∨ s = -1) (hA : Bd A p) (h : ∀ e ∈ l, Bd M e) : ∀ i, i ≤ l.length → Bd (A + i * (2 * M)) (sgp s l p i)
  | 0, _ => by unfold Bd sgp at *; simp only [Int.natCast_zero, Int.zero_mul]; omega
  | i + 1, hi => by
    have ih := sgp_bd hs hA h i (by omega)
    have hg := gpb h (i := i) (by omega)
    have e : (((i + 1 : Nat) : Int)) * (2 * M) = i * (2 * M) + 2 * M := by rw [Int.natCast_add, Int.add_mul]; simp
    unfold Bd at *
    simp only [sgp]
    rw [e]
    rcases hs with rfl | rfl <;> omega
/-- A point passes the test of a side. -/
def inT (l : List Pt) (p : Pt) (i : Nat) : Bool :=
  !decide (crs (g1 l ((i + 1) % l.length) - g1 l i, g2 l ((i + 1) % l.length) - g2 l i) (p.1 - g1 l i, p.2 - g2 l i) < 0) &&
  !(decide ((l.length : Int) ≤ 2) && (crs (g1 l ((i + 1) % l.length) - g1 l i, g2 l ((i + 1) % l.length) - g2 l i) (p.1 - g1 l i, p.2 - g2 l i) != 0 ||
    (decide ((g1 l ((i + 1) % l.length) - g1 l i) * (p.1 - g1 l i) + (g2 l ((i + 1) % l.length) - g2 l i) * (p.2 - g2 l i) < 0) || ((l.length : Int) == 1 && !(p.1 == g1 l i && p.2 == g2 l i)))))
def inR (l : List Pt) (p : Pt) : Nat → Bool
  | 0 => true
  | i + 1 => inR l p i && inT l p i
theorem inR_false {l : List Pt} {p : Pt} {i : Nat} (h : inT l p i = false) : ∀ n, i < n → inR l p n = false
  | 0, hn => by omega
  | n + 1, hn => by
    by_cases e : i = n
    · subst e; simp [inR, h]
    · simp [inR, inR_false h n (by omega)]
/-- The greatest value among the first corners. -/
def supR (n : Pt) (l : List Pt) : Nat → Int
  | 0 => n.1 * g1 l 0 + n.2 * g2 l 0
  | i + 1 => if supR n l i < n.1 * g1 l i + n.2 * g2 l i then n.1 * g1 l i + n.2 * g2 l i else supR n l i
def shoe (l : List Pt) : Nat → Int
  | 0 => 0
  | i + 1 => shoe l i + crs (g1 l i - g1 l 0, g2 l i - g2 l 0) (g1 l ((i + 1) % l.length) - g1 l 0, g2 l ((i + 1) % l.length) - g2 l 0)
end Go.Proofs.Ytjfnbcifafmefaa

/- Plain facts on how far sums of segments reach: the canonical form reaches as far. Conditions: as each theorem states. -/
namespace Go.Proofs.Ytjfnbcifafmefaa
set_option linter.unusedSimpArgs false
set_option linter.unusedVariables false
open Go.RowKit
theorem absI_neg (x : Int) : absI (-x) = absI x := by unfold absI; split <;> split <;> omega
theorem absI_le {x M : Int} : absI x ≤ M ↔ -M ≤ x ∧ x ≤ M := by unfold absI; split <;> omega
theorem absI_nn (x : Int) : 0 ≤ absI x := by unfold absI; split <;> omega
theorem le_absI (x : Int) : x ≤ absI x := by unfold absI; split <;> omega
theorem absI_of_nn {x : Int} (h : 0 ≤ x) : absI x = x := by unfold absI; split <;> omega
theorem absI_of_np {x : Int} (h : x ≤ 0) : absI x = -x := by unfold absI; split <;> omega
theorem absI_zero : absI 0 = 0 := rfl
theorem crs_zero_r (a : Pt) : crs a (0, 0) = 0 := by unfold crs; simp
theorem dotP_add (n g h : Pt) : dotP n (padd g h) = dotP n g + dotP n h := by unfold dotP padd; simp only [Int.mul_add]; omega
theorem dotP_neg (n g : Pt) : dotP n (-g.1, -g.2) = -dotP n g := by unfold dotP; simp only [Int.mul_neg]; omega
theorem dotP_negl (n g : Pt) : dotP (-n.1, -n.2) g = -dotP n g := by unfold dotP; simp only [Int.neg_mul]; omega
theorem dotP_zero (n : Pt) : dotP n (0, 0) = 0 := by unfold dotP; simp
theorem par_pos {g h : Pt} (hg : up g) (hh : up h) (h0 : crs g h = 0) : ∃ a b : Int, 0 < a ∧ 0 < b ∧ a * h.1 = b * g.1 ∧ a * h.2 = b * g.2 := by
  unfold crs at h0
  have e1 : g.1 * h.2 = g.2 * h.1 := by omega
  rcases Int.lt_or_eq_of_le (up_y hg) with g2 | g2
  · have h2 : 0 < h.2 := by
      rcases Int.lt_or_eq_of_le (up_y hh) with h2 | h2
      · exact h2
      · exfalso
        rw [← h2, Int.mul_zero] at e1
        have : h.1 = 0 := by
          rcases Int.mul_eq_zero.1 e1.symm with h | h
          · omega
          · exact h
        unfold up at hh; omega
    exact ⟨g.2, h.2, g2, h2, by rw [← e1, Int.mul_comm], Int.mul_comm _ _⟩
  · have g1p : 0 < g.1 := by unfold up at hg; omega
    rw [← g2, Int.zero_mul] at e1
    have h2 : h.2 = 0 := by
      rcases Int.mul_eq_zero.1 e1 with h | h
      · omega
      · exact h
    have h1p : 0 < h.1 := by unfold up at hh; omega
    exact ⟨g.1, h.1, g1p, h1p, Int.mul_comm _ _, by rw [h2, ← g2]; simp⟩
theorem abs_par {g h : Pt} (hg : up g) (hh : up h) (h0 : crs g h = 0) (n : Pt) : absI (dotP n (padd g h)) = absI (dotP n g) + absI (dotP n h) := by
  obtain ⟨a, b, ha, hb, e1, e2⟩ := par_pos hg hh h0
  have e : a * dotP n h = b * dotP n g := by
    unfold dotP
    have q1 : a * (n.1 * h.1 + n.2 * h.2) = n.1 * (a * h.1) + n.2 * (a * h.2) := by grind
    have q2 : b * (n.1 * g.1 + n.2 * g.2) = n.1 * (b * g.1) + n.2 * (b * g.2) := by grind
    rw [q1, q2, e1, e2]
  rw [dotP_add]
  rcases Int.le_total 0 (dotP n g) with k | k
  · have h1 : 0 ≤ dotP n h := nonneg_of (a := a) (by rw [e]; exact Int.mul_nonneg (by omega) k) ha
    rw [absI_of_nn k, absI_of_nn h1, absI_of_nn (by omega)]
  · have h1 : 0 ≤ -dotP n h := nonneg_of (a := a) (by rw [Int.mul_neg, e, ← Int.mul_neg]; exact Int.mul_nonneg (by omega) (by omega)) ha
    rw [absI_of_np k, absI_of_np (by omega : dotP n h ≤ 0), absI_of_np (by omega)]; omega
theorem spr_cons (n g : Pt) (l : List Pt) : spr n (g :: l) = absI (dotP n g) + spr n l := rfl
theorem spr_nn (n : Pt) : ∀ l : List Pt, 0 ≤ spr n l
  | [] => by simp [spr]
  | g :: l => by have := spr_nn n l; have := absI_nn (dotP n g); rw [spr_cons]; omega
theorem spr_putC {C : List Pt} {g : Pt} (hg : up g) (hs : C.Pairwise fun a b => 0 < crs a b) (hu : ∀ e ∈ C, up e) (n : Pt) : spr n (putC C g) = spr n C + absI (dotP n g) := by
  rcases split_at hg C hs hu with ⟨A, B, rfl, h1, h2⟩ | ⟨A, e, B, rfl, h1, h0, h2⟩
  · rw [putC_none h1 h2, spr_app, spr_app, spr_cons]; omega
  · rw [putC_some h1 h0 h2, spr_app, spr_app, spr_cons, spr_cons, abs_par (hu e (by simp)) hg (by rw [crs_anti]; omega)]; omega
theorem abs_nrm (n g : Pt) : absI (dotP n (nrm g)) = absI (dotP n g) := by
  unfold nrm; split
  · rw [dotP_neg, absI_neg]
  · rfl
/-- The canonical form reaches as far as the generators. -/
theorem spr_canon (n : Pt) (l : List Pt) : spr n (canonL l) = spr n l := by
  refine snoc_ind (P := fun l => spr n (canonL l) = spr n l) rfl (fun S g ih => ?_) l
  have hc := canonL_can S
  rw [canonL_snoc, spr_app, spr_cons, ← abs_nrm n g]
  show spr n (putL (canonL S) g) = spr n S + (absI (dotP n (nrm g)) + 0)
  unfold putL
  split
  · rename_i h; rw [h, dotP_zero, ih, absI_zero]; omega
  · rename_i h; rw [spr_putC (nrm_up h) hc.sorted hc.ups, ih]; omega
theorem spr_negl (n : Pt) : ∀ l : List Pt, spr (-n.1, -n.2) l = spr n l
  | [] => rfl
  | g :: l => by rw [spr_cons, spr_cons, spr_negl n l, dotP_negl, absI_neg]
/-- d is not beyond the sum of the segments in any direction. -/
def inZ (L : List Pt) (d : Pt) : Prop := ∀ n : Pt, dotP n d ≤ spr n L
theorem inZ.abs {L : List Pt} {d : Pt} (h : inZ L d) (n : Pt) : absI (dotP n d) ≤ spr n L := by
  rw [absI_le]
  have h1 := h n
  have h2 := h (-n.1, -n.2)
  rw [dotP_negl, spr_negl] at h2
  omega
theorem inZ_canon {l : List Pt} {d : Pt} : inZ (canonL l) d ↔ inZ l d := by
  constructor <;> intro h n <;> have := h n <;> rw [spr_canon] at * <;> exact this
theorem inZ_neg {L : List Pt} {d : Pt} (h : inZ L d) : inZ L (-d.1, -d.2) := fun n => by
  have := h (-n.1, -n.2)
  rw [dotP_negl, spr_negl] at this
  rw [dotP_neg]; exact this
/-- The sum of directions. -/
def vsum : List Pt → Pt
  | [] => (0, 0)
  | g :: l => padd g (vsum l)
theorem vsum_app : ∀ l m : List Pt, vsum (l ++ m) = padd (vsum l) (vsum m)
  | [], m => by simp [vsum, padd]
  | g :: l, m => by simp only [List.cons_append, vsum, vsum_app l m, padd_assoc]
def psub (a b : Pt) : Pt := (a.1 - b.1, a.2 - b.2)
theorem dotP_sub (n g h : Pt) : dotP n (psub g h) = dotP n g - dotP n h := by unfold dotP psub; simp only [Int.mul_sub]; omega
theorem crs_sub_r (a b c : Pt) : crs a (psub b c) = crs a b - crs a c := by unfold crs psub; simp only [Int.mul_sub]; omega
theorem dot_le_spr (n : Pt) : ∀ l : List Pt, dotP n (vsum l) ≤ spr n l ∧ -spr n l ≤ dotP n (vsum l)
  | [] => by simp [vsum, dotP_zero, spr]
  | g :: l => by
    have ih := dot_le_spr n l
    have h := absI_le.1 (Int.le_refl (absI (dotP n g)))
    rw [spr_cons]
    show dotP n (padd g (vsum l)) ≤ _ ∧ _ ≤ dotP n (padd g (vsum l))
    rw [dotP_add]; omega
theorem dot_eq_spr (n : Pt) : ∀ l : List Pt, (∀ g ∈ l, 0 ≤ dotP n g) → dotP n (vsum l) = spr n l
  | [], _ => by simp [vsum, dotP_zero, spr]
  | g :: l, h => by
    have ih := dot_eq_spr n l fun e he => h e (by simp [he])
    rw [spr_cons, absI_of_nn (h g (by simp)), ← ih]
    show dotP n (padd g (vsum l)) = _
    rw [dotP_add]
theorem dot_eq_nspr (n : Pt) : ∀ l : List Pt, (∀ g ∈ l, dotP n g ≤ 0) → dotP n (vsum l) = -spr n l
  | [], _ => by simp [vsum, dotP_zero, spr]
  | g :: l, h => by
    have ih := dot_eq_nspr n l fun e he => h e (by simp [he])
    rw [spr_cons, absI_of_np (h g (by simp))]
    show dotP n (padd g (vsum l)) = _
    rw [dotP_add]; omega
/-- A sum of some and the opposite of the others is in. -/
theorem inZ_split (A B : List Pt) : inZ (A ++ B) (psub (vsum A) (vsum B)) := fun n => by
  rw [dotP_sub, spr_app]
  have h1 := dot_le_spr n A
  have h2 := dot_le_spr n B
  omega
theorem inZ_add {A B : List Pt} {d e : Pt} (h1 : inZ A d) (h2 : inZ B e) : inZ (A ++ B) (padd d e) := fun n => by
  rw [dotP_add, spr_app]
  have := h1 n; have := h2 n; omega
/-- Between two directions on one side of a line there is none on the other. -/
theorem mid_pos {g a b n : Pt} (h1 : 0 < crs g a) (h2 : 0 < crs a b) (h3 : 0 < crs g b) (k1 : 0 < dotP n g) (k2 : 0 < dotP n b) : 0 < dotP n a := by
  have e : crs g b * dotP n a = crs a b * dotP n g + crs g a * dotP n b := by unfold crs dotP; grind
  have q1 := Int.mul_pos h2 k1
  have q2 := Int.mul_pos h1 k2
  exact pos_of (a := crs g b) (by omega) h3
theorem sign_split (n : Pt) : ∀ L : List Pt, L.Pairwise (fun a b => 0 < crs a b) →
    ∃ A B, L = A ++ B ∧ (((∀ a ∈ A, 0 ≤ dotP n a) ∧ ∀ b ∈ B, dotP n b ≤ 0) ∨ ((∀ a ∈ A, dotP n a ≤ 0) ∧ ∀ b ∈ B, 0 ≤ dotP n b))
  | [], _ => ⟨[], [], rfl, .inl ⟨by simp, by simp⟩⟩
  | g :: L, hs => by
    rw [List.pairwise_cons] at hs
    obtain ⟨A, B, rfl, h⟩ := sign_split n L hs.2
    have hs2 := List.pairwise_append.1 hs.2
    have hm : ∀ m : Pt, (∀ x : Pt, dotP m x = dotP n x) ∨ (∀ x : Pt, dotP m x = -dotP n x) → 0 < dotP m g → ∀ b ∈ B, 0 < dotP m b → ∀ a ∈ A, 0 < dotP m a := fun m _ kg b hb kb a ha =>
      mid_pos (hs.1 a (by simp [ha])) (hs2.2.2 a ha b hb) (hs.1 b (by simp [hb])) kg kb
    rcases Int.lt_trichotomy (dotP n g) 0 with k | k | k
    · rcases h with ⟨hA, hB⟩ | ⟨hA, hB⟩
      · by_cases hall : ∀ b ∈ B, 0 ≤ dotP n b
        · refine ⟨[g], A ++ B, rfl, .inr ⟨by simpa using Int.le_of_lt k, fun b hb => ?_⟩⟩
          rcases List.mem_append.1 hb with hb | hb
          · exact hA b hb
          · exact hall b hb
        · have : ∃ b ∈ B, dotP n b < 0 := by
            apply Classical.byContradiction
            intro hno
            exact hall fun b hb => Int.not_lt.1 fun hlt => hno ⟨b, hb, hlt⟩
          obtain ⟨b, hb, kb⟩ := this
          have hA0 : A = [] := by
            cases A with
            | nil => rfl
            | cons a A =>
              have := hm (-n.1, -n.2) (.inr fun x => dotP_negl n x) (by rw [dotP_negl]; omega) b hb (by rw [dotP_negl]; omega) a (by simp)
              rw [dotP_negl] at this
              have := hA a (by simp)
              omega
          subst hA0
          refine ⟨g :: B, [], by simp, .inr ⟨fun a ha => ?_, by simp⟩⟩
          rcases List.mem_cons.1 ha with rfl | ha
          · omega
          · exact hB a ha
      · refine ⟨g :: A, B, rfl, .inr ⟨fun a ha => ?_, hB⟩⟩
        rcases List.mem_cons.1 ha with rfl | ha
        · omega
        · exact hA a ha
    · rcases h with ⟨hA, hB⟩ | ⟨hA, hB⟩
      · refine ⟨g :: A, B, rfl, .inl ⟨fun a ha => ?_, hB⟩⟩
        rcases List.mem_cons.1 ha with rfl | ha
        · omega
        · exact hA a ha
      · refine ⟨g :: A, B, rfl, .inr ⟨fun a ha => ?_, hB⟩⟩
        rcases List.mem_cons.1 ha with rfl | ha
        · omega
        · exact hA a ha
    · rcases h with ⟨hA, hB⟩ | ⟨hA, hB⟩
      · refine ⟨g :: A, B, rfl, .inl ⟨fun a ha => ?_, hB⟩⟩
        rcases List.mem_cons.1 ha with rfl | ha
        · omega
        · exact hA a ha
      · by_cases hall : ∀ b ∈ B, dotP n b ≤ 0
        · refine ⟨[g], A ++ B, rfl, .inl ⟨by simpa using Int.le_of_lt k, fun b hb => ?_⟩⟩
          rcases List.mem_append.1 hb with hb | hb
          · exact hA b hb
          · exact hall b hb
        · have : ∃ b ∈ B, 0 < dotP n b := by
            apply Classical.byContradiction
            intro hno
            exact hall fun b hb => Int.not_lt.1 fun hlt => hno ⟨b, hb, hlt⟩
          obtain ⟨b, hb, kb⟩ := this
          have hA0 : A = [] := by
            cases A with
            | nil => rfl
            | cons a A =>
              have := hm n (.inl fun x => rfl) k b hb kb a (by simp)
              have := hA a (by simp)
              omega
          subst hA0
          refine ⟨g :: B, [], by simp, .inl ⟨fun a ha => ?_, by simp⟩⟩
          rcases List.mem_cons.1 ha with rfl | ha
          · omega
          · exact hB a ha
/-- How far the sum reaches to the sides of a generator. -/
def wid (g : Pt) (L : List Pt) : Int := spr (0 - g.2, g.1) L
theorem dotP_perp (g h : Pt) : dotP (0 - g.2, g.1) h = crs g h := by unfold dotP crs; simp only [Int.sub_mul, Int.zero_mul]; omega
theorem crs_vsum (g : Pt) (L : List Pt) : crs g (vsum L) = dotP (0 - g.2, g.1) (vsum L) := (dotP_perp g _).symm
theorem wid_at {P Q : List Pt} {g : Pt} (hs : (P ++ g :: Q).Pairwise fun a b => 0 < crs a b) : wid g (P ++ g :: Q) = crs g (vsum Q) - crs g (vsum P) := by
  rw [List.pairwise_append, List.pairwise_cons] at hs
  obtain ⟨-, ⟨h1, -⟩, h2⟩ := hs
  unfold wid
  rw [spr_app, spr_cons, dotP_perp, crs_self, crs_vsum, crs_vsum, dot_eq_spr _ Q (fun q hq => by rw [dotP_perp]; exact Int.le_of_lt (h1 q hq)), dot_eq_nspr _ P (fun p hp => by rw [dotP_perp, crs_anti]; have := h2 p hp g (by simp); omega), absI_zero]
  omega
theorem two_sides {ei eo w n : Pt} (h : 0 < crs ei eo) (h1 : 0 ≤ crs ei w) (h2 : 0 ≤ crs eo w) (k1 : 0 ≤ dotP n ei) (k2 : dotP n eo ≤ 0) : dotP n w ≤ 0 := by
  have e : crs ei eo * dotP n w = crs ei w * dotP n eo - crs eo w * dotP n ei := by unfold crs dotP; grind
  have q1 := Int.mul_nonneg h1 (by omega : 0 ≤ -dotP n eo)
  have q2 := Int.mul_nonneg h2 k1
  rw [Int.mul_neg] at q1
  have : 0 ≤ crs ei eo * -dotP n w := by rw [Int.mul_neg]; omega
  have := nonneg_of this h
  omega
/-- By the sides of at least two generators: not beyond in any direction. -/
theorem inZ_sides {L : List Pt} (hs : L.Pairwise fun a b => 0 < crs a b) (h2 : 2 ≤ L.length) {d : Pt} (hd : ∀ g ∈ L, absI (crs g d) ≤ wid g L) : inZ L d := by
  have key : ∀ (n d : Pt) (A B : List Pt), L = A ++ B → (∀ g ∈ L, absI (crs g d) ≤ wid g L) → (∀ a ∈ A, 0 ≤ dotP n a) → (∀ b ∈ B, dotP n b ≤ 0) → dotP n d ≤ spr n L := by
    intro n d A B hL hd hA hB
    subst hL
    have hv : dotP n (psub (vsum A) (vsum B)) = spr n (A ++ B) := by rw [dotP_sub, dot_eq_spr n A hA, dot_eq_nspr n B hB, spr_app]; omega
    rw [← hv]
    suffices h : dotP n (psub d (psub (vsum A) (vsum B))) ≤ 0 by rw [dotP_sub] at h; omega
    -- the corner's two sides
    rcases List.eq_nil_or_concat A with rfl | ⟨A1, a, rfl⟩
    · cases B with
      | nil => simp at h2
      | cons b B1 =>
        rcases List.eq_nil_or_concat B1 with rfl | ⟨B2, z, rfl⟩
        · simp at h2
        · rw [List.concat_eq_append] at *
          simp only [List.nil_append] at *
          have w1 := wid_at (P := []) (Q := B2 ++ [z]) (g := b) hs
          have w2 := wid_at (P := b :: B2) (Q := []) (g := z) (by simpa using hs)
          simp only [List.nil_append] at w1
          have hbz : 0 < crs b z := (List.pairwise_cons.1 hs).1 z (by simp)
          have d1 := absI_le.1 (hd b (by simp))
          have d2 := absI_le.1 (hd z (by simp))
          have e2 : b :: B2 ++ [z] = b :: (B2 ++ [z]) := rfl
          rw [e2] at w2
          refine two_sides (ei := (-z.1, -z.2)) (eo := b) ?_ ?_ ?_ ?_ (hB b (by simp))
          · have : crs (-z.1, -z.2) b = crs b z := by unfold crs; grind
            omega
          · have e : crs (-z.1, -z.2) (psub d (psub (vsum []) (vsum (b :: (B2 ++ [z]))))) = -(crs z d) - crs z (vsum (b :: B2)) := by
              rw [← e2, vsum_app]; simp only [vsum]; unfold crs psub padd; grind
            rw [e]
            simp only [vsum, crs_zero_r] at w2 ⊢
            omega
          · have e : crs b (psub d (psub (vsum []) (vsum (b :: (B2 ++ [z]))))) = crs b d + crs b (vsum (B2 ++ [z])) := by
              simp only [vsum]; unfold crs psub padd; grind
            rw [e]
            simp only [vsum, crs_zero_r] at w1
            omega
          · rw [dotP_neg]; have := hB z (by simp); omega
    · rw [List.concat_eq_append] at *
      cases B with
      | cons b B1 =>
        have hs' : (A1 ++ a :: (b :: B1)).Pairwise fun a b => 0 < crs a b := by simpa using hs
        have w1 := wid_at (P := A1) (Q := b :: B1) (g := a) hs'
        have w2 := wid_at (P := A1 ++ [a]) (Q := B1) (g := b) hs
        have e1 : A1 ++ a :: (b :: B1) = A1 ++ [a] ++ b :: B1 := by simp
        rw [e1] at w1
        have hab : 0 < crs a b := (List.pairwise_cons.1 (List.pairwise_append.1 hs').2.1).1 b (by simp)
        have d1 := absI_le.1 (hd a (by simp))
        have d2 := absI_le.1 (hd b (by simp))
        refine two_sides (ei := a) (eo := b) hab ?_ ?_ (hA a (by simp)) (hB b (by simp))
        · have e : crs a (psub d (psub (vsum (A1 ++ [a])) (vsum (b :: B1)))) = crs a d - crs a (vsum A1) + crs a (vsum (b :: B1)) := by
            rw [vsum_app]; simp only [vsum]; unfold crs psub padd; grind
          rw [e]; omega
        · have e : crs b (psub d (psub (vsum (A1 ++ [a])) (vsum (b :: B1)))) = crs b d - crs b (vsum (A1 ++ [a])) + crs b (vsum B1) := by
            simp only [vsum]; unfold crs psub padd; grind
          rw [e]; omega
      | nil =>
        rw [List.append_nil] at *
        cases A1 with
        | nil => simp at h2
        | cons f A2 =>
          have w1 := wid_at (P := []) (Q := A2 ++ [a]) (g := f) (by simpa using hs)
          have w2 := wid_at (P := f :: A2) (Q := []) (g := a) hs
          simp only [List.nil_append] at w1
          have e1 : f :: (A2 ++ [a]) = f :: A2 ++ [a] := rfl
          rw [e1] at w1
          have hfa : 0 < crs f a := (List.pairwise_cons.1 (show (f :: (A2 ++ [a])).Pairwise (fun a b => 0 < crs a b) from hs)).1 a (by simp)
          have d1 := absI_le.1 (hd f (by simp))
          have d2 := absI_le.1 (hd a (by simp))
          refine two_sides (ei := a) (eo := (-f.1, -f.2)) ?_ ?_ ?_ (hA a (by simp)) ?_
          · have : crs a (-f.1, -f.2) = crs f a := by unfold crs; grind
            omega
          · have e : crs a (psub d (psub (vsum (f :: A2 ++ [a])) (vsum []))) = crs a d - crs a (vsum (f :: A2)) := by
              rw [vsum_app]; simp only [vsum]; unfold crs psub padd; grind
            rw [e]
            simp only [vsum, crs_zero_r] at w2 ⊢
            omega
          · have e : crs (-f.1, -f.2) (psub d (psub (vsum (f :: A2 ++ [a])) (vsum []))) = -(crs f d) + crs f (vsum (A2 ++ [a])) := by
              rw [← e1]; simp only [vsum]; unfold crs psub padd; grind
            rw [e]
            simp only [vsum, crs_zero_r] at w1
            omega
          · rw [dotP_neg]; have := hA f (by simp); omega
  intro n
  obtain ⟨A, B, hL, h⟩ := sign_split n L hs
  rcases h with ⟨hA, hB⟩ | ⟨hA, hB⟩
  · exact key n d A B hL hd hA hB
  · have := key (-n.1, -n.2) (-d.1, -d.2) A B hL (fun g hg => by
      have : crs g (-d.1, -d.2) = -crs g d := by unfold crs; grind
      rw [this, absI_neg]; exact hd g hg) (fun a ha => by rw [dotP_negl]; have := hA a ha; omega) (fun b hb => by rw [dotP_negl]; have := hB b hb; omega)
    rw [dotP_negl, dotP_neg, spr_negl] at this
    omega
theorem dot_self_pos {g : Pt} (hg : up g) : 0 < dotP g g := by
  unfold dotP
  have h1 : 0 ≤ g.1 * g.1 := by rcases Int.le_total 0 g.1 with h | h; exact Int.mul_nonneg h h; have := Int.mul_nonneg (by omega : 0 ≤ -g.1) (by omega : 0 ≤ -g.1); rwa [Int.neg_mul_neg] at this
  have h2 : 0 ≤ g.2 * g.2 := Int.mul_nonneg (up_y hg) (up_y hg)
  unfold up at hg
  rcases hg with h | h
  · have := Int.mul_pos h h; omega
  · have := Int.mul_pos h.2 h.2; omega
theorem inZ_one {g d : Pt} (hg : up g) (h1 : crs g d = 0) (h2 : absI (dotP g d) ≤ dotP g g) : inZ [g] d := fun n => by
  have e : dotP g g * dotP n d = dotP g d * dotP n g + crs g d * (g.1 * n.2 - g.2 * n.1) := by unfold dotP crs; grind
  rw [h1, Int.zero_mul, Int.add_zero] at e
  have hp := dot_self_pos hg
  show dotP n d ≤ absI (dotP n g) + 0
  rw [Int.add_zero]
  have hb := mul_bd (a := dotP g d) (b := dotP n g) (A := dotP g g) (B := absI (dotP n g)) (absI_le.1 h2) (absI_le.1 (Int.le_refl _))
  rw [← e] at hb
  exact Int.le_of_mul_le_mul_left hb.2 hp
theorem inZ_nil {d : Pt} : inZ [] d ↔ d = (0, 0) := by
  constructor
  · intro h
    have h1 := h (1, 0); have h2 := h (-1, 0); have h3 := h (0, 1); have h4 := h (0, -1)
    simp only [dotP, spr] at h1 h2 h3 h4
    exact Prod.ext (by omega) (by omega)
  · rintro rfl n
    rw [dotP_zero]; exact Int.le_refl 0
/-- By the directions that the program tries. -/
theorem beyond_iff {L : List Pt} (hs : L.Pairwise fun a b => 0 < crs a b) (hu : ∀ e ∈ L, up e) (d : Pt) : (nrmls L).any (beyond L d) = false ↔ inZ L d := by
  constructor
  · intro h
    have hall : ∀ m ∈ nrmls L, absI (dotP m d) ≤ spr m L := fun m hm => by
      have := List.any_eq_false.1 h m hm
      simp only [beyond, decide_eq_true_eq] at this
      omega
    have hside : ∀ g ∈ L, absI (crs g d) ≤ wid g L := fun g hg => by
      have := hall (0 - g.2, g.1) (by unfold nrmls; simp only [List.mem_append, List.mem_flatMap]; exact .inr ⟨g, hg, by simp⟩)
      rw [dotP_perp] at this
      exact this
    have hown : ∀ g ∈ L, absI (dotP g d) ≤ spr g L := fun g hg => hall g (by unfold nrmls; simp only [List.mem_append, List.mem_flatMap]; exact .inr ⟨g, hg, by simp⟩)
    match L, hs, hu, hall, hside, hown with
    | [], _, _, hall, _, _ =>
      have h1 := absI_le.1 (hall (1, 0) (by simp [nrmls]))
      have h2 := absI_le.1 (hall (0, 1) (by simp [nrmls]))
      simp only [dotP, spr] at h1 h2
      exact inZ_nil.2 (Prod.ext (by omega) (by omega))
    | [g], _, hu, _, hside, hown =>
      have h1 := absI_le.1 (hside g (by simp))
      have h2 := hown g (by simp)
      have e : wid g [g] = 0 := by unfold wid; rw [spr_cons, dotP_perp, crs_self]; rfl
      rw [e] at h1
      have e2 : spr g [g] = dotP g g := by rw [spr_cons, absI_of_nn (Int.le_of_lt (dot_self_pos (hu g (by simp))))]; simp [spr]
      rw [e2] at h2
      exact inZ_one (hu g (by simp)) (by omega) h2
    | g :: g' :: L, hs, _, _, hside, _ => exact inZ_sides hs (by simp) hside
  · intro h
    refine List.any_eq_false.2 fun m _ => ?_
    simp only [beyond, decide_eq_true_eq]
    have := h.abs m
    omega
end Go.Proofs.Ytjfnbcifafmefaa
