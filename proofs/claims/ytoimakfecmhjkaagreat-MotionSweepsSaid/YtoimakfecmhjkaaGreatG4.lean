/- Parts of the proof: walks and plain facts. Conditions: as each theorem states. -/
import Derived.Test.YtoimakfecmhjkaaGreatG3
import Derived.Test.YtoimakfecmhjkaaGreatG2

/- Walk by the abstract machine: wayfinderref07.put. Conditions: as each theorem states. -/
namespace Go.Proofs.YtoimakfecmhjkaaGreat
set_option linter.unusedSimpArgs false
set_option linter.unusedVariables false
open Go.RowKit
def putV (H : AHeap) (s : AV) (C : List Pt) (g : Pt) : AV × AHeap := if nrm g = (0, 0) then (s, H) else retP H (putC C (nrm g))
theorem pst_step {C : List Pt} {g : Pt} {i : Nat} (h : i < C.length) : (C.take (i + 1)).foldl (pst g) ([], false) = pst g ((C.take i).foldl (pst g) ([], false)) (gp C i) := by
  rw [List.take_succ_eq_append_getElem h, List.foldl_append, ← gp_eq h]; rfl
theorem pst_len {C : List Pt} {g : Pt} : ∀ i, ((C.take i).foldl (pst g) ([], false)).1.length ≤ 2 * i := fun i => by
  induction i with
  | zero => simp
  | succ i ih =>
    by_cases h : i < C.length
    · rw [pst_step h]
      generalize (C.take i).foldl (pst g) ([], false) = st at *
      unfold pst
      split
      · rw [List.length_append]; simp only [List.length_cons, List.length_nil]; omega
      · split
        · rw [List.length_append]; simp only [List.length_cons, List.length_nil]; omega
        · rw [List.length_append]; simp only [List.length_cons, List.length_nil]; omega
    · rw [List.take_of_length_le (by omega)] at ih ⊢
      omega
set_option maxRecDepth 100000 in
/-- One more generator, none so far. -/
theorem put0_c (H : AHeap) (gx gy : Int) (hgb : -4194304 ≤ gx ∧ gx ≤ 4194304 ∧ -4194304 ≤ gy ∧ gy ≤ 4194304) :
    ACalls Tryz.prog 164 [.sl none 0 (some 0), .agg [.int .i64 gx, .int .i64 gy]] H (fun v H' => v = (putV H (.sl none 0 (some 0)) [] (gx, gy)).1 ∧ H' = (putV H (.sl none 0 (some 0)) [] (gx, gy)).2) := by
  unfold putV
  obtain ⟨u, w, hf⟩ : ∃ u w, nrm (gx, gy) = (u, w) := ⟨_, _, rfl⟩
  have hub : -4194304 ≤ u ∧ u ≤ 4194304 ∧ -4194304 ≤ w ∧ w ≤ 4194304 := by
    have := nrm_bd (M := 4194304) (g := (gx, gy)) hgb
    rw [hf] at this
    exact this
  rw [hf]
  (refine ACalls_pieces Tryz.func164 _ rfl (Nat.le_of_ble_eq_true (by kernel_rfl)) rfl ?_; intro hbel Q hQ hQ' c hc; unfold Tryz.f164 at hc; simp only [Option.some.injEq] at hc; subst hc; clear hQ')
  refine AW_stepA true try_mixed (by kernel_rfl) (fun F2 H2 => F2 = [(0, .sl none 0 (some 0)), (3, .ptr (some (H.length, 0)))] ∧ H2 = H ++ [.cells true 0 [.int .i64 gx, .int .i64 gy]]) ?_ ?_
  · intro J hJ
    simp -implicitDefEqProofs (disch := omega) only [simprocAttr, amset, tyset, Function.comp_apply, one1, lenV, calleeOf, lateOk, belowV, aop, AV.ofValue, AV.ofCell, AV.cells, AV.flat, AV.one, arep, aBin, aAppend, aConv]
    refine hJ _ _ ⟨_, _, _, ⟨rfl, rfl⟩, Abs.by hbel [0] (by decide) ?_⟩
    simp -implicitDefEqProofs (disch := omega) only [absF, absH, W_refl', W_any', W_agg, W_tup, Ws_cons, Ws_refl', Wc_refl', Wcs_cons, Wcs_nil, look, List.cons_append, List.nil_append, List.append_nil, List.length_cons, List.length_nil, Nat.zero_add, Nat.reduceAdd, AV.mv, AV.mvs, ABlk.mv, sig_new0, sig_newk, sig_lt, List.getElem?_cons_zero, List.getElem?_cons_succ, mvs_ints, mvs_bools, mvs_prs, mvs_append, cond_true, cond_false, beq_self_eq_true, Nat.reduceBEq, true_and, and_true, or_true, true_or, and_self, decide_true, Nat.add_zero, reduceCtorEq, false_or, or_false]
    repeat' (first | exact True.intro | exact Nat.add_lt_add_left (by decide) _ | exact Nat.lt_add_of_pos_right (by decide) | refine W_nils ?_ (Or.inr rfl) | refine W_nils ?_ (Or.inl rfl) | refine Wc_nils ?_ (Or.inr rfl) | refine Wc_nils ?_ (Or.inl rfl) | exact W_cap | rfl | refine And.intro ?_ ?_ | exact Or.inl rfl | exact Or.inr rfl | exact Or.inr (Or.inl rfl) | exact Or.inr (Or.inr BW.emp) | exact Or.inr BW.emp | exact BW.emp | exact Or.inr (Or.inr BW.pre) | exact Or.inr BW.pre | exact BW.pre | refine Or.inr (BW.cells ?_) | refine BW.cells ?_ | refine Or.inr (Or.inr (BW.cells ?_)) | exact Wc_cap)
  rintro F2 H2 ⟨rfl, rfl⟩
  refine AW_stepA true try_mixed (by kernel_rfl) (fun F2 H2 => F2 = [(0, .sl none 0 (some 0)), (3, .ptr (some (H.length, 0)))] ∧ H2 = H ++ [.cells true 0 [.int .i64 u, .int .i64 w]]) ?_ ?_
  · intro J hJ
    have neg : (gy < 0 ∨ (gy = 0 ∧ gx < 0)) → u = 0 - gx ∧ w = 0 - gy := fun h => by
      unfold nrm at hf; rw [if_pos h] at hf; simp only [Prod.mk.injEq] at hf; omega
    have pos : ¬ (gy < 0 ∨ (gy = 0 ∧ gx < 0)) → u = gx ∧ w = gy := fun h => by
      unfold nrm at hf; rw [if_neg h] at hf; simp only [Prod.mk.injEq] at hf; omega
    by_cases h1 : gy < 0
    · obtain ⟨rfl, rfl⟩ := neg (.inl h1)
      simp -implicitDefEqProofs (disch := omega) only [h1, simprocAttr, amset, tyset, Function.comp_apply, one1, lenV, calleeOf, lateOk, belowV, aop, AV.ofValue, AV.ofCell, AV.cells, AV.flat, AV.one, arep, aBin, aAppend, aConv]
      refine hJ _ _ ⟨_, _, _, ⟨rfl, rfl⟩, Abs.by hbel [0] (by decide) ?_⟩
      simp -implicitDefEqProofs (disch := omega) only [absF, absH, W_refl', W_any', W_agg, W_tup, Ws_cons, Ws_refl', Wc_refl', Wcs_cons, Wcs_nil, look, List.cons_append, List.nil_append, List.append_nil, List.length_cons, List.length_nil, Nat.zero_add, Nat.reduceAdd, AV.mv, AV.mvs, ABlk.mv, sig_new0, sig_newk, sig_lt, List.getElem?_cons_zero, List.getElem?_cons_succ, mvs_ints, mvs_bools, mvs_prs, mvs_append, cond_true, cond_false, beq_self_eq_true, Nat.reduceBEq, true_and, and_true, or_true, true_or, and_self, decide_true, Nat.add_zero, reduceCtorEq, false_or, or_false]
      repeat' (first | exact True.intro | exact Nat.add_lt_add_left (by decide) _ | exact Nat.lt_add_of_pos_right (by decide) | refine W_nils ?_ (Or.inr rfl) | refine W_nils ?_ (Or.inl rfl) | refine Wc_nils ?_ (Or.inr rfl) | refine Wc_nils ?_ (Or.inl rfl) | exact W_cap | rfl | refine And.intro ?_ ?_ | exact Or.inl rfl | exact Or.inr rfl | exact Or.inr (Or.inl rfl) | exact Or.inr (Or.inr BW.emp) | exact Or.inr BW.emp | exact BW.emp | exact Or.inr (Or.inr BW.pre) | exact Or.inr BW.pre | exact BW.pre | refine Or.inr (BW.cells ?_) | refine BW.cells ?_ | refine Or.inr (Or.inr (BW.cells ?_)) | exact Wc_cap)
    · cases h2 : (gy == 0)
      · have h2' := beq_eq_false_iff_ne.1 h2
        obtain ⟨rfl, rfl⟩ := pos (by omega)
        simp -implicitDefEqProofs (disch := omega) only [h1, h2, simprocAttr, amset, tyset, Function.comp_apply, one1, lenV, calleeOf, lateOk, belowV, aop, AV.ofValue, AV.ofCell, AV.cells, AV.flat, AV.one, arep, aBin, aAppend, aConv]
        refine hJ _ _ ⟨_, _, _, ⟨rfl, rfl⟩, Abs.by hbel [0] (by decide) ?_⟩
        simp -implicitDefEqProofs (disch := omega) only [absF, absH, W_refl', W_any', W_agg, W_tup, Ws_cons, Ws_refl', Wc_refl', Wcs_cons, Wcs_nil, look, List.cons_append, List.nil_append, List.append_nil, List.length_cons, List.length_nil, Nat.zero_add, Nat.reduceAdd, AV.mv, AV.mvs, ABlk.mv, sig_new0, sig_newk, sig_lt, List.getElem?_cons_zero, List.getElem?_cons_succ, mvs_ints, mvs_bools, mvs_prs, mvs_append, cond_true, cond_false, beq_self_eq_true, Nat.reduceBEq, true_and, and_true, or_true, true_or, and_self, decide_true, Nat.add_zero, reduceCtorEq, false_or, or_false]
        repeat' (first | exact True.intro | exact Nat.add_lt_add_left (by decide) _ | exact Nat.lt_add_of_pos_right (by decide) | refine W_nils ?_ (Or.inr rfl) | refine W_nils ?_ (Or.inl rfl) | refine Wc_nils ?_ (Or.inr rfl) | refine Wc_nils ?_ (Or.inl rfl) | exact W_cap | rfl | refine And.intro ?_ ?_ | exact Or.inl rfl | exact Or.inr rfl | exact Or.inr (Or.inl rfl) | exact Or.inr (Or.inr BW.emp) | exact Or.inr BW.emp | exact BW.emp | exact Or.inr (Or.inr BW.pre) | exact Or.inr BW.pre | exact BW.pre | refine Or.inr (BW.cells ?_) | refine BW.cells ?_ | refine Or.inr (Or.inr (BW.cells ?_)) | exact Wc_cap)
      · have h2' := beq_iff_eq.1 h2
        by_cases h3 : gx < 0
        · obtain ⟨rfl, rfl⟩ := neg (.inr ⟨h2', h3⟩)
          simp -implicitDefEqProofs (disch := omega) only [h1, h2, h3, simprocAttr, amset, tyset, Function.comp_apply, one1, lenV, calleeOf, lateOk, belowV, aop, AV.ofValue, AV.ofCell, AV.cells, AV.flat, AV.one, arep, aBin, aAppend, aConv]
          refine hJ _ _ ⟨_, _, _, ⟨rfl, rfl⟩, Abs.by hbel [0] (by decide) ?_⟩
          simp -implicitDefEqProofs (disch := omega) only [absF, absH, W_refl', W_any', W_agg, W_tup, Ws_cons, Ws_refl', Wc_refl', Wcs_cons, Wcs_nil, look, List.cons_append, List.nil_append, List.append_nil, List.length_cons, List.length_nil, Nat.zero_add, Nat.reduceAdd, AV.mv, AV.mvs, ABlk.mv, sig_new0, sig_newk, sig_lt, List.getElem?_cons_zero, List.getElem?_cons_succ, mvs_ints, mvs_bools, mvs_prs, mvs_append, cond_true, cond_false, beq_self_eq_true, Nat.reduceBEq, true_and, and_true, or_true, true_or, and_self, decide_true, Nat.add_zero, reduceCtorEq, false_or, or_false]
          repeat' (first | exact True.intro | exact Nat.add_lt_add_left (by decide) _ | exact Nat.lt_add_of_pos_right (by decide) | refine W_nils ?_ (Or.inr rfl) | refine W_nils ?_ (Or.inl rfl) | refine Wc_nils ?_ (Or.inr rfl) | refine Wc_nils ?_ (Or.inl rfl) | exact W_cap | rfl | refine And.intro ?_ ?_ | exact Or.inl rfl | exact Or.inr rfl | exact Or.inr (Or.inl rfl) | exact Or.inr (Or.inr BW.emp) | exact Or.inr BW.emp | exact BW.emp | exact Or.inr (Or.inr BW.pre) | exact Or.inr BW.pre | exact BW.pre | refine Or.inr (BW.cells ?_) | refine BW.cells ?_ | refine Or.inr (Or.inr (BW.cells ?_)) | exact Wc_cap)
        · obtain ⟨rfl, rfl⟩ := pos (by omega)
          simp -implicitDefEqProofs (disch := omega) only [h1, h2, h3, simprocAttr, amset, tyset, Function.comp_apply, one1, lenV, calleeOf, lateOk, belowV, aop, AV.ofValue, AV.ofCell, AV.cells, AV.flat, AV.one, arep, aBin, aAppend, aConv]
          refine hJ _ _ ⟨_, _, _, ⟨rfl, rfl⟩, Abs.by hbel [0] (by decide) ?_⟩
          simp -implicitDefEqProofs (disch := omega) only [absF, absH, W_refl', W_any', W_agg, W_tup, Ws_cons, Ws_refl', Wc_refl', Wcs_cons, Wcs_nil, look, List.cons_append, List.nil_append, List.append_nil, List.length_cons, List.length_nil, Nat.zero_add, Nat.reduceAdd, AV.mv, AV.mvs, ABlk.mv, sig_new0, sig_newk, sig_lt, List.getElem?_cons_zero, List.getElem?_cons_succ, mvs_ints, mvs_bools, mvs_prs, mvs_append, cond_true, cond_false, beq_self_eq_true, Nat.reduceBEq, true_and, and_true, or_true, true_or, and_self, decide_true, Nat.add_zero, reduceCtorEq, false_or, or_false]
          repeat' (first | exact True.intro | exact Nat.add_lt_add_left (by decide) _ | exact Nat.lt_add_of_pos_right (by decide) | refine W_nils ?_ (Or.inr rfl) | refine W_nils ?_ (Or.inl rfl) | refine Wc_nils ?_ (Or.inr rfl) | refine Wc_nils ?_ (Or.inl rfl) | exact W_cap | rfl | refine And.intro ?_ ?_ | exact Or.inl rfl | exact Or.inr rfl | exact Or.inr (Or.inl rfl) | exact Or.inr (Or.inr BW.emp) | exact Or.inr BW.emp | exact BW.emp | exact Or.inr (Or.inr BW.pre) | exact Or.inr BW.pre | exact BW.pre | refine Or.inr (BW.cells ?_) | refine BW.cells ?_ | refine Or.inr (Or.inr (BW.cells ?_)) | exact Wc_cap)
  rintro F2 H2 ⟨rfl, rfl⟩
  refine AW_fin true try_mixed (by kernel_rfl) ?_
  clear hf hgb
  cases hz1 : (u == 0)
  · rw [if_neg (fun h => by injection h with h _; exact absurd h (beq_eq_false_iff_ne.1 hz1))] at hQ
    simp -implicitDefEqProofs (disch := omega) only [hz1, simprocAttr, amset, tyset, Function.comp_apply, one1, lenV, calleeOf, lateOk, belowV, aop, AV.ofValue, AV.ofCell, AV.cells, AV.flat, AV.one, arep, aBin, aAppend, aConv]
    rw [show putC [] (u, w) = [(u, w)] from rfl, retP_pos (by simp)] at hQ
    refine go_loop try_mixed (by kernel_rfl) (fun k F Hx => F = [(0, .sl none 0 (some 0)), (3, .ptr (some (H.length, 0))), (5, .sl none 0 (some 0)), (6, .bool false), (7, .int .i64 0)] ∧ Hx = H ++ [.cells true 0 [.int .i64 u, .int .i64 w]]) 1 ?_ ?_
    · refine ⟨_, _, _, ⟨rfl, rfl⟩, Abs.by hbel [0] (by decide) ?_⟩
      simp -implicitDefEqProofs (disch := omega) only [absF, absH, W_refl', W_any', W_agg, W_tup, Ws_cons, Ws_refl', Wc_refl', Wcs_cons, Wcs_nil, look, List.cons_append, List.nil_append, List.append_nil, List.length_cons, List.length_nil, Nat.zero_add, Nat.reduceAdd, AV.mv, AV.mvs, ABlk.mv, sig_new0, sig_newk, sig_lt, List.getElem?_cons_zero, List.getElem?_cons_succ, mvs_ints, mvs_bools, mvs_prs, mvs_append, cond_true, cond_false, beq_self_eq_true, Nat.reduceBEq, true_and, and_true, or_true, true_or, and_self, decide_true, Nat.add_zero, reduceCtorEq, false_or, or_false]
      repeat' (first | exact True.intro | exact Nat.add_lt_add_left (by decide) _ | exact Nat.lt_add_of_pos_right (by decide) | refine W_nils ?_ (Or.inr rfl) | refine W_nils ?_ (Or.inl rfl) | refine Wc_nils ?_ (Or.inr rfl) | refine Wc_nils ?_ (Or.inl rfl) | exact W_cap | rfl | refine And.intro ?_ ?_ | exact Or.inl rfl | exact Or.inr rfl | exact Or.inr (Or.inl rfl) | exact Or.inr (Or.inr BW.emp) | exact Or.inr BW.emp | exact BW.emp | exact Or.inr (Or.inr BW.pre) | exact Or.inr BW.pre | exact BW.pre | refine Or.inr (BW.cells ?_) | refine BW.cells ?_ | refine Or.inr (Or.inr (BW.cells ?_)) | exact Wc_cap)
    · rintro k F Hx ⟨rfl, rfl⟩ J hJ
      simp -implicitDefEqProofs (disch := omega) only [Int.lt_irrefl, simprocAttr, amset, tyset, Function.comp_apply, one1, lenV, calleeOf, lateOk, belowV, aop, AV.ofValue, AV.ofCell, AV.cells, AV.flat, AV.one, arep, aBin, aAppend, aConv]
      refine hQ _ _ (end_by (.inl rfl) hbel (x1 := .sl (some (H.length + 2, 0)) 1 none) (.sl (some (H.length, 0)) 1 none) (ret_of Tryz.results164 (by simp -implicitDefEqProofs (disch := omega) only [simprocAttr, amset, tyset, Function.comp_apply, one1, lenV, calleeOf, lateOk, belowV, aop, AV.ofValue, AV.ofCell, AV.cells, AV.flat, AV.one, arep, aBin, aAppend, aConv])) [2] (by decide) ⟨rfl, rfl⟩ ?_)
      simp -implicitDefEqProofs (disch := omega) only [absF, absH, W_refl', W_any', W_agg, W_tup, Ws_cons, Ws_refl', Wc_refl', Wcs_cons, Wcs_nil, look, List.cons_append, List.nil_append, List.append_nil, List.length_cons, List.length_nil, Nat.zero_add, Nat.reduceAdd, AV.mv, AV.mvs, ABlk.mv, sig_new0, sig_newk, sig_lt, List.getElem?_cons_zero, List.getElem?_cons_succ, mvs_ints, mvs_bools, mvs_prs, mvs_append, cond_true, cond_false, beq_self_eq_true, Nat.reduceBEq, true_and, and_true, or_true, true_or, and_self, decide_true, Nat.add_zero, reduceCtorEq, false_or, or_false]
      repeat' (first | exact True.intro | exact Nat.add_lt_add_left (by decide) _ | exact Nat.lt_add_of_pos_right (by decide) | refine W_nils ?_ (Or.inr rfl) | refine W_nils ?_ (Or.inl rfl) | refine Wc_nils ?_ (Or.inr rfl) | refine Wc_nils ?_ (Or.inl rfl) | exact W_cap | rfl | refine And.intro ?_ ?_ | exact Or.inl rfl | exact Or.inr rfl | exact Or.inr (Or.inl rfl) | exact Or.inr (Or.inr BW.emp) | exact Or.inr BW.emp | exact BW.emp | exact Or.inr (Or.inr BW.pre) | exact Or.inr BW.pre | exact BW.pre | refine Or.inr (BW.cells ?_) | refine BW.cells ?_ | refine Or.inr (Or.inr (BW.cells ?_)) | exact Wc_cap)
  cases hz2 : (w == 0)
  · rw [if_neg (fun h => by injection h with _ h; exact absurd h (beq_eq_false_iff_ne.1 hz2))] at hQ
    simp -implicitDefEqProofs (disch := omega) only [hz1, hz2, simprocAttr, amset, tyset, Function.comp_apply, one1, lenV, calleeOf, lateOk, belowV, aop, AV.ofValue, AV.ofCell, AV.cells, AV.flat, AV.one, arep, aBin, aAppend, aConv]
    rw [show putC [] (u, w) = [(u, w)] from rfl, retP_pos (by simp)] at hQ
    refine go_loop try_mixed (by kernel_rfl) (fun k F Hx => F = [(0, .sl none 0 (some 0)), (3, .ptr (some (H.length, 0))), (5, .sl none 0 (some 0)), (6, .bool false), (7, .int .i64 0)] ∧ Hx = H ++ [.cells true 0 [.int .i64 u, .int .i64 w]]) 1 ?_ ?_
    · refine ⟨_, _, _, ⟨rfl, rfl⟩, Abs.by hbel [0] (by decide) ?_⟩
      simp -implicitDefEqProofs (disch := omega) only [absF, absH, W_refl', W_any', W_agg, W_tup, Ws_cons, Ws_refl', Wc_refl', Wcs_cons, Wcs_nil, look, List.cons_append, List.nil_append, List.append_nil, List.length_cons, List.length_nil, Nat.zero_add, Nat.reduceAdd, AV.mv, AV.mvs, ABlk.mv, sig_new0, sig_newk, sig_lt, List.getElem?_cons_zero, List.getElem?_cons_succ, mvs_ints, mvs_bools, mvs_prs, mvs_append, cond_true, cond_false, beq_self_eq_true, Nat.reduceBEq, true_and, and_true, or_true, true_or, and_self, decide_true, Nat.add_zero, reduceCtorEq, false_or, or_false]
      repeat' (first | exact True.intro | exact Nat.add_lt_add_left (by decide) _ | exact Nat.lt_add_of_pos_right (by decide) | refine W_nils ?_ (Or.inr rfl) | refine W_nils ?_ (Or.inl rfl) | refine Wc_nils ?_ (Or.inr rfl) | refine Wc_nils ?_ (Or.inl rfl) | exact W_cap | rfl | refine And.intro ?_ ?_ | exact Or.inl rfl | exact Or.inr rfl | exact Or.inr (Or.inl rfl) | exact Or.inr (Or.inr BW.emp) | exact Or.inr BW.emp | exact BW.emp | exact Or.inr (Or.inr BW.pre) | exact Or.inr BW.pre | exact BW.pre | refine Or.inr (BW.cells ?_) | refine BW.cells ?_ | refine Or.inr (Or.inr (BW.cells ?_)) | exact Wc_cap)
    · rintro k F Hx ⟨rfl, rfl⟩ J hJ
      simp -implicitDefEqProofs (disch := omega) only [Int.lt_irrefl, simprocAttr, amset, tyset, Function.comp_apply, one1, lenV, calleeOf, lateOk, belowV, aop, AV.ofValue, AV.ofCell, AV.cells, AV.flat, AV.one, arep, aBin, aAppend, aConv]
      refine hQ _ _ (end_by (.inl rfl) hbel (x1 := .sl (some (H.length + 2, 0)) 1 none) (.sl (some (H.length, 0)) 1 none) (ret_of Tryz.results164 (by simp -implicitDefEqProofs (disch := omega) only [simprocAttr, amset, tyset, Function.comp_apply, one1, lenV, calleeOf, lateOk, belowV, aop, AV.ofValue, AV.ofCell, AV.cells, AV.flat, AV.one, arep, aBin, aAppend, aConv])) [2] (by decide) ⟨rfl, rfl⟩ ?_)
      simp -implicitDefEqProofs (disch := omega) only [absF, absH, W_refl', W_any', W_agg, W_tup, Ws_cons, Ws_refl', Wc_refl', Wcs_cons, Wcs_nil, look, List.cons_append, List.nil_append, List.append_nil, List.length_cons, List.length_nil, Nat.zero_add, Nat.reduceAdd, AV.mv, AV.mvs, ABlk.mv, sig_new0, sig_newk, sig_lt, List.getElem?_cons_zero, List.getElem?_cons_succ, mvs_ints, mvs_bools, mvs_prs, mvs_append, cond_true, cond_false, beq_self_eq_true, Nat.reduceBEq, true_and, and_true, or_true, true_or, and_self, decide_true, Nat.add_zero, reduceCtorEq, false_or, or_false]
      repeat' (first | exact True.intro | exact Nat.add_lt_add_left (by decide) _ | exact Nat.lt_add_of_pos_right (by decide) | refine W_nils ?_ (Or.inr rfl) | refine W_nils ?_ (Or.inl rfl) | refine Wc_nils ?_ (Or.inr rfl) | refine Wc_nils ?_ (Or.inl rfl) | exact W_cap | rfl | refine And.intro ?_ ?_ | exact Or.inl rfl | exact Or.inr rfl | exact Or.inr (Or.inl rfl) | exact Or.inr (Or.inr BW.emp) | exact Or.inr BW.emp | exact BW.emp | exact Or.inr (Or.inr BW.pre) | exact Or.inr BW.pre | exact BW.pre | refine Or.inr (BW.cells ?_) | refine BW.cells ?_ | refine Or.inr (Or.inr (BW.cells ?_)) | exact Wc_cap)
  simp -implicitDefEqProofs (disch := omega) only [hz1, hz2, simprocAttr, amset, tyset, Function.comp_apply, one1, lenV, calleeOf, lateOk, belowV, aop, AV.ofValue, AV.ofCell, AV.cells, AV.flat, AV.one, arep, aBin, aAppend, aConv]
  rw [if_pos (by rw [beq_iff_eq.1 hz1, beq_iff_eq.1 hz2])] at hQ
  refine hQ _ _ (end_by (l2 := []) (.inl rfl) hbel (x1 := .sl none 0 (some 0)) (.sl none 0 (some 0)) (ret_of Tryz.results164 (by simp -implicitDefEqProofs (disch := omega) only [simprocAttr, amset, tyset, Function.comp_apply, one1, lenV, calleeOf, lateOk, belowV, aop, AV.ofValue, AV.ofCell, AV.cells, AV.flat, AV.one, arep, aBin, aAppend, aConv])) [] (by decide) ⟨rfl, by simp⟩ ?_)
  simp -implicitDefEqProofs (disch := omega) only [absF, absH, W_refl', W_any', W_agg, W_tup, Ws_cons, Ws_refl', Wc_refl', Wcs_cons, Wcs_nil, look, List.cons_append, List.nil_append, List.append_nil, List.length_cons, List.length_nil, Nat.zero_add, Nat.reduceAdd, AV.mv, AV.mvs, ABlk.mv, sig_new0, sig_newk, sig_lt, List.getElem?_cons_zero, List.getElem?_cons_succ, mvs_ints, mvs_bools, mvs_prs, mvs_append, cond_true, cond_false, beq_self_eq_true, Nat.reduceBEq, true_and, and_true, or_true, true_or, and_self, decide_true, Nat.add_zero, reduceCtorEq, false_or, or_false]
  repeat' (first | exact True.intro | exact Nat.add_lt_add_left (by decide) _ | exact Nat.lt_add_of_pos_right (by decide) | refine W_nils ?_ (Or.inr rfl) | refine W_nils ?_ (Or.inl rfl) | refine Wc_nils ?_ (Or.inr rfl) | refine Wc_nils ?_ (Or.inl rfl) | exact W_cap | rfl | refine And.intro ?_ ?_ | exact Or.inl rfl | exact Or.inr rfl | exact Or.inr (Or.inl rfl) | exact Or.inr (Or.inr BW.emp) | exact Or.inr BW.emp | exact BW.emp | exact Or.inr (Or.inr BW.pre) | exact Or.inr BW.pre | exact BW.pre | refine Or.inr (BW.cells ?_) | refine BW.cells ?_ | refine Or.inr (Or.inr (BW.cells ?_)) | exact Wc_cap)
set_option maxHeartbeats 8000000 in
set_option maxRecDepth 100000 in
/-- One more generator. -/
theorem put1_c (H : AHeap) (b : Nat) (own : Bool) (cap : Option Nat) (C : List Pt) (hb : H[b]? = some (.cells own 2 (prs C))) (hl : C.length ≤ 40) (hC : ∀ e ∈ C, Bd 260000000 e) (gx gy : Int) (hgb : -4194304 ≤ gx ∧ gx ≤ 4194304 ∧ -4194304 ≤ gy ∧ gy ≤ 4194304) :
    ACalls Tryz.prog 164 [.sl (some (b, 0)) C.length cap, .agg [.int .i64 gx, .int .i64 gy]] H (fun v H' => v = (putV H (.sl (some (b, 0)) C.length cap) C (gx, gy)).1 ∧ H' = (putV H (.sl (some (b, 0)) C.length cap) C (gx, gy)).2) := by
  unfold putV
  have hbl := getElem?_lt hb
  have hb0 := fun l => get_app (l := l) hb
  generalize hn : C.length = n at *
  obtain ⟨u, w, hf⟩ : ∃ u w, nrm (gx, gy) = (u, w) := ⟨_, _, rfl⟩
  have hub : -4194304 ≤ u ∧ u ≤ 4194304 ∧ -4194304 ≤ w ∧ w ≤ 4194304 := by
    have := nrm_bd (M := 4194304) (g := (gx, gy)) hgb
    rw [hf] at this
    exact this
  rw [hf]
  (refine ACalls_pieces Tryz.func164 _ rfl (Nat.le_of_ble_eq_true (by kernel_rfl)) rfl ?_; intro hbel Q hQ hQ' c hc; unfold Tryz.f164 at hc; simp only [Option.some.injEq] at hc; subst hc; clear hQ')
  refine AW_stepA true try_mixed (by kernel_rfl) (fun F2 H2 => F2 = [(0, .sl (some (b, 0)) n cap), (3, .ptr (some (H.length, 0)))] ∧ H2 = H ++ [.cells true 0 [.int .i64 gx, .int .i64 gy]]) ?_ ?_
  · intro J hJ
    simp -implicitDefEqProofs (disch := omega) only [simprocAttr, amset, tyset, Function.comp_apply, one1, lenV, calleeOf, lateOk, belowV, aop, AV.ofValue, AV.ofCell, AV.cells, AV.flat, AV.one, arep, aBin, aAppend, aConv]
    refine hJ _ _ ⟨_, _, _, ⟨rfl, rfl⟩, Abs.by hbel [0] (by decide) ?_⟩
    simp -implicitDefEqProofs (disch := omega) only [absF, absH, W_refl', W_any', W_agg, W_tup, Ws_cons, Ws_refl', Wc_refl', Wcs_cons, Wcs_nil, look, List.cons_append, List.nil_append, List.append_nil, List.length_cons, List.length_nil, Nat.zero_add, Nat.reduceAdd, AV.mv, AV.mvs, ABlk.mv, sig_new0, sig_newk, sig_lt, List.getElem?_cons_zero, List.getElem?_cons_succ, mvs_ints, mvs_bools, mvs_prs, mvs_append, cond_true, cond_false, beq_self_eq_true, Nat.reduceBEq, true_and, and_true, or_true, true_or, and_self, decide_true, Nat.add_zero, reduceCtorEq, false_or, or_false]
    repeat' (first | exact True.intro | exact Nat.add_lt_add_left (by decide) _ | exact Nat.lt_add_of_pos_right (by decide) | refine W_nils ?_ (Or.inr rfl) | refine W_nils ?_ (Or.inl rfl) | refine Wc_nils ?_ (Or.inr rfl) | refine Wc_nils ?_ (Or.inl rfl) | exact W_cap | rfl | refine And.intro ?_ ?_ | exact Or.inl rfl | exact Or.inr rfl | exact Or.inr (Or.inl rfl) | exact Or.inr (Or.inr BW.emp) | exact Or.inr BW.emp | exact BW.emp | exact Or.inr (Or.inr BW.pre) | exact Or.inr BW.pre | exact BW.pre | refine Or.inr (BW.cells ?_) | refine BW.cells ?_ | refine Or.inr (Or.inr (BW.cells ?_)) | exact Wc_cap)
  rintro F2 H2 ⟨rfl, rfl⟩
  refine AW_stepA true try_mixed (by kernel_rfl) (fun F2 H2 => F2 = [(0, .sl (some (b, 0)) n cap), (3, .ptr (some (H.length, 0)))] ∧ H2 = H ++ [.cells true 0 [.int .i64 u, .int .i64 w]]) ?_ ?_
  · intro J hJ
    have neg : (gy < 0 ∨ (gy = 0 ∧ gx < 0)) → u = 0 - gx ∧ w = 0 - gy := fun h => by
      unfold nrm at hf; rw [if_pos h] at hf; simp only [Prod.mk.injEq] at hf; omega
    have pos : ¬ (gy < 0 ∨ (gy = 0 ∧ gx < 0)) → u = gx ∧ w = gy := fun h => by
      unfold nrm at hf; rw [if_neg h] at hf; simp only [Prod.mk.injEq] at hf; omega
    by_cases h1 : gy < 0
    · obtain ⟨rfl, rfl⟩ := neg (.inl h1)
      simp -implicitDefEqProofs (disch := omega) only [h1, simprocAttr, amset, tyset, Function.comp_apply, one1, lenV, calleeOf, lateOk, belowV, aop, AV.ofValue, AV.ofCell, AV.cells, AV.flat, AV.one, arep, aBin, aAppend, aConv]
      refine hJ _ _ ⟨_, _, _, ⟨rfl, rfl⟩, Abs.by hbel [0] (by decide) ?_⟩
      simp -implicitDefEqProofs (disch := omega) only [absF, absH, W_refl', W_any', W_agg, W_tup, Ws_cons, Ws_refl', Wc_refl', Wcs_cons, Wcs_nil, look, List.cons_append, List.nil_append, List.append_nil, List.length_cons, List.length_nil, Nat.zero_add, Nat.reduceAdd, AV.mv, AV.mvs, ABlk.mv, sig_new0, sig_newk, sig_lt, List.getElem?_cons_zero, List.getElem?_cons_succ, mvs_ints, mvs_bools, mvs_prs, mvs_append, cond_true, cond_false, beq_self_eq_true, Nat.reduceBEq, true_and, and_true, or_true, true_or, and_self, decide_true, Nat.add_zero, reduceCtorEq, false_or, or_false]
      repeat' (first | exact True.intro | exact Nat.add_lt_add_left (by decide) _ | exact Nat.lt_add_of_pos_right (by decide) | refine W_nils ?_ (Or.inr rfl) | refine W_nils ?_ (Or.inl rfl) | refine Wc_nils ?_ (Or.inr rfl) | refine Wc_nils ?_ (Or.inl rfl) | exact W_cap | rfl | refine And.intro ?_ ?_ | exact Or.inl rfl | exact Or.inr rfl | exact Or.inr (Or.inl rfl) | exact Or.inr (Or.inr BW.emp) | exact Or.inr BW.emp | exact BW.emp | exact Or.inr (Or.inr BW.pre) | exact Or.inr BW.pre | exact BW.pre | refine Or.inr (BW.cells ?_) | refine BW.cells ?_ | refine Or.inr (Or.inr (BW.cells ?_)) | exact Wc_cap)
    · cases h2 : (gy == 0)
      · have h2' := beq_eq_false_iff_ne.1 h2
        obtain ⟨rfl, rfl⟩ := pos (by omega)
        simp -implicitDefEqProofs (disch := omega) only [h1, h2, simprocAttr, amset, tyset, Function.comp_apply, one1, lenV, calleeOf, lateOk, belowV, aop, AV.ofValue, AV.ofCell, AV.cells, AV.flat, AV.one, arep, aBin, aAppend, aConv]
        refine hJ _ _ ⟨_, _, _, ⟨rfl, rfl⟩, Abs.by hbel [0] (by decide) ?_⟩
        simp -implicitDefEqProofs (disch := omega) only [absF, absH, W_refl', W_any', W_agg, W_tup, Ws_cons, Ws_refl', Wc_refl', Wcs_cons, Wcs_nil, look, List.cons_append, List.nil_append, List.append_nil, List.length_cons, List.length_nil, Nat.zero_add, Nat.reduceAdd, AV.mv, AV.mvs, ABlk.mv, sig_new0, sig_newk, sig_lt, List.getElem?_cons_zero, List.getElem?_cons_succ, mvs_ints, mvs_bools, mvs_prs, mvs_append, cond_true, cond_false, beq_self_eq_true, Nat.reduceBEq, true_and, and_true, or_true, true_or, and_self, decide_true, Nat.add_zero, reduceCtorEq, false_or, or_false]
        repeat' (first | exact True.intro | exact Nat.add_lt_add_left (by decide) _ | exact Nat.lt_add_of_pos_right (by decide) | refine W_nils ?_ (Or.inr rfl) | refine W_nils ?_ (Or.inl rfl) | refine Wc_nils ?_ (Or.inr rfl) | refine Wc_nils ?_ (Or.inl rfl) | exact W_cap | rfl | refine And.intro ?_ ?_ | exact Or.inl rfl | exact Or.inr rfl | exact Or.inr (Or.inl rfl) | exact Or.inr (Or.inr BW.emp) | exact Or.inr BW.emp | exact BW.emp | exact Or.inr (Or.inr BW.pre) | exact Or.inr BW.pre | exact BW.pre | refine Or.inr (BW.cells ?_) | refine BW.cells ?_ | refine Or.inr (Or.inr (BW.cells ?_)) | exact Wc_cap)
      · have h2' := beq_iff_eq.1 h2
        by_cases h3 : gx < 0
        · obtain ⟨rfl, rfl⟩ := neg (.inr ⟨h2', h3⟩)
          simp -implicitDefEqProofs (disch := omega) only [h1, h2, h3, simprocAttr, amset, tyset, Function.comp_apply, one1, lenV, calleeOf, lateOk, belowV, aop, AV.ofValue, AV.ofCell, AV.cells, AV.flat, AV.one, arep, aBin, aAppend, aConv]
          refine hJ _ _ ⟨_, _, _, ⟨rfl, rfl⟩, Abs.by hbel [0] (by decide) ?_⟩
          simp -implicitDefEqProofs (disch := omega) only [absF, absH, W_refl', W_any', W_agg, W_tup, Ws_cons, Ws_refl', Wc_refl', Wcs_cons, Wcs_nil, look, List.cons_append, List.nil_append, List.append_nil, List.length_cons, List.length_nil, Nat.zero_add, Nat.reduceAdd, AV.mv, AV.mvs, ABlk.mv, sig_new0, sig_newk, sig_lt, List.getElem?_cons_zero, List.getElem?_cons_succ, mvs_ints, mvs_bools, mvs_prs, mvs_append, cond_true, cond_false, beq_self_eq_true, Nat.reduceBEq, true_and, and_true, or_true, true_or, and_self, decide_true, Nat.add_zero, reduceCtorEq, false_or, or_false]
          repeat' (first | exact True.intro | exact Nat.add_lt_add_left (by decide) _ | exact Nat.lt_add_of_pos_right (by decide) | refine W_nils ?_ (Or.inr rfl) | refine W_nils ?_ (Or.inl rfl) | refine Wc_nils ?_ (Or.inr rfl) | refine Wc_nils ?_ (Or.inl rfl) | exact W_cap | rfl | refine And.intro ?_ ?_ | exact Or.inl rfl | exact Or.inr rfl | exact Or.inr (Or.inl rfl) | exact Or.inr (Or.inr BW.emp) | exact Or.inr BW.emp | exact BW.emp | exact Or.inr (Or.inr BW.pre) | exact Or.inr BW.pre | exact BW.pre | refine Or.inr (BW.cells ?_) | refine BW.cells ?_ | refine Or.inr (Or.inr (BW.cells ?_)) | exact Wc_cap)
        · obtain ⟨rfl, rfl⟩ := pos (by omega)
          simp -implicitDefEqProofs (disch := omega) only [h1, h2, h3, simprocAttr, amset, tyset, Function.comp_apply, one1, lenV, calleeOf, lateOk, belowV, aop, AV.ofValue, AV.ofCell, AV.cells, AV.flat, AV.one, arep, aBin, aAppend, aConv]
          refine hJ _ _ ⟨_, _, _, ⟨rfl, rfl⟩, Abs.by hbel [0] (by decide) ?_⟩
          simp -implicitDefEqProofs (disch := omega) only [absF, absH, W_refl', W_any', W_agg, W_tup, Ws_cons, Ws_refl', Wc_refl', Wcs_cons, Wcs_nil, look, List.cons_append, List.nil_append, List.append_nil, List.length_cons, List.length_nil, Nat.zero_add, Nat.reduceAdd, AV.mv, AV.mvs, ABlk.mv, sig_new0, sig_newk, sig_lt, List.getElem?_cons_zero, List.getElem?_cons_succ, mvs_ints, mvs_bools, mvs_prs, mvs_append, cond_true, cond_false, beq_self_eq_true, Nat.reduceBEq, true_and, and_true, or_true, true_or, and_self, decide_true, Nat.add_zero, reduceCtorEq, false_or, or_false]
          repeat' (first | exact True.intro | exact Nat.add_lt_add_left (by decide) _ | exact Nat.lt_add_of_pos_right (by decide) | refine W_nils ?_ (Or.inr rfl) | refine W_nils ?_ (Or.inl rfl) | refine Wc_nils ?_ (Or.inr rfl) | refine Wc_nils ?_ (Or.inl rfl) | exact W_cap | rfl | refine And.intro ?_ ?_ | exact Or.inl rfl | exact Or.inr rfl | exact Or.inr (Or.inl rfl) | exact Or.inr (Or.inr BW.emp) | exact Or.inr BW.emp | exact BW.emp | exact Or.inr (Or.inr BW.pre) | exact Or.inr BW.pre | exact BW.pre | refine Or.inr (BW.cells ?_) | refine BW.cells ?_ | refine Or.inr (Or.inr (BW.cells ?_)) | exact Wc_cap)
  rintro F2 H2 ⟨rfl, rfl⟩
  refine AW_fin true try_mixed (by kernel_rfl) ?_
  clear hf hgb
  cases hz1 : (u == 0)
  · rw [if_neg (fun h => by injection h with h _; exact absurd h (beq_eq_false_iff_ne.1 hz1))] at hQ
    simp -implicitDefEqProofs (disch := omega) only [hz1, simprocAttr, amset, tyset, Function.comp_apply, one1, lenV, calleeOf, lateOk, belowV, aop, AV.ofValue, AV.ofCell, AV.cells, AV.flat, AV.one, arep, aBin, aAppend, aConv]
    refine go_loop try_mixed (by kernel_rfl) (fun k F Hx => ∃ (i : Nat) (s : AV) (X : ABlk), i + k = n ∧ OutP (H.length + 1) s X ((C.take i).foldl (pst (u, w)) ([], false)).1 ∧
      F = [(0, .sl (some (b, 0)) n none), (3, .ptr (some (H.length, 0))), (5, s), (6, .bool ((C.take i).foldl (pst (u, w)) ([], false)).2), (7, .int .i64 (i : Nat))] ∧
      Hx = H ++ [.cells true 0 [.int .i64 u, .int .i64 w], X]) n ?_ ?_
    · refine ⟨_, _, _, ⟨0, _, _, by omega, .inl ⟨rfl, rfl, rfl⟩, rfl, rfl⟩, Abs.by hbel [0, 1] (by decide) ?_⟩
      simp -implicitDefEqProofs (disch := omega) only [absF, absH, W_refl', W_any', W_agg, W_tup, Ws_cons, Ws_refl', Wc_refl', Wcs_cons, Wcs_nil, look, List.cons_append, List.nil_append, List.append_nil, List.length_cons, List.length_nil, Nat.zero_add, Nat.reduceAdd, AV.mv, AV.mvs, ABlk.mv, sig_new0, sig_newk, sig_lt, List.getElem?_cons_zero, List.getElem?_cons_succ, mvs_ints, mvs_bools, mvs_prs, mvs_append, cond_true, cond_false, beq_self_eq_true, Nat.reduceBEq, true_and, and_true, or_true, true_or, and_self, decide_true, Nat.add_zero, reduceCtorEq, false_or, or_false]
      repeat' (first | exact True.intro | exact Nat.add_lt_add_left (by decide) _ | exact Nat.lt_add_of_pos_right (by decide) | refine W_nils ?_ (Or.inr rfl) | refine W_nils ?_ (Or.inl rfl) | refine Wc_nils ?_ (Or.inr rfl) | refine Wc_nils ?_ (Or.inl rfl) | exact W_cap | rfl | refine And.intro ?_ ?_ | exact Or.inl rfl | exact Or.inr rfl | exact Or.inr (Or.inl rfl) | exact Or.inr (Or.inr BW.emp) | exact Or.inr BW.emp | exact BW.emp | exact Or.inr (Or.inr BW.pre) | exact Or.inr BW.pre | exact BW.pre | refine Or.inr (BW.cells ?_) | refine BW.cells ?_ | refine Or.inr (Or.inr (BW.cells ?_)) | exact Wc_cap)
    · rintro k F Hx ⟨i, s, X, hik, hO, rfl, rfl⟩ J hJ
      have hpl := pst_len (C := C) (g := (u, w)) i
      have hps := fun h => pst_step (C := C) (g := (u, w)) (i := i) h
      have fin : ∀ (d' : Bool) (L' : List Pt) (sel : List Nat), sel.Nodup → 0 < L'.length → i < C.length → (C.take (i + 1)).foldl (pst (u, w)) ([], false) = (L', d') → ∀ (F : Fr) (l1 : AHeap),
          (absF (H.length + l1.length) (sig H.length l1.length sel) F [(0, .sl (some (b, 0)) n none), (3, .ptr (some (H.length, 0))), (5, .sl (some (H.length + 1, 0)) L'.length none), (6, .bool d'), (7, .int .i64 ((i + 1 : Nat) : Int))] ∧
            absH (H.length + l1.length) (sig H.length l1.length sel) l1 sel [.cells true 0 [.int .i64 u, .int .i64 w], .cells true 2 (prs L')]) → J F (H ++ l1) := fun d' L' sel hnd hl0 hi hh F l1 ha =>
        hJ _ _ ⟨k - 1, by omega, _, _, _, ⟨i + 1, _, _, by omega, by rw [hh]; exact .inr ⟨hl0, rfl, rfl⟩, by rw [hh], rfl⟩, Abs.by hbel sel hnd ha⟩
      have hend : putC C (u, w) = if ((C.take n).foldl (pst (u, w)) ([], false)).2 = true then ((C.take n).foldl (pst (u, w)) ([], false)).1 else ((C.take n).foldl (pst (u, w)) ([], false)).1 ++ [(u, w)] := by
        rw [List.take_of_length_le (by omega)]; rfl
      by_cases hi : i < C.length
      · have hii : (i : Int) < (n : Int) := by omega
        have q0 := prs_load hi
        have q1 := prs_at0 hi
        have q2 := prs_at1 hi
        have hg : gp C i = C[i] := gp_eq hi
        have heb := hC C[i] (List.getElem_mem hi)
        rw [← hg] at heb
        have heb2 : Bd 268435456 (gp C i) := by unfold Bd at *; omega
        have hebd : -260000000 ≤ g1 C i ∧ g1 C i ≤ 260000000 ∧ -260000000 ≤ g2 C i ∧ g2 C i ≤ 260000000 := heb
        have hgb2 : Bd 268435456 (u, w) := by unfold Bd; simp only; omega
        have hps := hps hi
        generalize (C.take i).foldl (pst (u, w)) ([], false) = st at *
        obtain ⟨L, d⟩ := st
        simp only at hO hpl
        have hLt : List.take (L.length * 2) (prs L) = prs L := List.take_of_length_le (by rw [prs_len]; omega)
        simp -implicitDefEqProofs (disch := omega) only [hii, hb0, q0, simprocAttr, amset, tyset, Function.comp_apply, one1, lenV, calleeOf, lateOk, belowV, aop, AV.ofValue, AV.ofCell, AV.cells, AV.flat, AV.one, arep, aBin, aAppend, aConv]
        repeat refine And.intro (by omega) ?_
        refine call_d (by kernel_rfl) (rcross_c _ (u, w) (gp C i) hgb2 heb2) ?_
        have hLt2 : List.take ((L.length + 1) * 2) (prs (L ++ [(u, w)])) = prs (L ++ [(u, w)]) := List.take_of_length_le (by rw [prs_len, List.length_append]; simp)
        cases hc : (crs (u, w) (gp C i) == 0)
        · have hc' := beq_eq_false_iff_ne.1 hc
          by_cases hp : 0 < crs (u, w) (gp C i)
          · cases d
            · have hst : pst (u, w) (L, false) (gp C i) = (L ++ [(u, w), gp C i], true) := by unfold pst; rw [if_neg hc', if_pos ⟨hp, rfl⟩]
              rw [hst] at hps
              rcases hO with ⟨rfl, rfl, rfl⟩ | ⟨hL1, rfl, rfl⟩
              · simp -implicitDefEqProofs (disch := omega) only [hc, hp, hb0, q0, simprocAttr, amset, tyset, Function.comp_apply, one1, lenV, calleeOf, lateOk, belowV, aop, AV.ofValue, AV.ofCell, AV.cells, AV.flat, AV.one, arep, aBin, aAppend, aConv]
                repeat refine And.intro (by omega) ?_
                refine fin _ _ [0, 5] (by decide) (by simp) hi hps _ _ ?_
                simp -implicitDefEqProofs (disch := omega) only [absF, absH, W_refl', W_any', W_agg, W_tup, Ws_cons, Ws_refl', Wc_refl', Wcs_cons, Wcs_nil, look, List.cons_append, List.nil_append, List.append_nil, List.length_cons, List.length_nil, Nat.zero_add, Nat.reduceAdd, AV.mv, AV.mvs, ABlk.mv, sig_new0, sig_newk, sig_lt, List.getElem?_cons_zero, List.getElem?_cons_succ, mvs_ints, mvs_bools, mvs_prs, mvs_append, cond_true, cond_false, beq_self_eq_true, Nat.reduceBEq, true_and, and_true, or_true, true_or, and_self, decide_true, Nat.add_zero, reduceCtorEq, false_or, or_false]
                repeat' (first | exact True.intro | exact Nat.add_lt_add_left (by decide) _ | exact Nat.lt_add_of_pos_right (by decide) | refine W_nils ?_ (Or.inr rfl) | refine W_nils ?_ (Or.inl rfl) | refine Wc_nils ?_ (Or.inr rfl) | refine Wc_nils ?_ (Or.inl rfl) | exact W_cap | rfl | refine And.intro ?_ ?_ | exact Or.inl rfl | exact Or.inr rfl | exact Or.inr (Or.inl rfl) | exact Or.inr (Or.inr BW.emp) | exact Or.inr BW.emp | exact BW.emp | exact Or.inr (Or.inr BW.pre) | exact Or.inr BW.pre | exact BW.pre | refine Or.inr (BW.cells ?_) | refine BW.cells ?_ | refine Or.inr (Or.inr (BW.cells ?_)) | exact Wc_cap)
              · simp -implicitDefEqProofs (disch := omega) only [hc, hp, hb0, q0, prs_snoc, hLt, hLt2, simprocAttr, amset, tyset, Function.comp_apply, one1, lenV, calleeOf, lateOk, belowV, aop, AV.ofValue, AV.ofCell, AV.cells, AV.flat, AV.one, arep, aBin, aAppend, aConv]
                repeat refine And.intro (by omega) ?_
                refine fin _ _ [0, 5] (by decide) (by simp) hi hps _ _ ?_
                simp -implicitDefEqProofs (disch := omega) only [List.append_assoc, List.length_append, List.length_cons, List.length_nil, absF, absH, W_refl', W_any', W_agg, W_tup, Ws_cons, Ws_refl', Wc_refl', Wcs_cons, Wcs_nil, look, List.cons_append, List.nil_append, List.append_nil, List.length_cons, List.length_nil, Nat.zero_add, Nat.reduceAdd, AV.mv, AV.mvs, ABlk.mv, sig_new0, sig_newk, sig_lt, List.getElem?_cons_zero, List.getElem?_cons_succ, mvs_ints, mvs_bools, mvs_prs, mvs_append, cond_true, cond_false, beq_self_eq_true, Nat.reduceBEq, true_and, and_true, or_true, true_or, and_self, decide_true, Nat.add_zero, reduceCtorEq, false_or, or_false]
                repeat' (first | exact True.intro | exact Nat.add_lt_add_left (by decide) _ | exact Nat.lt_add_of_pos_right (by decide) | refine W_nils ?_ (Or.inr rfl) | refine W_nils ?_ (Or.inl rfl) | refine Wc_nils ?_ (Or.inr rfl) | refine Wc_nils ?_ (Or.inl rfl) | exact W_cap | rfl | refine And.intro ?_ ?_ | exact Or.inl rfl | exact Or.inr rfl | exact Or.inr (Or.inl rfl) | exact Or.inr (Or.inr BW.emp) | exact Or.inr BW.emp | exact BW.emp | exact Or.inr (Or.inr BW.pre) | exact Or.inr BW.pre | exact BW.pre | refine Or.inr (BW.cells ?_) | refine BW.cells ?_ | refine Or.inr (Or.inr (BW.cells ?_)) | exact Wc_cap)
            · have hst : pst (u, w) (L, true) (gp C i) = (L ++ [gp C i], true) := by unfold pst; rw [if_neg hc', if_neg (by simp)]
              rw [hst] at hps
              rcases hO with ⟨rfl, rfl, rfl⟩ | ⟨hL1, rfl, rfl⟩
              · simp -implicitDefEqProofs (disch := omega) only [hc, hp, hb0, q0, simprocAttr, amset, tyset, Function.comp_apply, one1, lenV, calleeOf, lateOk, belowV, aop, AV.ofValue, AV.ofCell, AV.cells, AV.flat, AV.one, arep, aBin, aAppend, aConv]
                repeat refine And.intro (by omega) ?_
                refine fin _ _ [0, 3] (by decide) (by simp) hi hps _ _ ?_
                simp -implicitDefEqProofs (disch := omega) only [absF, absH, W_refl', W_any', W_agg, W_tup, Ws_cons, Ws_refl', Wc_refl', Wcs_cons, Wcs_nil, look, List.cons_append, List.nil_append, List.append_nil, List.length_cons, List.length_nil, Nat.zero_add, Nat.reduceAdd, AV.mv, AV.mvs, ABlk.mv, sig_new0, sig_newk, sig_lt, List.getElem?_cons_zero, List.getElem?_cons_succ, mvs_ints, mvs_bools, mvs_prs, mvs_append, cond_true, cond_false, beq_self_eq_true, Nat.reduceBEq, true_and, and_true, or_true, true_or, and_self, decide_true, Nat.add_zero, reduceCtorEq, false_or, or_false]
                repeat' (first | exact True.intro | exact Nat.add_lt_add_left (by decide) _ | exact Nat.lt_add_of_pos_right (by decide) | refine W_nils ?_ (Or.inr rfl) | refine W_nils ?_ (Or.inl rfl) | refine Wc_nils ?_ (Or.inr rfl) | refine Wc_nils ?_ (Or.inl rfl) | exact W_cap | rfl | refine And.intro ?_ ?_ | exact Or.inl rfl | exact Or.inr rfl | exact Or.inr (Or.inl rfl) | exact Or.inr (Or.inr BW.emp) | exact Or.inr BW.emp | exact BW.emp | exact Or.inr (Or.inr BW.pre) | exact Or.inr BW.pre | exact BW.pre | refine Or.inr (BW.cells ?_) | refine BW.cells ?_ | refine Or.inr (Or.inr (BW.cells ?_)) | exact Wc_cap)
              · simp -implicitDefEqProofs (disch := omega) only [hc, hp, hb0, q0, prs_snoc, hLt, simprocAttr, amset, tyset, Function.comp_apply, one1, lenV, calleeOf, lateOk, belowV, aop, AV.ofValue, AV.ofCell, AV.cells, AV.flat, AV.one, arep, aBin, aAppend, aConv]
                repeat refine And.intro (by omega) ?_
                refine fin _ _ [0, 3] (by decide) (by simp) hi hps _ _ ?_
                simp -implicitDefEqProofs (disch := omega) only [List.append_assoc, List.length_append, List.length_cons, List.length_nil, absF, absH, W_refl', W_any', W_agg, W_tup, Ws_cons, Ws_refl', Wc_refl', Wcs_cons, Wcs_nil, look, List.cons_append, List.nil_append, List.append_nil, List.length_cons, List.length_nil, Nat.zero_add, Nat.reduceAdd, AV.mv, AV.mvs, ABlk.mv, sig_new0, sig_newk, sig_lt, List.getElem?_cons_zero, List.getElem?_cons_succ, mvs_ints, mvs_bools, mvs_prs, mvs_append, cond_true, cond_false, beq_self_eq_true, Nat.reduceBEq, true_and, and_true, or_true, true_or, and_self, decide_true, Nat.add_zero, reduceCtorEq, false_or, or_false]
                repeat' (first | exact True.intro | exact Nat.add_lt_add_left (by decide) _ | exact Nat.lt_add_of_pos_right (by decide) | refine W_nils ?_ (Or.inr rfl) | refine W_nils ?_ (Or.inl rfl) | refine Wc_nils ?_ (Or.inr rfl) | refine Wc_nils ?_ (Or.inl rfl) | exact W_cap | rfl | refine And.intro ?_ ?_ | exact Or.inl rfl | exact Or.inr rfl | exact Or.inr (Or.inl rfl) | exact Or.inr (Or.inr BW.emp) | exact Or.inr BW.emp | exact BW.emp | exact Or.inr (Or.inr BW.pre) | exact Or.inr BW.pre | exact BW.pre | refine Or.inr (BW.cells ?_) | refine BW.cells ?_ | refine Or.inr (Or.inr (BW.cells ?_)) | exact Wc_cap)
          · have hst : pst (u, w) (L, d) (gp C i) = (L ++ [gp C i], d) := by unfold pst; rw [if_neg hc', if_neg (by simp only; omega)]
            rw [hst] at hps
            rcases hO with ⟨rfl, rfl, rfl⟩ | ⟨hL1, rfl, rfl⟩
            · simp -implicitDefEqProofs (disch := omega) only [hc, hp, hb0, q0, simprocAttr, amset, tyset, Function.comp_apply, one1, lenV, calleeOf, lateOk, belowV, aop, AV.ofValue, AV.ofCell, AV.cells, AV.flat, AV.one, arep, aBin, aAppend, aConv]
              repeat refine And.intro (by omega) ?_
              refine fin _ _ [0, 3] (by decide) (by simp) hi hps _ _ ?_
              simp -implicitDefEqProofs (disch := omega) only [absF, absH, W_refl', W_any', W_agg, W_tup, Ws_cons, Ws_refl', Wc_refl', Wcs_cons, Wcs_nil, look, List.cons_append, List.nil_append, List.append_nil, List.length_cons, List.length_nil, Nat.zero_add, Nat.reduceAdd, AV.mv, AV.mvs, ABlk.mv, sig_new0, sig_newk, sig_lt, List.getElem?_cons_zero, List.getElem?_cons_succ, mvs_ints, mvs_bools, mvs_prs, mvs_append, cond_true, cond_false, beq_self_eq_true, Nat.reduceBEq, true_and, and_true, or_true, true_or, and_self, decide_true, Nat.add_zero, reduceCtorEq, false_or, or_false]
              repeat' (first | exact True.intro | exact Nat.add_lt_add_left (by decide) _ | exact Nat.lt_add_of_pos_right (by decide) | refine W_nils ?_ (Or.inr rfl) | refine W_nils ?_ (Or.inl rfl) | refine Wc_nils ?_ (Or.inr rfl) | refine Wc_nils ?_ (Or.inl rfl) | exact W_cap | rfl | refine And.intro ?_ ?_ | exact Or.inl rfl | exact Or.inr rfl | exact Or.inr (Or.inl rfl) | exact Or.inr (Or.inr BW.emp) | exact Or.inr BW.emp | exact BW.emp | exact Or.inr (Or.inr BW.pre) | exact Or.inr BW.pre | exact BW.pre | refine Or.inr (BW.cells ?_) | refine BW.cells ?_ | refine Or.inr (Or.inr (BW.cells ?_)) | exact Wc_cap)
            · simp -implicitDefEqProofs (disch := omega) only [hc, hp, hb0, q0, prs_snoc, hLt, simprocAttr, amset, tyset, Function.comp_apply, one1, lenV, calleeOf, lateOk, belowV, aop, AV.ofValue, AV.ofCell, AV.cells, AV.flat, AV.one, arep, aBin, aAppend, aConv]
              repeat refine And.intro (by omega) ?_
              refine fin _ _ [0, 3] (by decide) (by simp) hi hps _ _ ?_
              simp -implicitDefEqProofs (disch := omega) only [List.append_assoc, List.length_append, List.length_cons, List.length_nil, absF, absH, W_refl', W_any', W_agg, W_tup, Ws_cons, Ws_refl', Wc_refl', Wcs_cons, Wcs_nil, look, List.cons_append, List.nil_append, List.append_nil, List.length_cons, List.length_nil, Nat.zero_add, Nat.reduceAdd, AV.mv, AV.mvs, ABlk.mv, sig_new0, sig_newk, sig_lt, List.getElem?_cons_zero, List.getElem?_cons_succ, mvs_ints, mvs_bools, mvs_prs, mvs_append, cond_true, cond_false, beq_self_eq_true, Nat.reduceBEq, true_and, and_true, or_true, true_or, and_self, decide_true, Nat.add_zero, reduceCtorEq, false_or, or_false]
              repeat' (first | exact True.intro | exact Nat.add_lt_add_left (by decide) _ | exact Nat.lt_add_of_pos_right (by decide) | refine W_nils ?_ (Or.inr rfl) | refine W_nils ?_ (Or.inl rfl) | refine Wc_nils ?_ (Or.inr rfl) | refine Wc_nils ?_ (Or.inl rfl) | exact W_cap | rfl | refine And.intro ?_ ?_ | exact Or.inl rfl | exact Or.inr rfl | exact Or.inr (Or.inl rfl) | exact Or.inr (Or.inr BW.emp) | exact Or.inr BW.emp | exact BW.emp | exact Or.inr (Or.inr BW.pre) | exact Or.inr BW.pre | exact BW.pre | refine Or.inr (BW.cells ?_) | refine BW.cells ?_ | refine Or.inr (Or.inr (BW.cells ?_)) | exact Wc_cap)
        · have hst : pst (u, w) (L, d) (gp C i) = (L ++ [padd (gp C i) (u, w)], true) := by unfold pst; rw [if_pos (beq_iff_eq.1 hc)]
          rw [hst] at hps
          rcases hO with ⟨rfl, rfl, rfl⟩ | ⟨hL1, rfl, rfl⟩
          · simp -implicitDefEqProofs (disch := omega) only [hc, hb0, q1, q2, simprocAttr, amset, tyset, Function.comp_apply, one1, lenV, calleeOf, lateOk, belowV, aop, AV.ofValue, AV.ofCell, AV.cells, AV.flat, AV.one, arep, aBin, aAppend, aConv]
            repeat refine And.intro (by omega) ?_
            refine fin _ _ [0, 3] (by decide) (by simp) hi hps _ _ ?_
            simp -implicitDefEqProofs (disch := omega) only [absF, absH, W_refl', W_any', W_agg, W_tup, Ws_cons, Ws_refl', Wc_refl', Wcs_cons, Wcs_nil, look, List.cons_append, List.nil_append, List.append_nil, List.length_cons, List.length_nil, Nat.zero_add, Nat.reduceAdd, AV.mv, AV.mvs, ABlk.mv, sig_new0, sig_newk, sig_lt, List.getElem?_cons_zero, List.getElem?_cons_succ, mvs_ints, mvs_bools, mvs_prs, mvs_append, cond_true, cond_false, beq_self_eq_true, Nat.reduceBEq, true_and, and_true, or_true, true_or, and_self, decide_true, Nat.add_zero, reduceCtorEq, false_or, or_false]
            repeat' (first | exact True.intro | exact Nat.add_lt_add_left (by decide) _ | exact Nat.lt_add_of_pos_right (by decide) | refine W_nils ?_ (Or.inr rfl) | refine W_nils ?_ (Or.inl rfl) | refine Wc_nils ?_ (Or.inr rfl) | refine Wc_nils ?_ (Or.inl rfl) | exact W_cap | rfl | refine And.intro ?_ ?_ | exact Or.inl rfl | exact Or.inr rfl | exact Or.inr (Or.inl rfl) | exact Or.inr (Or.inr BW.emp) | exact Or.inr BW.emp | exact BW.emp | exact Or.inr (Or.inr BW.pre) | exact Or.inr BW.pre | exact BW.pre | refine Or.inr (BW.cells ?_) | refine BW.cells ?_ | refine Or.inr (Or.inr (BW.cells ?_)) | exact Wc_cap)
          · simp -implicitDefEqProofs (disch := omega) only [hc, hb0, q1, q2, prs_snoc, hLt, simprocAttr, amset, tyset, Function.comp_apply, one1, lenV, calleeOf, lateOk, belowV, aop, AV.ofValue, AV.ofCell, AV.cells, AV.flat, AV.one, arep, aBin, aAppend, aConv]
            repeat refine And.intro (by omega) ?_
            refine fin _ _ [0, 3] (by decide) (by simp) hi hps _ _ ?_
            simp -implicitDefEqProofs (disch := omega) only [List.append_assoc, List.length_append, List.length_cons, List.length_nil, absF, absH, W_refl', W_any', W_agg, W_tup, Ws_cons, Ws_refl', Wc_refl', Wcs_cons, Wcs_nil, look, List.cons_append, List.nil_append, List.append_nil, List.length_cons, List.length_nil, Nat.zero_add, Nat.reduceAdd, AV.mv, AV.mvs, ABlk.mv, sig_new0, sig_newk, sig_lt, List.getElem?_cons_zero, List.getElem?_cons_succ, mvs_ints, mvs_bools, mvs_prs, mvs_append, cond_true, cond_false, beq_self_eq_true, Nat.reduceBEq, true_and, and_true, or_true, true_or, and_self, decide_true, Nat.add_zero, reduceCtorEq, false_or, or_false]
            repeat' (first | exact True.intro | exact Nat.add_lt_add_left (by decide) _ | exact Nat.lt_add_of_pos_right (by decide) | refine W_nils ?_ (Or.inr rfl) | refine W_nils ?_ (Or.inl rfl) | refine Wc_nils ?_ (Or.inr rfl) | refine Wc_nils ?_ (Or.inl rfl) | exact W_cap | rfl | refine And.intro ?_ ?_ | exact Or.inl rfl | exact Or.inr rfl | exact Or.inr (Or.inl rfl) | exact Or.inr (Or.inr BW.emp) | exact Or.inr BW.emp | exact BW.emp | exact Or.inr (Or.inr BW.pre) | exact Or.inr BW.pre | exact BW.pre | refine Or.inr (BW.cells ?_) | refine BW.cells ?_ | refine Or.inr (Or.inr (BW.cells ?_)) | exact Wc_cap)
      · have hnn : ¬ ((i : Int) < (n : Int)) := by omega
        obtain rfl : i = n := by omega
        rw [hend] at hQ
        clear hps hend fin
        generalize (C.take i).foldl (pst (u, w)) ([], false) = st at *
        obtain ⟨L, d⟩ := st
        simp only at hO hpl
        have hLt : List.take (L.length * 2) (prs L) = prs L := List.take_of_length_le (by rw [prs_len]; omega)
        cases d
        · rw [if_neg (by simp), retP_pos (by simp)] at hQ
          rcases hO with ⟨rfl, rfl, rfl⟩ | ⟨hL1, rfl, rfl⟩
          · simp -implicitDefEqProofs (disch := omega) only [hnn, simprocAttr, amset, tyset, Function.comp_apply, one1, lenV, calleeOf, lateOk, belowV, aop, AV.ofValue, AV.ofCell, AV.cells, AV.flat, AV.one, arep, aBin, aAppend, aConv]
            refine hQ _ _ (end_by (.inl rfl) hbel (x1 := .sl (some (H.length + 3, 0)) 1 none) (.sl (some (H.length, 0)) 1 none) (ret_of Tryz.results164 (by simp -implicitDefEqProofs (disch := omega) only [simprocAttr, amset, tyset, Function.comp_apply, one1, lenV, calleeOf, lateOk, belowV, aop, AV.ofValue, AV.ofCell, AV.cells, AV.flat, AV.one, arep, aBin, aAppend, aConv])) [3] (by decide) ⟨rfl, rfl⟩ ?_)
            simp -implicitDefEqProofs (disch := omega) only [absF, absH, W_refl', W_any', W_agg, W_tup, Ws_cons, Ws_refl', Wc_refl', Wcs_cons, Wcs_nil, look, List.cons_append, List.nil_append, List.append_nil, List.length_cons, List.length_nil, Nat.zero_add, Nat.reduceAdd, AV.mv, AV.mvs, ABlk.mv, sig_new0, sig_newk, sig_lt, List.getElem?_cons_zero, List.getElem?_cons_succ, mvs_ints, mvs_bools, mvs_prs, mvs_append, cond_true, cond_false, beq_self_eq_true, Nat.reduceBEq, true_and, and_true, or_true, true_or, and_self, decide_true, Nat.add_zero, reduceCtorEq, false_or, or_false]
            repeat' (first | exact True.intro | exact Nat.add_lt_add_left (by decide) _ | exact Nat.lt_add_of_pos_right (by decide) | refine W_nils ?_ (Or.inr rfl) | refine W_nils ?_ (Or.inl rfl) | refine Wc_nils ?_ (Or.inr rfl) | refine Wc_nils ?_ (Or.inl rfl) | exact W_cap | rfl | refine And.intro ?_ ?_ | exact Or.inl rfl | exact Or.inr rfl | exact Or.inr (Or.inl rfl) | exact Or.inr (Or.inr BW.emp) | exact Or.inr BW.emp | exact BW.emp | exact Or.inr (Or.inr BW.pre) | exact Or.inr BW.pre | exact BW.pre | refine Or.inr (BW.cells ?_) | refine BW.cells ?_ | refine Or.inr (Or.inr (BW.cells ?_)) | exact Wc_cap)
          · simp -implicitDefEqProofs (disch := omega) only [hnn, prs_snoc, hLt, simprocAttr, amset, tyset, Function.comp_apply, one1, lenV, calleeOf, lateOk, belowV, aop, AV.ofValue, AV.ofCell, AV.cells, AV.flat, AV.one, arep, aBin, aAppend, aConv]
            repeat refine And.intro (by omega) ?_
            refine hQ _ _ (end_by (.inl rfl) hbel (x1 := .sl (some (H.length + 3, 0)) (L.length + 1) none) (.sl (some (H.length, 0)) (L.length + 1) none) (ret_of Tryz.results164 (by simp -implicitDefEqProofs (disch := omega) only [simprocAttr, amset, tyset, Function.comp_apply, one1, lenV, calleeOf, lateOk, belowV, aop, AV.ofValue, AV.ofCell, AV.cells, AV.flat, AV.one, arep, aBin, aAppend, aConv])) [3] (by decide) ⟨by simp, rfl⟩ ?_)
            simp -implicitDefEqProofs (disch := omega) only [absF, absH, W_refl', W_any', W_agg, W_tup, Ws_cons, Ws_refl', Wc_refl', Wcs_cons, Wcs_nil, look, List.cons_append, List.nil_append, List.append_nil, List.length_cons, List.length_nil, Nat.zero_add, Nat.reduceAdd, AV.mv, AV.mvs, ABlk.mv, sig_new0, sig_newk, sig_lt, List.getElem?_cons_zero, List.getElem?_cons_succ, mvs_ints, mvs_bools, mvs_prs, mvs_append, cond_true, cond_false, beq_self_eq_true, Nat.reduceBEq, true_and, and_true, or_true, true_or, and_self, decide_true, Nat.add_zero, reduceCtorEq, false_or, or_false]
            repeat' (first | exact True.intro | exact Nat.add_lt_add_left (by decide) _ | exact Nat.lt_add_of_pos_right (by decide) | refine W_nils ?_ (Or.inr rfl) | refine W_nils ?_ (Or.inl rfl) | refine Wc_nils ?_ (Or.inr rfl) | refine Wc_nils ?_ (Or.inl rfl) | exact W_cap | rfl | refine And.intro ?_ ?_ | exact Or.inl rfl | exact Or.inr rfl | exact Or.inr (Or.inl rfl) | exact Or.inr (Or.inr BW.emp) | exact Or.inr BW.emp | exact BW.emp | exact Or.inr (Or.inr BW.pre) | exact Or.inr BW.pre | exact BW.pre | refine Or.inr (BW.cells ?_) | refine BW.cells ?_ | refine Or.inr (Or.inr (BW.cells ?_)) | exact Wc_cap)
        · rw [if_pos rfl] at hQ
          rcases hO with ⟨rfl, rfl, rfl⟩ | ⟨hL1, rfl, rfl⟩
          · rw [retP_nil] at hQ
            simp -implicitDefEqProofs (disch := omega) only [hnn, simprocAttr, amset, tyset, Function.comp_apply, one1, lenV, calleeOf, lateOk, belowV, aop, AV.ofValue, AV.ofCell, AV.cells, AV.flat, AV.one, arep, aBin, aAppend, aConv]
            exact hQ _ _ (end_plain (.inl rfl) hbel (x := .sl none 0 (some 0)) (ret_of Tryz.results164 (by simp -implicitDefEqProofs (disch := omega) only [simprocAttr, amset, tyset, Function.comp_apply, one1, lenV, calleeOf, lateOk, belowV, aop, AV.ofValue, AV.ofCell, AV.cells, AV.flat, AV.one, arep, aBin, aAppend, aConv])) rfl ⟨rfl, rfl⟩)
          · rw [retP_pos hL1] at hQ
            simp -implicitDefEqProofs (disch := omega) only [hnn, simprocAttr, amset, tyset, Function.comp_apply, one1, lenV, calleeOf, lateOk, belowV, aop, AV.ofValue, AV.ofCell, AV.cells, AV.flat, AV.one, arep, aBin, aAppend, aConv]
            refine hQ _ _ (end_by (.inl rfl) hbel (x1 := .sl (some (H.length + 1, 0)) L.length none) (.sl (some (H.length, 0)) L.length none) (ret_of Tryz.results164 (by simp -implicitDefEqProofs (disch := omega) only [simprocAttr, amset, tyset, Function.comp_apply, one1, lenV, calleeOf, lateOk, belowV, aop, AV.ofValue, AV.ofCell, AV.cells, AV.flat, AV.one, arep, aBin, aAppend, aConv])) [1] (by decide) ⟨rfl, rfl⟩ ?_)
            simp -implicitDefEqProofs (disch := omega) only [absF, absH, W_refl', W_any', W_agg, W_tup, Ws_cons, Ws_refl', Wc_refl', Wcs_cons, Wcs_nil, look, List.cons_append, List.nil_append, List.append_nil, List.length_cons, List.length_nil, Nat.zero_add, Nat.reduceAdd, AV.mv, AV.mvs, ABlk.mv, sig_new0, sig_newk, sig_lt, List.getElem?_cons_zero, List.getElem?_cons_succ, mvs_ints, mvs_bools, mvs_prs, mvs_append, cond_true, cond_false, beq_self_eq_true, Nat.reduceBEq, true_and, and_true, or_true, true_or, and_self, decide_true, Nat.add_zero, reduceCtorEq, false_or, or_false]
            repeat' (first | exact True.intro | exact Nat.add_lt_add_left (by decide) _ | exact Nat.lt_add_of_pos_right (by decide) | refine W_nils ?_ (Or.inr rfl) | refine W_nils ?_ (Or.inl rfl) | refine Wc_nils ?_ (Or.inr rfl) | refine Wc_nils ?_ (Or.inl rfl) | exact W_cap | rfl | refine And.intro ?_ ?_ | exact Or.inl rfl | exact Or.inr rfl | exact Or.inr (Or.inl rfl) | exact Or.inr (Or.inr BW.emp) | exact Or.inr BW.emp | exact BW.emp | exact Or.inr (Or.inr BW.pre) | exact Or.inr BW.pre | exact BW.pre | refine Or.inr (BW.cells ?_) | refine BW.cells ?_ | refine Or.inr (Or.inr (BW.cells ?_)) | exact Wc_cap)
  cases hz2 : (w == 0)
  · rw [if_neg (fun h => by injection h with _ h; exact absurd h (beq_eq_false_iff_ne.1 hz2))] at hQ
    simp -implicitDefEqProofs (disch := omega) only [hz1, hz2, simprocAttr, amset, tyset, Function.comp_apply, one1, lenV, calleeOf, lateOk, belowV, aop, AV.ofValue, AV.ofCell, AV.cells, AV.flat, AV.one, arep, aBin, aAppend, aConv]
    refine go_loop try_mixed (by kernel_rfl) (fun k F Hx => ∃ (i : Nat) (s : AV) (X : ABlk), i + k = n ∧ OutP (H.length + 1) s X ((C.take i).foldl (pst (u, w)) ([], false)).1 ∧
      F = [(0, .sl (some (b, 0)) n none), (3, .ptr (some (H.length, 0))), (5, s), (6, .bool ((C.take i).foldl (pst (u, w)) ([], false)).2), (7, .int .i64 (i : Nat))] ∧
      Hx = H ++ [.cells true 0 [.int .i64 u, .int .i64 w], X]) n ?_ ?_
    · refine ⟨_, _, _, ⟨0, _, _, by omega, .inl ⟨rfl, rfl, rfl⟩, rfl, rfl⟩, Abs.by hbel [0, 1] (by decide) ?_⟩
      simp -implicitDefEqProofs (disch := omega) only [absF, absH, W_refl', W_any', W_agg, W_tup, Ws_cons, Ws_refl', Wc_refl', Wcs_cons, Wcs_nil, look, List.cons_append, List.nil_append, List.append_nil, List.length_cons, List.length_nil, Nat.zero_add, Nat.reduceAdd, AV.mv, AV.mvs, ABlk.mv, sig_new0, sig_newk, sig_lt, List.getElem?_cons_zero, List.getElem?_cons_succ, mvs_ints, mvs_bools, mvs_prs, mvs_append, cond_true, cond_false, beq_self_eq_true, Nat.reduceBEq, true_and, and_true, or_true, true_or, and_self, decide_true, Nat.add_zero, reduceCtorEq, false_or, or_false]
      repeat' (first | exact True.intro | exact Nat.add_lt_add_left (by decide) _ | exact Nat.lt_add_of_pos_right (by decide) | refine W_nils ?_ (Or.inr rfl) | refine W_nils ?_ (Or.inl rfl) | refine Wc_nils ?_ (Or.inr rfl) | refine Wc_nils ?_ (Or.inl rfl) | exact W_cap | rfl | refine And.intro ?_ ?_ | exact Or.inl rfl | exact Or.inr rfl | exact Or.inr (Or.inl rfl) | exact Or.inr (Or.inr BW.emp) | exact Or.inr BW.emp | exact BW.emp | exact Or.inr (Or.inr BW.pre) | exact Or.inr BW.pre | exact BW.pre | refine Or.inr (BW.cells ?_) | refine BW.cells ?_ | refine Or.inr (Or.inr (BW.cells ?_)) | exact Wc_cap)
    · rintro k F Hx ⟨i, s, X, hik, hO, rfl, rfl⟩ J hJ
      have hpl := pst_len (C := C) (g := (u, w)) i
      have hps := fun h => pst_step (C := C) (g := (u, w)) (i := i) h
      have fin : ∀ (d' : Bool) (L' : List Pt) (sel : List Nat), sel.Nodup → 0 < L'.length → i < C.length → (C.take (i + 1)).foldl (pst (u, w)) ([], false) = (L', d') → ∀ (F : Fr) (l1 : AHeap),
          (absF (H.length + l1.length) (sig H.length l1.length sel) F [(0, .sl (some (b, 0)) n none), (3, .ptr (some (H.length, 0))), (5, .sl (some (H.length + 1, 0)) L'.length none), (6, .bool d'), (7, .int .i64 ((i + 1 : Nat) : Int))] ∧
            absH (H.length + l1.length) (sig H.length l1.length sel) l1 sel [.cells true 0 [.int .i64 u, .int .i64 w], .cells true 2 (prs L')]) → J F (H ++ l1) := fun d' L' sel hnd hl0 hi hh F l1 ha =>
        hJ _ _ ⟨k - 1, by omega, _, _, _, ⟨i + 1, _, _, by omega, by rw [hh]; exact .inr ⟨hl0, rfl, rfl⟩, by rw [hh], rfl⟩, Abs.by hbel sel hnd ha⟩
      have hend : putC C (u, w) = if ((C.take n).foldl (pst (u, w)) ([], false)).2 = true then ((C.take n).foldl (pst (u, w)) ([], false)).1 else ((C.take n).foldl (pst (u, w)) ([], false)).1 ++ [(u, w)] := by
        rw [List.take_of_length_le (by omega)]; rfl
      by_cases hi : i < C.length
      · have hii : (i : Int) < (n : Int) := by omega
        have q0 := prs_load hi
        have q1 := prs_at0 hi
        have q2 := prs_at1 hi
        have hg : gp C i = C[i] := gp_eq hi
        have heb := hC C[i] (List.getElem_mem hi)
        rw [← hg] at heb
        have heb2 : Bd 268435456 (gp C i) := by unfold Bd at *; omega
        have hebd : -260000000 ≤ g1 C i ∧ g1 C i ≤ 260000000 ∧ -260000000 ≤ g2 C i ∧ g2 C i ≤ 260000000 := heb
        have hgb2 : Bd 268435456 (u, w) := by unfold Bd; simp only; omega
        have hps := hps hi
        generalize (C.take i).foldl (pst (u, w)) ([], false) = st at *
        obtain ⟨L, d⟩ := st
        simp only at hO hpl
        have hLt : List.take (L.length * 2) (prs L) = prs L := List.take_of_length_le (by rw [prs_len]; omega)
        simp -implicitDefEqProofs (disch := omega) only [hii, hb0, q0, simprocAttr, amset, tyset, Function.comp_apply, one1, lenV, calleeOf, lateOk, belowV, aop, AV.ofValue, AV.ofCell, AV.cells, AV.flat, AV.one, arep, aBin, aAppend, aConv]
        repeat refine And.intro (by omega) ?_
        refine call_d (by kernel_rfl) (rcross_c _ (u, w) (gp C i) hgb2 heb2) ?_
        have hLt2 : List.take ((L.length + 1) * 2) (prs (L ++ [(u, w)])) = prs (L ++ [(u, w)]) := List.take_of_length_le (by rw [prs_len, List.length_append]; simp)
        cases hc : (crs (u, w) (gp C i) == 0)
        · have hc' := beq_eq_false_iff_ne.1 hc
          by_cases hp : 0 < crs (u, w) (gp C i)
          · cases d
            · have hst : pst (u, w) (L, false) (gp C i) = (L ++ [(u, w), gp C i], true) := by unfold pst; rw [if_neg hc', if_pos ⟨hp, rfl⟩]
              rw [hst] at hps
              rcases hO with ⟨rfl, rfl, rfl⟩ | ⟨hL1, rfl, rfl⟩
              · simp -implicitDefEqProofs (disch := omega) only [hc, hp, hb0, q0, simprocAttr, amset, tyset, Function.comp_apply, one1, lenV, calleeOf, lateOk, belowV, aop, AV.ofValue, AV.ofCell, AV.cells, AV.flat, AV.one, arep, aBin, aAppend, aConv]
                repeat refine And.intro (by omega) ?_
                refine fin _ _ [0, 5] (by decide) (by simp) hi hps _ _ ?_
                simp -implicitDefEqProofs (disch := omega) only [absF, absH, W_refl', W_any', W_agg, W_tup, Ws_cons, Ws_refl', Wc_refl', Wcs_cons, Wcs_nil, look, List.cons_append, List.nil_append, List.append_nil, List.length_cons, List.length_nil, Nat.zero_add, Nat.reduceAdd, AV.mv, AV.mvs, ABlk.mv, sig_new0, sig_newk, sig_lt, List.getElem?_cons_zero, List.getElem?_cons_succ, mvs_ints, mvs_bools, mvs_prs, mvs_append, cond_true, cond_false, beq_self_eq_true, Nat.reduceBEq, true_and, and_true, or_true, true_or, and_self, decide_true, Nat.add_zero, reduceCtorEq, false_or, or_false]
                repeat' (first | exact True.intro | exact Nat.add_lt_add_left (by decide) _ | exact Nat.lt_add_of_pos_right (by decide) | refine W_nils ?_ (Or.inr rfl) | refine W_nils ?_ (Or.inl rfl) | refine Wc_nils ?_ (Or.inr rfl) | refine Wc_nils ?_ (Or.inl rfl) | exact W_cap | rfl | refine And.intro ?_ ?_ | exact Or.inl rfl | exact Or.inr rfl | exact Or.inr (Or.inl rfl) | exact Or.inr (Or.inr BW.emp) | exact Or.inr BW.emp | exact BW.emp | exact Or.inr (Or.inr BW.pre) | exact Or.inr BW.pre | exact BW.pre | refine Or.inr (BW.cells ?_) | refine BW.cells ?_ | refine Or.inr (Or.inr (BW.cells ?_)) | exact Wc_cap)
              · simp -implicitDefEqProofs (disch := omega) only [hc, hp, hb0, q0, prs_snoc, hLt, hLt2, simprocAttr, amset, tyset, Function.comp_apply, one1, lenV, calleeOf, lateOk, belowV, aop, AV.ofValue, AV.ofCell, AV.cells, AV.flat, AV.one, arep, aBin, aAppend, aConv]
                repeat refine And.intro (by omega) ?_
                refine fin _ _ [0, 5] (by decide) (by simp) hi hps _ _ ?_
                simp -implicitDefEqProofs (disch := omega) only [List.append_assoc, List.length_append, List.length_cons, List.length_nil, absF, absH, W_refl', W_any', W_agg, W_tup, Ws_cons, Ws_refl', Wc_refl', Wcs_cons, Wcs_nil, look, List.cons_append, List.nil_append, List.append_nil, List.length_cons, List.length_nil, Nat.zero_add, Nat.reduceAdd, AV.mv, AV.mvs, ABlk.mv, sig_new0, sig_newk, sig_lt, List.getElem?_cons_zero, List.getElem?_cons_succ, mvs_ints, mvs_bools, mvs_prs, mvs_append, cond_true, cond_false, beq_self_eq_true, Nat.reduceBEq, true_and, and_true, or_true, true_or, and_self, decide_true, Nat.add_zero, reduceCtorEq, false_or, or_false]
                repeat' (first | exact True.intro | exact Nat.add_lt_add_left (by decide) _ | exact Nat.lt_add_of_pos_right (by decide) | refine W_nils ?_ (Or.inr rfl) | refine W_nils ?_ (Or.inl rfl) | refine Wc_nils ?_ (Or.inr rfl) | refine Wc_nils ?_ (Or.inl rfl) | exact W_cap | rfl | refine And.intro ?_ ?_ | exact Or.inl rfl | exact Or.inr rfl | exact Or.inr (Or.inl rfl) | exact Or.inr (Or.inr BW.emp) | exact Or.inr BW.emp | exact BW.emp | exact Or.inr (Or.inr BW.pre) | exact Or.inr BW.pre | exact BW.pre | refine Or.inr (BW.cells ?_) | refine BW.cells ?_ | refine Or.inr (Or.inr (BW.cells ?_)) | exact Wc_cap)
            · have hst : pst (u, w) (L, true) (gp C i) = (L ++ [gp C i], true) := by unfold pst; rw [if_neg hc', if_neg (by simp)]
              rw [hst] at hps
              rcases hO with ⟨rfl, rfl, rfl⟩ | ⟨hL1, rfl, rfl⟩
              · simp -implicitDefEqProofs (disch := omega) only [hc, hp, hb0, q0, simprocAttr, amset, tyset, Function.comp_apply, one1, lenV, calleeOf, lateOk, belowV, aop, AV.ofValue, AV.ofCell, AV.cells, AV.flat, AV.one, arep, aBin, aAppend, aConv]
                repeat refine And.intro (by omega) ?_
                refine fin _ _ [0, 3] (by decide) (by simp) hi hps _ _ ?_
                simp -implicitDefEqProofs (disch := omega) only [absF, absH, W_refl', W_any', W_agg, W_tup, Ws_cons, Ws_refl', Wc_refl', Wcs_cons, Wcs_nil, look, List.cons_append, List.nil_append, List.append_nil, List.length_cons, List.length_nil, Nat.zero_add, Nat.reduceAdd, AV.mv, AV.mvs, ABlk.mv, sig_new0, sig_newk, sig_lt, List.getElem?_cons_zero, List.getElem?_cons_succ, mvs_ints, mvs_bools, mvs_prs, mvs_append, cond_true, cond_false, beq_self_eq_true, Nat.reduceBEq, true_and, and_true, or_true, true_or, and_self, decide_true, Nat.add_zero, reduceCtorEq, false_or, or_false]
                repeat' (first | exact True.intro | exact Nat.add_lt_add_left (by decide) _ | exact Nat.lt_add_of_pos_right (by decide) | refine W_nils ?_ (Or.inr rfl) | refine W_nils ?_ (Or.inl rfl) | refine Wc_nils ?_ (Or.inr rfl) | refine Wc_nils ?_ (Or.inl rfl) | exact W_cap | rfl | refine And.intro ?_ ?_ | exact Or.inl rfl | exact Or.inr rfl | exact Or.inr (Or.inl rfl) | exact Or.inr (Or.inr BW.emp) | exact Or.inr BW.emp | exact BW.emp | exact Or.inr (Or.inr BW.pre) | exact Or.inr BW.pre | exact BW.pre | refine Or.inr (BW.cells ?_) | refine BW.cells ?_ | refine Or.inr (Or.inr (BW.cells ?_)) | exact Wc_cap)
              · simp -implicitDefEqProofs (disch := omega) only [hc, hp, hb0, q0, prs_snoc, hLt, simprocAttr, amset, tyset, Function.comp_apply, one1, lenV, calleeOf, lateOk, belowV, aop, AV.ofValue, AV.ofCell, AV.cells, AV.flat, AV.one, arep, aBin, aAppend, aConv]
                repeat refine And.intro (by omega) ?_
                refine fin _ _ [0, 3] (by decide) (by simp) hi hps _ _ ?_
                simp -implicitDefEqProofs (disch := omega) only [List.append_assoc, List.length_append, List.length_cons, List.length_nil, absF, absH, W_refl', W_any', W_agg, W_tup, Ws_cons, Ws_refl', Wc_refl', Wcs_cons, Wcs_nil, look, List.cons_append, List.nil_append, List.append_nil, List.length_cons, List.length_nil, Nat.zero_add, Nat.reduceAdd, AV.mv, AV.mvs, ABlk.mv, sig_new0, sig_newk, sig_lt, List.getElem?_cons_zero, List.getElem?_cons_succ, mvs_ints, mvs_bools, mvs_prs, mvs_append, cond_true, cond_false, beq_self_eq_true, Nat.reduceBEq, true_and, and_true, or_true, true_or, and_self, decide_true, Nat.add_zero, reduceCtorEq, false_or, or_false]
                repeat' (first | exact True.intro | exact Nat.add_lt_add_left (by decide) _ | exact Nat.lt_add_of_pos_right (by decide) | refine W_nils ?_ (Or.inr rfl) | refine W_nils ?_ (Or.inl rfl) | refine Wc_nils ?_ (Or.inr rfl) | refine Wc_nils ?_ (Or.inl rfl) | exact W_cap | rfl | refine And.intro ?_ ?_ | exact Or.inl rfl | exact Or.inr rfl | exact Or.inr (Or.inl rfl) | exact Or.inr (Or.inr BW.emp) | exact Or.inr BW.emp | exact BW.emp | exact Or.inr (Or.inr BW.pre) | exact Or.inr BW.pre | exact BW.pre | refine Or.inr (BW.cells ?_) | refine BW.cells ?_ | refine Or.inr (Or.inr (BW.cells ?_)) | exact Wc_cap)
          · have hst : pst (u, w) (L, d) (gp C i) = (L ++ [gp C i], d) := by unfold pst; rw [if_neg hc', if_neg (by simp only; omega)]
            rw [hst] at hps
            rcases hO with ⟨rfl, rfl, rfl⟩ | ⟨hL1, rfl, rfl⟩
            · simp -implicitDefEqProofs (disch := omega) only [hc, hp, hb0, q0, simprocAttr, amset, tyset, Function.comp_apply, one1, lenV, calleeOf, lateOk, belowV, aop, AV.ofValue, AV.ofCell, AV.cells, AV.flat, AV.one, arep, aBin, aAppend, aConv]
              repeat refine And.intro (by omega) ?_
              refine fin _ _ [0, 3] (by decide) (by simp) hi hps _ _ ?_
              simp -implicitDefEqProofs (disch := omega) only [absF, absH, W_refl', W_any', W_agg, W_tup, Ws_cons, Ws_refl', Wc_refl', Wcs_cons, Wcs_nil, look, List.cons_append, List.nil_append, List.append_nil, List.length_cons, List.length_nil, Nat.zero_add, Nat.reduceAdd, AV.mv, AV.mvs, ABlk.mv, sig_new0, sig_newk, sig_lt, List.getElem?_cons_zero, List.getElem?_cons_succ, mvs_ints, mvs_bools, mvs_prs, mvs_append, cond_true, cond_false, beq_self_eq_true, Nat.reduceBEq, true_and, and_true, or_true, true_or, and_self, decide_true, Nat.add_zero, reduceCtorEq, false_or, or_false]
              repeat' (first | exact True.intro | exact Nat.add_lt_add_left (by decide) _ | exact Nat.lt_add_of_pos_right (by decide) | refine W_nils ?_ (Or.inr rfl) | refine W_nils ?_ (Or.inl rfl) | refine Wc_nils ?_ (Or.inr rfl) | refine Wc_nils ?_ (Or.inl rfl) | exact W_cap | rfl | refine And.intro ?_ ?_ | exact Or.inl rfl | exact Or.inr rfl | exact Or.inr (Or.inl rfl) | exact Or.inr (Or.inr BW.emp) | exact Or.inr BW.emp | exact BW.emp | exact Or.inr (Or.inr BW.pre) | exact Or.inr BW.pre | exact BW.pre | refine Or.inr (BW.cells ?_) | refine BW.cells ?_ | refine Or.inr (Or.inr (BW.cells ?_)) | exact Wc_cap)
            · simp -implicitDefEqProofs (disch := omega) only [hc, hp, hb0, q0, prs_snoc, hLt, simprocAttr, amset, tyset, Function.comp_apply, one1, lenV, calleeOf, lateOk, belowV, aop, AV.ofValue, AV.ofCell, AV.cells, AV.flat, AV.one, arep, aBin, aAppend, aConv]
              repeat refine And.intro (by omega) ?_
              refine fin _ _ [0, 3] (by decide) (by simp) hi hps _ _ ?_
              simp -implicitDefEqProofs (disch := omega) only [List.append_assoc, List.length_append, List.length_cons, List.length_nil, absF, absH, W_refl', W_any', W_agg, W_tup, Ws_cons, Ws_refl', Wc_refl', Wcs_cons, Wcs_nil, look, List.cons_append, List.nil_append, List.append_nil, List.length_cons, List.length_nil, Nat.zero_add, Nat.reduceAdd, AV.mv, AV.mvs, ABlk.mv, sig_new0, sig_newk, sig_lt, List.getElem?_cons_zero, List.getElem?_cons_succ, mvs_ints, mvs_bools, mvs_prs, mvs_append, cond_true, cond_false, beq_self_eq_true, Nat.reduceBEq, true_and, and_true, or_true, true_or, and_self, decide_true, Nat.add_zero, reduceCtorEq, false_or, or_false]
              repeat' (first | exact True.intro | exact Nat.add_lt_add_left (by decide) _ | exact Nat.lt_add_of_pos_right (by decide) | refine W_nils ?_ (Or.inr rfl) | refine W_nils ?_ (Or.inl rfl) | refine Wc_nils ?_ (Or.inr rfl) | refine Wc_nils ?_ (Or.inl rfl) | exact W_cap | rfl | refine And.intro ?_ ?_ | exact Or.inl rfl | exact Or.inr rfl | exact Or.inr (Or.inl rfl) | exact Or.inr (Or.inr BW.emp) | exact Or.inr BW.emp | exact BW.emp | exact Or.inr (Or.inr BW.pre) | exact Or.inr BW.pre | exact BW.pre | refine Or.inr (BW.cells ?_) | refine BW.cells ?_ | refine Or.inr (Or.inr (BW.cells ?_)) | exact Wc_cap)
        · have hst : pst (u, w) (L, d) (gp C i) = (L ++ [padd (gp C i) (u, w)], true) := by unfold pst; rw [if_pos (beq_iff_eq.1 hc)]
          rw [hst] at hps
          rcases hO with ⟨rfl, rfl, rfl⟩ | ⟨hL1, rfl, rfl⟩
          · simp -implicitDefEqProofs (disch := omega) only [hc, hb0, q1, q2, simprocAttr, amset, tyset, Function.comp_apply, one1, lenV, calleeOf, lateOk, belowV, aop, AV.ofValue, AV.ofCell, AV.cells, AV.flat, AV.one, arep, aBin, aAppend, aConv]
            repeat refine And.intro (by omega) ?_
            refine fin _ _ [0, 3] (by decide) (by simp) hi hps _ _ ?_
            simp -implicitDefEqProofs (disch := omega) only [absF, absH, W_refl', W_any', W_agg, W_tup, Ws_cons, Ws_refl', Wc_refl', Wcs_cons, Wcs_nil, look, List.cons_append, List.nil_append, List.append_nil, List.length_cons, List.length_nil, Nat.zero_add, Nat.reduceAdd, AV.mv, AV.mvs, ABlk.mv, sig_new0, sig_newk, sig_lt, List.getElem?_cons_zero, List.getElem?_cons_succ, mvs_ints, mvs_bools, mvs_prs, mvs_append, cond_true, cond_false, beq_self_eq_true, Nat.reduceBEq, true_and, and_true, or_true, true_or, and_self, decide_true, Nat.add_zero, reduceCtorEq, false_or, or_false]
            repeat' (first | exact True.intro | exact Nat.add_lt_add_left (by decide) _ | exact Nat.lt_add_of_pos_right (by decide) | refine W_nils ?_ (Or.inr rfl) | refine W_nils ?_ (Or.inl rfl) | refine Wc_nils ?_ (Or.inr rfl) | refine Wc_nils ?_ (Or.inl rfl) | exact W_cap | rfl | refine And.intro ?_ ?_ | exact Or.inl rfl | exact Or.inr rfl | exact Or.inr (Or.inl rfl) | exact Or.inr (Or.inr BW.emp) | exact Or.inr BW.emp | exact BW.emp | exact Or.inr (Or.inr BW.pre) | exact Or.inr BW.pre | exact BW.pre | refine Or.inr (BW.cells ?_) | refine BW.cells ?_ | refine Or.inr (Or.inr (BW.cells ?_)) | exact Wc_cap)
          · simp -implicitDefEqProofs (disch := omega) only [hc, hb0, q1, q2, prs_snoc, hLt, simprocAttr, amset, tyset, Function.comp_apply, one1, lenV, calleeOf, lateOk, belowV, aop, AV.ofValue, AV.ofCell, AV.cells, AV.flat, AV.one, arep, aBin, aAppend, aConv]
            repeat refine And.intro (by omega) ?_
            refine fin _ _ [0, 3] (by decide) (by simp) hi hps _ _ ?_
            simp -implicitDefEqProofs (disch := omega) only [List.append_assoc, List.length_append, List.length_cons, List.length_nil, absF, absH, W_refl', W_any', W_agg, W_tup, Ws_cons, Ws_refl', Wc_refl', Wcs_cons, Wcs_nil, look, List.cons_append, List.nil_append, List.append_nil, List.length_cons, List.length_nil, Nat.zero_add, Nat.reduceAdd, AV.mv, AV.mvs, ABlk.mv, sig_new0, sig_newk, sig_lt, List.getElem?_cons_zero, List.getElem?_cons_succ, mvs_ints, mvs_bools, mvs_prs, mvs_append, cond_true, cond_false, beq_self_eq_true, Nat.reduceBEq, true_and, and_true, or_true, true_or, and_self, decide_true, Nat.add_zero, reduceCtorEq, false_or, or_false]
            repeat' (first | exact True.intro | exact Nat.add_lt_add_left (by decide) _ | exact Nat.lt_add_of_pos_right (by decide) | refine W_nils ?_ (Or.inr rfl) | refine W_nils ?_ (Or.inl rfl) | refine Wc_nils ?_ (Or.inr rfl) | refine Wc_nils ?_ (Or.inl rfl) | exact W_cap | rfl | refine And.intro ?_ ?_ | exact Or.inl rfl | exact Or.inr rfl | exact Or.inr (Or.inl rfl) | exact Or.inr (Or.inr BW.emp) | exact Or.inr BW.emp | exact BW.emp | exact Or.inr (Or.inr BW.pre) | exact Or.inr BW.pre | exact BW.pre | refine Or.inr (BW.cells ?_) | refine BW.cells ?_ | refine Or.inr (Or.inr (BW.cells ?_)) | exact Wc_cap)
      · have hnn : ¬ ((i : Int) < (n : Int)) := by omega
        obtain rfl : i = n := by omega
        rw [hend] at hQ
        clear hps hend fin
        generalize (C.take i).foldl (pst (u, w)) ([], false) = st at *
        obtain ⟨L, d⟩ := st
        simp only at hO hpl
        have hLt : List.take (L.length * 2) (prs L) = prs L := List.take_of_length_le (by rw [prs_len]; omega)
        cases d
        · rw [if_neg (by simp), retP_pos (by simp)] at hQ
          rcases hO with ⟨rfl, rfl, rfl⟩ | ⟨hL1, rfl, rfl⟩
          · simp -implicitDefEqProofs (disch := omega) only [hnn, simprocAttr, amset, tyset, Function.comp_apply, one1, lenV, calleeOf, lateOk, belowV, aop, AV.ofValue, AV.ofCell, AV.cells, AV.flat, AV.one, arep, aBin, aAppend, aConv]
            refine hQ _ _ (end_by (.inl rfl) hbel (x1 := .sl (some (H.length + 3, 0)) 1 none) (.sl (some (H.length, 0)) 1 none) (ret_of Tryz.results164 (by simp -implicitDefEqProofs (disch := omega) only [simprocAttr, amset, tyset, Function.comp_apply, one1, lenV, calleeOf, lateOk, belowV, aop, AV.ofValue, AV.ofCell, AV.cells, AV.flat, AV.one, arep, aBin, aAppend, aConv])) [3] (by decide) ⟨rfl, rfl⟩ ?_)
            simp -implicitDefEqProofs (disch := omega) only [absF, absH, W_refl', W_any', W_agg, W_tup, Ws_cons, Ws_refl', Wc_refl', Wcs_cons, Wcs_nil, look, List.cons_append, List.nil_append, List.append_nil, List.length_cons, List.length_nil, Nat.zero_add, Nat.reduceAdd, AV.mv, AV.mvs, ABlk.mv, sig_new0, sig_newk, sig_lt, List.getElem?_cons_zero, List.getElem?_cons_succ, mvs_ints, mvs_bools, mvs_prs, mvs_append, cond_true, cond_false, beq_self_eq_true, Nat.reduceBEq, true_and, and_true, or_true, true_or, and_self, decide_true, Nat.add_zero, reduceCtorEq, false_or, or_false]
            repeat' (first | exact True.intro | exact Nat.add_lt_add_left (by decide) _ | exact Nat.lt_add_of_pos_right (by decide) | refine W_nils ?_ (Or.inr rfl) | refine W_nils ?_ (Or.inl rfl) | refine Wc_nils ?_ (Or.inr rfl) | refine Wc_nils ?_ (Or.inl rfl) | exact W_cap | rfl | refine And.intro ?_ ?_ | exact Or.inl rfl | exact Or.inr rfl | exact Or.inr (Or.inl rfl) | exact Or.inr (Or.inr BW.emp) | exact Or.inr BW.emp | exact BW.emp | exact Or.inr (Or.inr BW.pre) | exact Or.inr BW.pre | exact BW.pre | refine Or.inr (BW.cells ?_) | refine BW.cells ?_ | refine Or.inr (Or.inr (BW.cells ?_)) | exact Wc_cap)
          · simp -implicitDefEqProofs (disch := omega) only [hnn, prs_snoc, hLt, simprocAttr, amset, tyset, Function.comp_apply, one1, lenV, calleeOf, lateOk, belowV, aop, AV.ofValue, AV.ofCell, AV.cells, AV.flat, AV.one, arep, aBin, aAppend, aConv]
            repeat refine And.intro (by omega) ?_
            refine hQ _ _ (end_by (.inl rfl) hbel (x1 := .sl (some (H.length + 3, 0)) (L.length + 1) none) (.sl (some (H.length, 0)) (L.length + 1) none) (ret_of Tryz.results164 (by simp -implicitDefEqProofs (disch := omega) only [simprocAttr, amset, tyset, Function.comp_apply, one1, lenV, calleeOf, lateOk, belowV, aop, AV.ofValue, AV.ofCell, AV.cells, AV.flat, AV.one, arep, aBin, aAppend, aConv])) [3] (by decide) ⟨by simp, rfl⟩ ?_)
            simp -implicitDefEqProofs (disch := omega) only [absF, absH, W_refl', W_any', W_agg, W_tup, Ws_cons, Ws_refl', Wc_refl', Wcs_cons, Wcs_nil, look, List.cons_append, List.nil_append, List.append_nil, List.length_cons, List.length_nil, Nat.zero_add, Nat.reduceAdd, AV.mv, AV.mvs, ABlk.mv, sig_new0, sig_newk, sig_lt, List.getElem?_cons_zero, List.getElem?_cons_succ, mvs_ints, mvs_bools, mvs_prs, mvs_append, cond_true, cond_false, beq_self_eq_true, Nat.reduceBEq, true_and, and_true, or_true, true_or, and_self, decide_true, Nat.add_zero, reduceCtorEq, false_or, or_false]
            repeat' (first | exact True.intro | exact Nat.add_lt_add_left (by decide) _ | exact Nat.lt_add_of_pos_right (by decide) | refine W_nils ?_ (Or.inr rfl) | refine W_nils ?_ (Or.inl rfl) | refine Wc_nils ?_ (Or.inr rfl) | refine Wc_nils ?_ (Or.inl rfl) | exact W_cap | rfl | refine And.intro ?_ ?_ | exact Or.inl rfl | exact Or.inr rfl | exact Or.inr (Or.inl rfl) | exact Or.inr (Or.inr BW.emp) | exact Or.inr BW.emp | exact BW.emp | exact Or.inr (Or.inr BW.pre) | exact Or.inr BW.pre | exact BW.pre | refine Or.inr (BW.cells ?_) | refine BW.cells ?_ | refine Or.inr (Or.inr (BW.cells ?_)) | exact Wc_cap)
        · rw [if_pos rfl] at hQ
          rcases hO with ⟨rfl, rfl, rfl⟩ | ⟨hL1, rfl, rfl⟩
          · rw [retP_nil] at hQ
            simp -implicitDefEqProofs (disch := omega) only [hnn, simprocAttr, amset, tyset, Function.comp_apply, one1, lenV, calleeOf, lateOk, belowV, aop, AV.ofValue, AV.ofCell, AV.cells, AV.flat, AV.one, arep, aBin, aAppend, aConv]
            exact hQ _ _ (end_plain (.inl rfl) hbel (x := .sl none 0 (some 0)) (ret_of Tryz.results164 (by simp -implicitDefEqProofs (disch := omega) only [simprocAttr, amset, tyset, Function.comp_apply, one1, lenV, calleeOf, lateOk, belowV, aop, AV.ofValue, AV.ofCell, AV.cells, AV.flat, AV.one, arep, aBin, aAppend, aConv])) rfl ⟨rfl, rfl⟩)
          · rw [retP_pos hL1] at hQ
            simp -implicitDefEqProofs (disch := omega) only [hnn, simprocAttr, amset, tyset, Function.comp_apply, one1, lenV, calleeOf, lateOk, belowV, aop, AV.ofValue, AV.ofCell, AV.cells, AV.flat, AV.one, arep, aBin, aAppend, aConv]
            refine hQ _ _ (end_by (.inl rfl) hbel (x1 := .sl (some (H.length + 1, 0)) L.length none) (.sl (some (H.length, 0)) L.length none) (ret_of Tryz.results164 (by simp -implicitDefEqProofs (disch := omega) only [simprocAttr, amset, tyset, Function.comp_apply, one1, lenV, calleeOf, lateOk, belowV, aop, AV.ofValue, AV.ofCell, AV.cells, AV.flat, AV.one, arep, aBin, aAppend, aConv])) [1] (by decide) ⟨rfl, rfl⟩ ?_)
            simp -implicitDefEqProofs (disch := omega) only [absF, absH, W_refl', W_any', W_agg, W_tup, Ws_cons, Ws_refl', Wc_refl', Wcs_cons, Wcs_nil, look, List.cons_append, List.nil_append, List.append_nil, List.length_cons, List.length_nil, Nat.zero_add, Nat.reduceAdd, AV.mv, AV.mvs, ABlk.mv, sig_new0, sig_newk, sig_lt, List.getElem?_cons_zero, List.getElem?_cons_succ, mvs_ints, mvs_bools, mvs_prs, mvs_append, cond_true, cond_false, beq_self_eq_true, Nat.reduceBEq, true_and, and_true, or_true, true_or, and_self, decide_true, Nat.add_zero, reduceCtorEq, false_or, or_false]
            repeat' (first | exact True.intro | exact Nat.add_lt_add_left (by decide) _ | exact Nat.lt_add_of_pos_right (by decide) | refine W_nils ?_ (Or.inr rfl) | refine W_nils ?_ (Or.inl rfl) | refine Wc_nils ?_ (Or.inr rfl) | refine Wc_nils ?_ (Or.inl rfl) | exact W_cap | rfl | refine And.intro ?_ ?_ | exact Or.inl rfl | exact Or.inr rfl | exact Or.inr (Or.inl rfl) | exact Or.inr (Or.inr BW.emp) | exact Or.inr BW.emp | exact BW.emp | exact Or.inr (Or.inr BW.pre) | exact Or.inr BW.pre | exact BW.pre | refine Or.inr (BW.cells ?_) | refine BW.cells ?_ | refine Or.inr (Or.inr (BW.cells ?_)) | exact Wc_cap)
  simp -implicitDefEqProofs (disch := omega) only [hz1, hz2, simprocAttr, amset, tyset, Function.comp_apply, one1, lenV, calleeOf, lateOk, belowV, aop, AV.ofValue, AV.ofCell, AV.cells, AV.flat, AV.one, arep, aBin, aAppend, aConv]
  rw [if_pos (by rw [beq_iff_eq.1 hz1, beq_iff_eq.1 hz2])] at hQ
  refine hQ _ _ (end_by (l2 := []) (.inl rfl) hbel (x1 := .sl (some (b, 0)) n cap) (.sl (some (b, 0)) n cap) (ret_of Tryz.results164 (by simp -implicitDefEqProofs (disch := omega) only [simprocAttr, amset, tyset, Function.comp_apply, one1, lenV, calleeOf, lateOk, belowV, aop, AV.ofValue, AV.ofCell, AV.cells, AV.flat, AV.one, arep, aBin, aAppend, aConv])) [] (by decide) ⟨rfl, by simp⟩ ?_)
  simp -implicitDefEqProofs (disch := omega) only [absF, absH, W_refl', W_any', W_agg, W_tup, Ws_cons, Ws_refl', Wc_refl', Wcs_cons, Wcs_nil, look, List.cons_append, List.nil_append, List.append_nil, List.length_cons, List.length_nil, Nat.zero_add, Nat.reduceAdd, AV.mv, AV.mvs, ABlk.mv, sig_new0, sig_newk, sig_lt, List.getElem?_cons_zero, List.getElem?_cons_succ, mvs_ints, mvs_bools, mvs_prs, mvs_append, cond_true, cond_false, beq_self_eq_true, Nat.reduceBEq, true_and, and_true, or_true, true_or, and_self, decide_true, Nat.add_zero, reduceCtorEq, false_or, or_false]
  repeat' (first | exact True.intro | exact Nat.add_lt_add_left (by decide) _ | exact Nat.lt_add_of_pos_right (by decide) | refine W_nils ?_ (Or.inr rfl) | refine W_nils ?_ (Or.inl rfl) | refine Wc_nils ?_ (Or.inr rfl) | refine Wc_nils ?_ (Or.inl rfl) | exact W_cap | rfl | refine And.intro ?_ ?_ | exact Or.inl rfl | exact Or.inr rfl | exact Or.inr (Or.inl rfl) | exact Or.inr (Or.inr BW.emp) | exact Or.inr BW.emp | exact BW.emp | exact Or.inr (Or.inr BW.pre) | exact Or.inr BW.pre | exact BW.pre | refine Or.inr (BW.cells ?_) | refine BW.cells ?_ | refine Or.inr (Or.inr (BW.cells ?_)) | exact Wc_cap)
end Go.Proofs.YtoimakfecmhjkaaGreat

/- Walk by the abstract machine: wayfinderref07.canon; canonical at any zonogon. Conditions: as each theorem states. -/
namespace Go.Proofs.YtoimakfecmhjkaaGreat
set_option linter.unusedSimpArgs false
set_option linter.unusedVariables false
open Go.RowKit
theorem pst_bd {A B : Int} (hA : 0 ≤ A) (hB : 0 ≤ B) {g x : Pt} {st : List Pt × Bool} (h : ∀ e ∈ st.1, Bd (A + B) e) (hx : Bd A x) (hg : Bd B g) : ∀ e ∈ (pst g st x).1, Bd (A + B) e := by
  have hx' : Bd (A + B) x := by unfold Bd at *; omega
  have hg' : Bd (A + B) g := by unfold Bd at *; omega
  have hp : Bd (A + B) (padd x g) := by unfold Bd padd at *; simp only; omega
  unfold pst
  split
  · intro e he
    simp only [List.mem_append, List.mem_singleton] at he
    rcases he with he | rfl
    · exact h e he
    · exact hp
  · split
    · intro e he
      simp only [List.mem_append, List.mem_cons, List.not_mem_nil, or_false] at he
      rcases he with he | rfl | rfl
      · exact h e he
      · exact hg'
      · exact hx'
    · intro e he
      simp only [List.mem_append, List.mem_singleton] at he
      rcases he with he | rfl
      · exact h e he
      · exact hx'
theorem putC_bd {A B : Int} (hA : 0 ≤ A) (hB : 0 ≤ B) {g : Pt} {C : List Pt} (hC : ∀ e ∈ C, Bd A e) (hg : Bd B g) : ∀ e ∈ putC C g, Bd (A + B) e := by
  have gen : ∀ (D : List Pt) (st : List Pt × Bool), (∀ e ∈ D, Bd A e) → (∀ e ∈ st.1, Bd (A + B) e) → ∀ e ∈ (D.foldl (pst g) st).1, Bd (A + B) e := fun D => by
    induction D with
    | nil => intro st _ h; exact h
    | cons d D ih =>
      intro st hD h
      rw [List.foldl_cons]
      exact ih _ (fun e he => hD e (by simp [he])) (pst_bd hA hB h (hD d (by simp)) hg)
  have h1 := gen C ([], false) hC (by simp)
  have hg' : Bd (A + B) g := by unfold Bd at *; omega
  unfold putC
  simp only
  split
  · exact h1
  · intro e he
    simp only [List.mem_append, List.mem_singleton] at he
    rcases he with he | rfl
    · exact h1 e he
    · exact hg'
theorem canonL_snoc (l : List Pt) (g : Pt) : canonL (l ++ [g]) = putL (canonL l) g := by unfold canonL; rw [List.foldl_append]; rfl
theorem canonL_bd {M : Int} (hM : 0 ≤ M) {l : List Pt} (h : ∀ e ∈ l, Bd M e) : ∀ e ∈ canonL l, Bd (l.length * M) e := by
  revert h
  refine snoc_ind (P := fun l => (∀ e ∈ l, Bd M e) → ∀ e ∈ canonL l, Bd (l.length * M) e) (fun _ => by simp [canonL]) (fun l g ih h => ?_) l
  have ih := ih fun e he => h e (by simp [he])
  have hg := nrm_bd (h g (by simp))
  have e1 : ((l ++ [g]).length : Int) * M = l.length * M + M := by
    rw [List.length_append, Int.natCast_add, Int.add_mul]; simp
  have e2 : 0 ≤ (l.length : Int) * M := Int.mul_nonneg (by omega) hM
  rw [canonL_snoc, e1]
  unfold putL
  split
  · intro e he
    have := ih e he
    unfold Bd at *; omega
  · exact putC_bd e2 hM ih hg
theorem putC_len {C : List Pt} {g : Pt} (hg : up g) (hs : C.Pairwise fun a b => 0 < crs a b) (hu : ∀ e ∈ C, up e) : (putC C g).length ≤ C.length + 1 ∧ 0 < (putC C g).length := by
  rcases split_at hg C hs hu with ⟨A, B, rfl, h1, h2⟩ | ⟨A, e, B, rfl, h1, h0, h2⟩
  · rw [putC_none h1 h2]; simp; omega
  · rw [putC_some h1 h0 h2]; simp; omega
theorem canonL_len (l : List Pt) : (canonL l).length ≤ l.length := by
  refine snoc_ind (P := fun l => (canonL l).length ≤ l.length) (by simp [canonL]) (fun l g h => ?_) l
  rw [canonL_snoc, List.length_append, List.length_singleton]
  unfold putL
  split
  · omega
  · rename_i h0
    have hc := canonL_can l
    have := (putC_len (nrm_up h0) hc.sorted hc.ups).1
    omega
/-- One more generator, to a list that is none yet or a block of its own. -/
theorem put_c (H : AHeap) (s : AV) (C : List Pt) (hs : IsP H s C) (hl : C.length ≤ 40) (hC : ∀ e ∈ C, Bd 260000000 e) (g : Pt) (hg : Bd 4194304 g) :
    ACalls Tryz.prog 164 [s, pv g] H (fun v H' => v = (putV H s C g).1 ∧ H' = (putV H s C g).2) := by
  rcases hs with ⟨rfl, rfl⟩ | ⟨b, own, cap, rfl, hb⟩
  · exact put0_c H g.1 g.2 hg
  · exact put1_c H b own cap C hb hl hC g.1 g.2 hg
theorem putV_zero {H : AHeap} {s : AV} {C : List Pt} {g : Pt} (h : nrm g = (0, 0)) : putV H s C g = (s, H) := by unfold putV; rw [if_pos h]
theorem putV_pos {H : AHeap} {s : AV} {C : List Pt} {g : Pt} (h : nrm g ≠ (0, 0)) (h0 : 0 < (putC C (nrm g)).length) : putV H s C g = (.sl (some (H.length, 0)) (putC C (nrm g)).length none, H ++ [.cells true 2 (prs (putC C (nrm g)))]) := by
  unfold putV; rw [if_neg h, retP_pos h0]
set_option maxHeartbeats 4000000 in
set_option maxRecDepth 100000 in
theorem rcanon_c (H : AHeap) (x y : Int) (b : Nat) (own : Bool) (cap : Option Nat) (l : List Pt) (hb : H[b]? = some (.cells own 2 (prs l))) (hl : l.length ≤ 40) (hB : ∀ e ∈ l, Bd 4194304 e) :
    ACalls Tryz.prog 117 [.agg [.int .i64 x, .int .i64 y, .sl (some (b, 0)) l.length cap]] H (fun v H' => v = .agg [.int .i64 x, .int .i64 y, (retP H (canonL l)).1] ∧ H' = (retP H (canonL l)).2) := by
  have hbl := getElem?_lt hb
  have hb0 := fun l => get_app (l := l) hb
  generalize hn : l.length = n at *
  (refine ACalls_run try_mixed Tryz.func117 false _ rfl (Nat.le_of_ble_eq_true (by kernel_rfl)) (by kernel_rfl) ?_; intro hbel Q hQ hQ' c hc; unfold Tryz.f117 at hc; simp only [Option.some.injEq] at hc; subst hc; clear hQ')
  simp -implicitDefEqProofs (disch := omega) only [simprocAttr, amset, tyset, Function.comp_apply, one1, lenV, calleeOf, lateOk, belowV, aop, AV.ofValue, AV.ofCell, AV.cells, AV.flat, AV.one, arep, aBin, aAppend, aConv]
  refine go_loop try_mixed (by kernel_rfl) (fun k F Hx => ∃ (i : Nat) (s : AV) (X : ABlk), i + k = n ∧ OutP (H.length + 3) s X (canonL (l.take i)) ∧
    F = [(1, .ptr (some (H.length, 0))), (2, .ptr (some (H.length + 1, 0))), (3, .ptr (some (H.length + 2, 0))), (4, .int .i64 (i : Nat))] ∧
    Hx = H ++ [.cells true 0 [.int .i64 x, .int .i64 y, .sl (some (b, 0)) n cap], .cells true 0 [.int .i64 0, .int .i64 0, .sl none 0 (some 0)], .cells true 0 [.int .i64 x, .int .i64 y, s], X]) n ?_ ?_
  · refine ⟨_, _, _, ⟨0, _, _, by omega, .inl ⟨rfl, rfl, rfl⟩, rfl, rfl⟩, Abs.by hbel [0, 1, 2, 3] (by decide) ?_⟩
    simp -implicitDefEqProofs (disch := omega) only [absF, absH, W_refl', W_any', W_agg, W_tup, Ws_cons, Ws_refl', Wc_refl', Wcs_cons, Wcs_nil, look, List.cons_append, List.nil_append, List.append_nil, List.length_cons, List.length_nil, Nat.zero_add, Nat.reduceAdd, AV.mv, AV.mvs, ABlk.mv, sig_new0, sig_newk, sig_lt, List.getElem?_cons_zero, List.getElem?_cons_succ, mvs_ints, mvs_bools, mvs_prs, mvs_append, cond_true, cond_false, beq_self_eq_true, Nat.reduceBEq, true_and, and_true, or_true, true_or, and_self, decide_true, Nat.add_zero, reduceCtorEq, false_or, or_false]
    repeat' (first | exact True.intro | exact Nat.add_lt_add_left (by decide) _ | exact Nat.lt_add_of_pos_right (by decide) | refine W_nils ?_ (Or.inr rfl) | refine W_nils ?_ (Or.inl rfl) | refine Wc_nils ?_ (Or.inr rfl) | refine Wc_nils ?_ (Or.inl rfl) | exact W_cap | rfl | refine And.intro ?_ ?_ | exact Or.inl rfl | exact Or.inr rfl | exact Or.inr (Or.inl rfl) | exact Or.inr (Or.inr BW.emp) | exact Or.inr BW.emp | exact BW.emp | exact Or.inr (Or.inr BW.pre) | exact Or.inr BW.pre | exact BW.pre | refine Or.inr (BW.cells ?_) | refine BW.cells ?_ | refine Or.inr (Or.inr (BW.cells ?_)) | exact Wc_cap)
  · rintro k F Hx ⟨i, s, X, hik, hO, rfl, rfl⟩ J hJ
    by_cases hi : i < l.length
    · have hii : (i : Int) < (n : Int) := by omega
      have q0 := prs_load hi
      have hg : gp l i = l[i] := gp_eq hi
      have hgb := hB l[i] (List.getElem_mem hi)
      rw [← hg] at hgb
      have hst : canonL (l.take (i + 1)) = putL (canonL (l.take i)) (gp l i) := by rw [List.take_succ_eq_append_getElem hi, canonL_snoc, hg]
      have hml := canonL_len (l.take i)
      have hmb := canonL_bd (M := 4194304) (by decide) (l := l.take i) (fun e he => hB e (List.mem_of_mem_take he))
      have hcan := canonL_can (l.take i)
      have h40 : ((l.take i).length : Int) * 4194304 ≤ 40 * 4194304 := Int.mul_le_mul_of_nonneg_right (by rw [List.length_take]; omega) (by decide)
      have hmb2 : ∀ e ∈ canonL (l.take i), Bd 260000000 e := fun e he => by have := hmb e he; unfold Bd at *; omega
      rw [List.length_take] at hml
      generalize canonL (l.take i) = L at *
      rcases hO with ⟨rfl, rfl, rfl⟩ | ⟨hL1, rfl, rfl⟩
      · have hput := put_c (H ++ [.cells true 0 [.int .i64 x, .int .i64 y, .sl (some (b, 0)) n cap], .cells true 0 [.int .i64 0, .int .i64 0, .sl none 0 (some 0)], .cells true 0 [.int .i64 x, .int .i64 y, .sl none 0 (some 0)], .dead]) (.sl none 0 (some 0)) [] (.inl ⟨rfl, rfl⟩) (by simp) hmb2 (gp l i) hgb
        by_cases hz : nrm (gp l i) = (0, 0)
        · have hst2 : putL [] (gp l i) = [] := by unfold putL; rw [if_pos hz]
          rw [hst2] at hst
          rw [putV_zero hz] at hput
          simp -implicitDefEqProofs (disch := omega) only [hii, hb0, q0, simprocAttr, amset, tyset, Function.comp_apply, one1, lenV, calleeOf, lateOk, belowV, aop, AV.ofValue, AV.ofCell, AV.cells, AV.flat, AV.one, arep, aBin, aAppend, aConv]
          repeat refine And.intro (by omega) ?_
          refine call_d (by kernel_rfl) hput ?_
          simp -implicitDefEqProofs (disch := omega) only [simprocAttr, amset, tyset, Function.comp_apply, one1, lenV, calleeOf, lateOk, belowV, aop, AV.ofValue, AV.ofCell, AV.cells, AV.flat, AV.one, arep, aBin, aAppend, aConv]
          refine hJ _ _ ⟨k - 1, by omega, _, [(1, .ptr (some (H.length, 0))), (2, .ptr (some (H.length + 1, 0))), (3, .ptr (some (H.length + 2, 0))), (4, .int .i64 ((i + 1 : Nat) : Int))], H ++ [.cells true 0 [.int .i64 x, .int .i64 y, .sl (some (b, 0)) n cap], .cells true 0 [.int .i64 0, .int .i64 0, .sl none 0 (some 0)], .cells true 0 [.int .i64 x, .int .i64 y, .sl none 0 (some 0)], .dead], ⟨i + 1, .sl none 0 (some 0), .dead, by omega, by rw [hst]; exact .inl ⟨rfl, rfl, rfl⟩, rfl, rfl⟩, Abs.by hbel [0, 1, 2, 3] (by decide) ?_⟩
          simp -implicitDefEqProofs (disch := omega) only [absF, absH, W_refl', W_any', W_agg, W_tup, Ws_cons, Ws_refl', Wc_refl', Wcs_cons, Wcs_nil, look, List.cons_append, List.nil_append, List.append_nil, List.length_cons, List.length_nil, Nat.zero_add, Nat.reduceAdd, AV.mv, AV.mvs, ABlk.mv, sig_new0, sig_newk, sig_lt, List.getElem?_cons_zero, List.getElem?_cons_succ, mvs_ints, mvs_bools, mvs_prs, mvs_append, cond_true, cond_false, beq_self_eq_true, Nat.reduceBEq, true_and, and_true, or_true, true_or, and_self, decide_true, Nat.add_zero, reduceCtorEq, false_or, or_false]
          repeat' (first | exact True.intro | exact Nat.add_lt_add_left (by decide) _ | exact Nat.lt_add_of_pos_right (by decide) | refine W_nils ?_ (Or.inr rfl) | refine W_nils ?_ (Or.inl rfl) | refine Wc_nils ?_ (Or.inr rfl) | refine Wc_nils ?_ (Or.inl rfl) | exact W_cap | rfl | refine And.intro ?_ ?_ | exact Or.inl rfl | exact Or.inr rfl | exact Or.inr (Or.inl rfl) | exact Or.inr (Or.inr BW.emp) | exact Or.inr BW.emp | exact BW.emp | exact Or.inr (Or.inr BW.pre) | exact Or.inr BW.pre | exact BW.pre | refine Or.inr (BW.cells ?_) | refine BW.cells ?_ | refine Or.inr (Or.inr (BW.cells ?_)) | exact Wc_cap)
        · have hst2 : putL [] (gp l i) = putC [] (nrm (gp l i)) := by unfold putL; rw [if_neg hz]
          rw [hst2] at hst
          have hpl := (putC_len (nrm_up hz) hcan.sorted hcan.ups).2
          rw [putV_pos hz hpl] at hput
          simp only [List.length_append, List.length_cons, List.length_nil, Nat.zero_add, Nat.reduceAdd] at hput
          generalize putC [] (nrm (gp l i)) = L2 at *
          simp -implicitDefEqProofs (disch := omega) only [hii, hb0, q0, simprocAttr, amset, tyset, Function.comp_apply, one1, lenV, calleeOf, lateOk, belowV, aop, AV.ofValue, AV.ofCell, AV.cells, AV.flat, AV.one, arep, aBin, aAppend, aConv]
          repeat refine And.intro (by omega) ?_
          refine call_x (by kernel_rfl) (by simp) hput ?_
          simp -implicitDefEqProofs (disch := omega) only [simprocAttr, amset, tyset, Function.comp_apply, one1, lenV, calleeOf, lateOk, belowV, aop, AV.ofValue, AV.ofCell, AV.cells, AV.flat, AV.one, arep, aBin, aAppend, aConv]
          refine hJ _ _ ⟨k - 1, by omega, _, [(1, .ptr (some (H.length, 0))), (2, .ptr (some (H.length + 1, 0))), (3, .ptr (some (H.length + 2, 0))), (4, .int .i64 ((i + 1 : Nat) : Int))], H ++ [.cells true 0 [.int .i64 x, .int .i64 y, .sl (some (b, 0)) n cap], .cells true 0 [.int .i64 0, .int .i64 0, .sl none 0 (some 0)], .cells true 0 [.int .i64 x, .int .i64 y, .sl (some (H.length + 3, 0)) L2.length none], .cells true 2 (prs L2)], ⟨i + 1, .sl (some (H.length + 3, 0)) L2.length none, .cells true 2 (prs L2), by omega, by rw [hst]; exact .inr ⟨hpl, rfl, rfl⟩, rfl, rfl⟩, Abs.by hbel [0, 1, 2, 4] (by decide) ?_⟩
          simp -implicitDefEqProofs (disch := omega) only [absF, absH, W_refl', W_any', W_agg, W_tup, Ws_cons, Ws_refl', Wc_refl', Wcs_cons, Wcs_nil, look, List.cons_append, List.nil_append, List.append_nil, List.length_cons, List.length_nil, Nat.zero_add, Nat.reduceAdd, AV.mv, AV.mvs, ABlk.mv, sig_new0, sig_newk, sig_lt, List.getElem?_cons_zero, List.getElem?_cons_succ, mvs_ints, mvs_bools, mvs_prs, mvs_append, cond_true, cond_false, beq_self_eq_true, Nat.reduceBEq, true_and, and_true, or_true, true_or, and_self, decide_true, Nat.add_zero, reduceCtorEq, false_or, or_false]
          repeat' (first | exact True.intro | exact Nat.add_lt_add_left (by decide) _ | exact Nat.lt_add_of_pos_right (by decide) | refine W_nils ?_ (Or.inr rfl) | refine W_nils ?_ (Or.inl rfl) | refine Wc_nils ?_ (Or.inr rfl) | refine Wc_nils ?_ (Or.inl rfl) | exact W_cap | rfl | refine And.intro ?_ ?_ | exact Or.inl rfl | exact Or.inr rfl | exact Or.inr (Or.inl rfl) | exact Or.inr (Or.inr BW.emp) | exact Or.inr BW.emp | exact BW.emp | exact Or.inr (Or.inr BW.pre) | exact Or.inr BW.pre | exact BW.pre | refine Or.inr (BW.cells ?_) | refine BW.cells ?_ | refine Or.inr (Or.inr (BW.cells ?_)) | exact Wc_cap)
      · have hput := put_c (H ++ [.cells true 0 [.int .i64 x, .int .i64 y, .sl (some (b, 0)) n cap], .cells true 0 [.int .i64 0, .int .i64 0, .sl none 0 (some 0)], .cells true 0 [.int .i64 x, .int .i64 y, .sl (some (H.length + 3, 0)) L.length none], .cells true 2 (prs L)]) (.sl (some (H.length + 3, 0)) L.length none) L (.inr ⟨H.length + 3, true, none, rfl, by rw [get_newk]; rfl⟩) (by omega) hmb2 (gp l i) hgb
        by_cases hz : nrm (gp l i) = (0, 0)
        · have hst2 : putL L (gp l i) = L := by unfold putL; rw [if_pos hz]
          rw [hst2] at hst
          rw [putV_zero hz] at hput
          simp -implicitDefEqProofs (disch := omega) only [hii, hb0, q0, simprocAttr, amset, tyset, Function.comp_apply, one1, lenV, calleeOf, lateOk, belowV, aop, AV.ofValue, AV.ofCell, AV.cells, AV.flat, AV.one, arep, aBin, aAppend, aConv]
          repeat refine And.intro (by omega) ?_
          refine call_d (by kernel_rfl) hput ?_
          simp -implicitDefEqProofs (disch := omega) only [simprocAttr, amset, tyset, Function.comp_apply, one1, lenV, calleeOf, lateOk, belowV, aop, AV.ofValue, AV.ofCell, AV.cells, AV.flat, AV.one, arep, aBin, aAppend, aConv]
          refine hJ _ _ ⟨k - 1, by omega, _, [(1, .ptr (some (H.length, 0))), (2, .ptr (some (H.length + 1, 0))), (3, .ptr (some (H.length + 2, 0))), (4, .int .i64 ((i + 1 : Nat) : Int))], H ++ [.cells true 0 [.int .i64 x, .int .i64 y, .sl (some (b, 0)) n cap], .cells true 0 [.int .i64 0, .int .i64 0, .sl none 0 (some 0)], .cells true 0 [.int .i64 x, .int .i64 y, .sl (some (H.length + 3, 0)) L.length none], .cells true 2 (prs L)], ⟨i + 1, .sl (some (H.length + 3, 0)) L.length none, .cells true 2 (prs L), by omega, by rw [hst]; exact .inr ⟨hL1, rfl, rfl⟩, rfl, rfl⟩, Abs.by hbel [0, 1, 2, 3] (by decide) ?_⟩
          simp -implicitDefEqProofs (disch := omega) only [absF, absH, W_refl', W_any', W_agg, W_tup, Ws_cons, Ws_refl', Wc_refl', Wcs_cons, Wcs_nil, look, List.cons_append, List.nil_append, List.append_nil, List.length_cons, List.length_nil, Nat.zero_add, Nat.reduceAdd, AV.mv, AV.mvs, ABlk.mv, sig_new0, sig_newk, sig_lt, List.getElem?_cons_zero, List.getElem?_cons_succ, mvs_ints, mvs_bools, mvs_prs, mvs_append, cond_true, cond_false, beq_self_eq_true, Nat.reduceBEq, true_and, and_true, or_true, true_or, and_self, decide_true, Nat.add_zero, reduceCtorEq, false_or, or_false]
          repeat' (first | exact True.intro | exact Nat.add_lt_add_left (by decide) _ | exact Nat.lt_add_of_pos_right (by decide) | refine W_nils ?_ (Or.inr rfl) | refine W_nils ?_ (Or.inl rfl) | refine Wc_nils ?_ (Or.inr rfl) | refine Wc_nils ?_ (Or.inl rfl) | exact W_cap | rfl | refine And.intro ?_ ?_ | exact Or.inl rfl | exact Or.inr rfl | exact Or.inr (Or.inl rfl) | exact Or.inr (Or.inr BW.emp) | exact Or.inr BW.emp | exact BW.emp | exact Or.inr (Or.inr BW.pre) | exact Or.inr BW.pre | exact BW.pre | refine Or.inr (BW.cells ?_) | refine BW.cells ?_ | refine Or.inr (Or.inr (BW.cells ?_)) | exact Wc_cap)
        · have hst2 : putL L (gp l i) = putC L (nrm (gp l i)) := by unfold putL; rw [if_neg hz]
          rw [hst2] at hst
          have hpl := (putC_len (nrm_up hz) hcan.sorted hcan.ups).2
          rw [putV_pos hz hpl] at hput
          simp only [List.length_append, List.length_cons, List.length_nil, Nat.zero_add, Nat.reduceAdd] at hput
          generalize putC L (nrm (gp l i)) = L2 at *
          simp -implicitDefEqProofs (disch := omega) only [hii, hb0, q0, simprocAttr, amset, tyset, Function.comp_apply, one1, lenV, calleeOf, lateOk, belowV, aop, AV.ofValue, AV.ofCell, AV.cells, AV.flat, AV.one, arep, aBin, aAppend, aConv]
          repeat refine And.intro (by omega) ?_
          refine call_x (by kernel_rfl) (by simp) hput ?_
          simp -implicitDefEqProofs (disch := omega) only [simprocAttr, amset, tyset, Function.comp_apply, one1, lenV, calleeOf, lateOk, belowV, aop, AV.ofValue, AV.ofCell, AV.cells, AV.flat, AV.one, arep, aBin, aAppend, aConv]
          refine hJ _ _ ⟨k - 1, by omega, _, [(1, .ptr (some (H.length, 0))), (2, .ptr (some (H.length + 1, 0))), (3, .ptr (some (H.length + 2, 0))), (4, .int .i64 ((i + 1 : Nat) : Int))], H ++ [.cells true 0 [.int .i64 x, .int .i64 y, .sl (some (b, 0)) n cap], .cells true 0 [.int .i64 0, .int .i64 0, .sl none 0 (some 0)], .cells true 0 [.int .i64 x, .int .i64 y, .sl (some (H.length + 3, 0)) L2.length none], .cells true 2 (prs L2)], ⟨i + 1, .sl (some (H.length + 3, 0)) L2.length none, .cells true 2 (prs L2), by omega, by rw [hst]; exact .inr ⟨hpl, rfl, rfl⟩, rfl, rfl⟩, Abs.by hbel [0, 1, 2, 4] (by decide) ?_⟩
          simp -implicitDefEqProofs (disch := omega) only [absF, absH, W_refl', W_any', W_agg, W_tup, Ws_cons, Ws_refl', Wc_refl', Wcs_cons, Wcs_nil, look, List.cons_append, List.nil_append, List.append_nil, List.length_cons, List.length_nil, Nat.zero_add, Nat.reduceAdd, AV.mv, AV.mvs, ABlk.mv, sig_new0, sig_newk, sig_lt, List.getElem?_cons_zero, List.getElem?_cons_succ, mvs_ints, mvs_bools, mvs_prs, mvs_append, cond_true, cond_false, beq_self_eq_true, Nat.reduceBEq, true_and, and_true, or_true, true_or, and_self, decide_true, Nat.add_zero, reduceCtorEq, false_or, or_false]
          repeat' (first | exact True.intro | exact Nat.add_lt_add_left (by decide) _ | exact Nat.lt_add_of_pos_right (by decide) | refine W_nils ?_ (Or.inr rfl) | refine W_nils ?_ (Or.inl rfl) | refine Wc_nils ?_ (Or.inr rfl) | refine Wc_nils ?_ (Or.inl rfl) | exact W_cap | rfl | refine And.intro ?_ ?_ | exact Or.inl rfl | exact Or.inr rfl | exact Or.inr (Or.inl rfl) | exact Or.inr (Or.inr BW.emp) | exact Or.inr BW.emp | exact BW.emp | exact Or.inr (Or.inr BW.pre) | exact Or.inr BW.pre | exact BW.pre | refine Or.inr (BW.cells ?_) | refine BW.cells ?_ | refine Or.inr (Or.inr (BW.cells ?_)) | exact Wc_cap)
    · have hnn : ¬ ((i : Int) < (n : Int)) := by omega
      rw [List.take_of_length_le (by omega)] at hO
      rcases hO with ⟨h, rfl, rfl⟩ | ⟨h, rfl, rfl⟩
      · rw [h, retP_nil] at hQ
        simp -implicitDefEqProofs (disch := omega) only [hnn, simprocAttr, amset, tyset, Function.comp_apply, one1, lenV, calleeOf, lateOk, belowV, aop, AV.ofValue, AV.ofCell, AV.cells, AV.flat, AV.one, arep, aBin, aAppend, aConv]
        exact hQ _ _ (end_plain (.inl rfl) hbel (x := .agg [.int .i64 x, .int .i64 y, .sl none 0 (some 0)]) (ret_of Tryz.results117 (by simp -implicitDefEqProofs (disch := omega) only [simprocAttr, amset, tyset, Function.comp_apply, one1, lenV, calleeOf, lateOk, belowV, aop, AV.ofValue, AV.ofCell, AV.cells, AV.flat, AV.one, arep, aBin, aAppend, aConv])) rfl ⟨rfl, rfl⟩)
      · rw [retP_pos h] at hQ
        simp -implicitDefEqProofs (disch := omega) only [hnn, simprocAttr, amset, tyset, Function.comp_apply, one1, lenV, calleeOf, lateOk, belowV, aop, AV.ofValue, AV.ofCell, AV.cells, AV.flat, AV.one, arep, aBin, aAppend, aConv]
        refine hQ _ _ (end_by (.inl rfl) hbel (x1 := .agg [.int .i64 x, .int .i64 y, .sl (some (H.length + 3, 0)) (canonL l).length none]) (.agg [.int .i64 x, .int .i64 y, .sl (some (H.length, 0)) (canonL l).length none]) (ret_of Tryz.results117 (by simp -implicitDefEqProofs (disch := omega) only [simprocAttr, amset, tyset, Function.comp_apply, one1, lenV, calleeOf, lateOk, belowV, aop, AV.ofValue, AV.ofCell, AV.cells, AV.flat, AV.one, arep, aBin, aAppend, aConv])) [3] (by decide) ⟨rfl, rfl⟩ ?_)
        simp -implicitDefEqProofs (disch := omega) only [absF, absH, W_refl', W_any', W_agg, W_tup, Ws_cons, Ws_refl', Wc_refl', Wcs_cons, Wcs_nil, look, List.cons_append, List.nil_append, List.append_nil, List.length_cons, List.length_nil, Nat.zero_add, Nat.reduceAdd, AV.mv, AV.mvs, ABlk.mv, sig_new0, sig_newk, sig_lt, List.getElem?_cons_zero, List.getElem?_cons_succ, mvs_ints, mvs_bools, mvs_prs, mvs_append, cond_true, cond_false, beq_self_eq_true, Nat.reduceBEq, true_and, and_true, or_true, true_or, and_self, decide_true, Nat.add_zero, reduceCtorEq, false_or, or_false]
        repeat' (first | exact True.intro | exact Nat.add_lt_add_left (by decide) _ | exact Nat.lt_add_of_pos_right (by decide) | refine W_nils ?_ (Or.inr rfl) | refine W_nils ?_ (Or.inl rfl) | refine Wc_nils ?_ (Or.inr rfl) | refine Wc_nils ?_ (Or.inl rfl) | exact W_cap | rfl | refine And.intro ?_ ?_ | exact Or.inl rfl | exact Or.inr rfl | exact Or.inr (Or.inl rfl) | exact Or.inr (Or.inr BW.emp) | exact Or.inr BW.emp | exact BW.emp | exact Or.inr (Or.inr BW.pre) | exact Or.inr BW.pre | exact BW.pre | refine Or.inr (BW.cells ?_) | refine BW.cells ?_ | refine Or.inr (Or.inr (BW.cells ?_)) | exact Wc_cap)
end Go.Proofs.YtoimakfecmhjkaaGreat

/- Walk by the abstract machine: wayfinderbase.Points. Conditions: as each theorem states. -/
namespace Go.Proofs.YtoimakfecmhjkaaGreat
set_option linter.unusedSimpArgs false
set_option linter.unusedVariables false
open Go.RowKit
theorem take_snoc {α : Type} {l : List α} {i : Nat} (h : i < l.length) : l.take (i + 1) = l.take i ++ [l[i]] := List.take_succ_eq_append_getElem h
theorem take_eq_step {l m : List (Int × Int)} {i : Nat} (h1 : i < l.length) (h2 : i < m.length) (h : l.take i = m.take i) (e1 : g1 l i = g1 m i) (e2 : g2 l i = g2 m i) : l.take (i + 1) = m.take (i + 1) := by
  rw [take_snoc h1, take_snoc h2, h, ← gp_eq h1, ← gp_eq h2, gp, gp, e1, e2]
set_option maxRecDepth 100000 in
theorem points_c (H : AHeap) (s1 s2 : AV) (l m : List (Int × Int)) (h1 : IsP H s1 l) (h2 : IsP H s2 m) (hl : l.length ≤ 1000000) (hm : m.length ≤ 1000000) :
    ACalls Tryz.prog 61 [s1, s2] H (fun v H' => v = .bool (decide (l = m)) ∧ H' = H) := by
  have hs1 : ∃ a c, s1 = .sl a l.length c := by
    rcases h1 with ⟨rfl, rfl⟩ | ⟨b, own, cap, rfl, hb⟩
    · exact ⟨_, _, rfl⟩
    · exact ⟨_, _, rfl⟩
  have hs2 : ∃ a c, s2 = .sl a m.length c := by
    rcases h2 with ⟨rfl, rfl⟩ | ⟨b, own, cap, rfl, hb⟩
    · exact ⟨_, _, rfl⟩
    · exact ⟨_, _, rfl⟩
  obtain ⟨a1, c1, rfl⟩ := hs1
  obtain ⟨a2, c2, rfl⟩ := hs2
  by_cases hlm : l.length = m.length
  · have hne : ((l.length : Int) != (m.length : Int)) = false := by simp [hlm]
    rcases Nat.eq_zero_or_pos l.length with h0 | h0
    · have e1 : l = [] := List.eq_nil_of_length_eq_zero h0
      have e2 : m = [] := List.eq_nil_of_length_eq_zero (by omega)
      subst e1 e2
      (refine ACalls_run try_mixed Tryz.func61 true _ rfl (Nat.le_of_ble_eq_true (by kernel_rfl)) (by kernel_rfl) ?_; intro hbel Q hQ hQ' c hc; unfold Tryz.f61 at hc; simp only [Option.some.injEq] at hc; subst hc; clear hQ')
      simp -implicitDefEqProofs (disch := omega) only [List.length_nil, simprocAttr, amset, tyset, Function.comp_apply, one1, lenV, calleeOf, lateOk, belowV, aop, AV.ofValue, AV.ofCell, AV.cells, AV.flat, AV.one, arep, aBin, aAppend, aConv]
      refine go_loop try_mixed (by kernel_rfl) (fun k F Hx => F = [(0, .sl a1 0 c1), (5, .int .i64 0)] ∧ Hx = H) 1 ?_ ?_
      · refine ⟨_, _, _, ⟨rfl, rfl⟩, Abs.by0 hbel ?_⟩
        rcases h1 with ⟨-, h⟩ | ⟨b, own, cap, h, hb⟩
        · injection h with h _ h'
          subst h h'
          simp -implicitDefEqProofs (disch := omega) only [absF, absH, W_refl', W_any', W_agg, W_tup, Ws_cons, Ws_refl', Wc_refl', Wcs_cons, Wcs_nil, look, List.cons_append, List.nil_append, List.append_nil, List.length_cons, List.length_nil, Nat.zero_add, Nat.reduceAdd, AV.mv, AV.mvs, ABlk.mv, sig_new0, sig_newk, sig_lt, List.getElem?_cons_zero, List.getElem?_cons_succ, mvs_ints, mvs_bools, mvs_prs, mvs_append, cond_true, cond_false, beq_self_eq_true, Nat.reduceBEq, true_and, and_true, or_true, true_or, and_self, decide_true, Nat.add_zero, reduceCtorEq, false_or, or_false]
          repeat' (first | exact True.intro | exact Nat.add_lt_add_left (by decide) _ | exact Nat.lt_add_of_pos_right (by decide) | refine W_nils ?_ (Or.inr rfl) | refine W_nils ?_ (Or.inl rfl) | refine Wc_nils ?_ (Or.inr rfl) | refine Wc_nils ?_ (Or.inl rfl) | exact W_cap | rfl | refine And.intro ?_ ?_ | exact Or.inl rfl | exact Or.inr rfl | exact Or.inr (Or.inl rfl) | exact Or.inr (Or.inr BW.emp) | exact Or.inr BW.emp | exact BW.emp | exact Or.inr (Or.inr BW.pre) | exact Or.inr BW.pre | exact BW.pre | refine Or.inr (BW.cells ?_) | refine BW.cells ?_ | refine Or.inr (Or.inr (BW.cells ?_)) | exact Wc_cap)
        · injection h with h _ h'
          subst h h'
          have hbb := getElem?_lt ‹H[b]? = _›
          simp -implicitDefEqProofs (disch := omega) only [absF, absH, W_refl', W_any', W_agg, W_tup, Ws_cons, Ws_refl', Wc_refl', Wcs_cons, Wcs_nil, look, List.cons_append, List.nil_append, List.append_nil, List.length_cons, List.length_nil, Nat.zero_add, Nat.reduceAdd, AV.mv, AV.mvs, ABlk.mv, sig_new0, sig_newk, sig_lt, List.getElem?_cons_zero, List.getElem?_cons_succ, mvs_ints, mvs_bools, mvs_prs, mvs_append, cond_true, cond_false, beq_self_eq_true, Nat.reduceBEq, true_and, and_true, or_true, true_or, and_self, decide_true, Nat.add_zero, reduceCtorEq, false_or, or_false]
          repeat' (first | exact True.intro | exact Nat.add_lt_add_left (by decide) _ | exact Nat.lt_add_of_pos_right (by decide) | refine W_nils ?_ (Or.inr rfl) | refine W_nils ?_ (Or.inl rfl) | refine Wc_nils ?_ (Or.inr rfl) | refine Wc_nils ?_ (Or.inl rfl) | exact W_cap | rfl | refine And.intro ?_ ?_ | exact Or.inl rfl | exact Or.inr rfl | exact Or.inr (Or.inl rfl) | exact Or.inr (Or.inr BW.emp) | exact Or.inr BW.emp | exact BW.emp | exact Or.inr (Or.inr BW.pre) | exact Or.inr BW.pre | exact BW.pre | refine Or.inr (BW.cells ?_) | refine BW.cells ?_ | refine Or.inr (Or.inr (BW.cells ?_)) | exact Wc_cap)
      · rintro k F Hx ⟨rfl, rfl⟩ J hJ
        simp -implicitDefEqProofs (disch := omega) only [Int.lt_irrefl, simprocAttr, amset, tyset, Function.comp_apply, one1, lenV, calleeOf, lateOk, belowV, aop, AV.ofValue, AV.ofCell, AV.cells, AV.flat, AV.one, arep, aBin, aAppend, aConv]
        exact hQ _ _ (end_plain0 (.inl rfl) hbel (x := .bool true) (ret_of Tryz.results61 (by simp -implicitDefEqProofs (disch := omega) only [simprocAttr, amset, tyset, Function.comp_apply, one1, lenV, calleeOf, lateOk, belowV, aop, AV.ofValue, AV.ofCell, AV.cells, AV.flat, AV.one, arep, aBin, aAppend, aConv])) rfl ⟨rfl, rfl⟩)
    · obtain ⟨b, own, cap, e1, hb⟩ := h1.resolve_left (fun h => by rw [h.1] at h0; simp at h0)
      injection e1 with e1 _ e1'; subst e1 e1'
      obtain ⟨b', own', cap', e2, hb'⟩ := h2.resolve_left (fun h => by rw [h.1] at hlm; simp at hlm; rw [hlm] at h0; simp at h0)
      injection e2 with e2 _ e2'; subst e2 e2'
      have hbl := getElem?_lt hb
      have hbl' := getElem?_lt hb'
      (refine ACalls_run try_mixed Tryz.func61 true _ rfl (Nat.le_of_ble_eq_true (by kernel_rfl)) (by kernel_rfl) ?_; intro hbel Q hQ hQ' c hc; unfold Tryz.f61 at hc; simp only [Option.some.injEq] at hc; subst hc; clear hQ')
      simp -implicitDefEqProofs (disch := omega) only [hne, simprocAttr, amset, tyset, Function.comp_apply, one1, lenV, calleeOf, lateOk, belowV, aop, AV.ofValue, AV.ofCell, AV.cells, AV.flat, AV.one, arep, aBin, aAppend, aConv]
      refine go_loop try_mixed (by kernel_rfl) (fun k F Hx => ∃ i : Nat, i + k = l.length ∧ l.take i = m.take i ∧ F = [(0, .sl (some (b, 0)) l.length none), (1, .sl (some (b', 0)) m.length none), (5, .int .i64 (i : Nat))] ∧ Hx = H) l.length ?_ ?_
      · refine ⟨_, _, _, ⟨0, by omega, rfl, rfl, rfl⟩, Abs.by0 hbel ?_⟩
        simp -implicitDefEqProofs (disch := omega) only [absF, absH, W_refl', W_any', W_agg, W_tup, Ws_cons, Ws_refl', Wc_refl', Wcs_cons, Wcs_nil, look, List.cons_append, List.nil_append, List.append_nil, List.length_cons, List.length_nil, Nat.zero_add, Nat.reduceAdd, AV.mv, AV.mvs, ABlk.mv, sig_new0, sig_newk, sig_lt, List.getElem?_cons_zero, List.getElem?_cons_succ, mvs_ints, mvs_bools, mvs_prs, mvs_append, cond_true, cond_false, beq_self_eq_true, Nat.reduceBEq, true_and, and_true, or_true, true_or, and_self, decide_true, Nat.add_zero, reduceCtorEq, false_or, or_false]
        repeat' (first | exact True.intro | exact Nat.add_lt_add_left (by decide) _ | exact Nat.lt_add_of_pos_right (by decide) | refine W_nils ?_ (Or.inr rfl) | refine W_nils ?_ (Or.inl rfl) | refine Wc_nils ?_ (Or.inr rfl) | refine Wc_nils ?_ (Or.inl rfl) | exact W_cap | rfl | refine And.intro ?_ ?_ | exact Or.inl rfl | exact Or.inr rfl | exact Or.inr (Or.inl rfl) | exact Or.inr (Or.inr BW.emp) | exact Or.inr BW.emp | exact BW.emp | exact Or.inr (Or.inr BW.pre) | exact Or.inr BW.pre | exact BW.pre | refine Or.inr (BW.cells ?_) | refine BW.cells ?_ | refine Or.inr (Or.inr (BW.cells ?_)) | exact Wc_cap)
      · rintro k F Hx ⟨i, hik, ht, rfl, rfl⟩ J hJ
        by_cases hi : i < l.length
        · have hii : (i : Int) < (l.length : Int) := by omega
          have q1 := prs_load hi
          have q2 := prs_load (l := m) (j := i) (by omega)
          cases p : (g1 l i == g1 m i && g2 l i == g2 m i)
          · simp -implicitDefEqProofs (disch := omega) only [hii, hb, hb', q1, q2, p, simprocAttr, amset, tyset, Function.comp_apply, one1, lenV, calleeOf, lateOk, belowV, aop, AV.ofValue, AV.ofCell, AV.cells, AV.flat, AV.one, arep, aBin, aAppend, aConv]
            repeat refine And.intro (by omega) ?_
            have hlm : l ≠ m := fun h => by subst h; simp at p
            exact hQ _ _ (end_plain0 (.inl rfl) hbel (x := .bool false) (ret_of Tryz.results61 (by simp -implicitDefEqProofs (disch := omega) only [simprocAttr, amset, tyset, Function.comp_apply, one1, lenV, calleeOf, lateOk, belowV, aop, AV.ofValue, AV.ofCell, AV.cells, AV.flat, AV.one, arep, aBin, aAppend, aConv])) rfl ⟨by simp [hlm], rfl⟩)
          · simp -implicitDefEqProofs (disch := omega) only [hii, hb, hb', q1, q2, p, simprocAttr, amset, tyset, Function.comp_apply, one1, lenV, calleeOf, lateOk, belowV, aop, AV.ofValue, AV.ofCell, AV.cells, AV.flat, AV.one, arep, aBin, aAppend, aConv]
            repeat refine And.intro (by omega) ?_
            refine hJ _ _ ⟨k - 1, by omega, _, _, _, ⟨i + 1, by omega, ?_, rfl, rfl⟩, Abs.by0 hbel ?_⟩
            · simp at p
              exact take_eq_step hi (by omega) ht p.1 p.2
            · simp -implicitDefEqProofs (disch := omega) only [absF, absH, W_refl', W_any', W_agg, W_tup, Ws_cons, Ws_refl', Wc_refl', Wcs_cons, Wcs_nil, look, List.cons_append, List.nil_append, List.append_nil, List.length_cons, List.length_nil, Nat.zero_add, Nat.reduceAdd, AV.mv, AV.mvs, ABlk.mv, sig_new0, sig_newk, sig_lt, List.getElem?_cons_zero, List.getElem?_cons_succ, mvs_ints, mvs_bools, mvs_prs, mvs_append, cond_true, cond_false, beq_self_eq_true, Nat.reduceBEq, true_and, and_true, or_true, true_or, and_self, decide_true, Nat.add_zero, reduceCtorEq, false_or, or_false]
              repeat' (first | exact True.intro | exact Nat.add_lt_add_left (by decide) _ | exact Nat.lt_add_of_pos_right (by decide) | refine W_nils ?_ (Or.inr rfl) | refine W_nils ?_ (Or.inl rfl) | refine Wc_nils ?_ (Or.inr rfl) | refine Wc_nils ?_ (Or.inl rfl) | exact W_cap | rfl | refine And.intro ?_ ?_ | exact Or.inl rfl | exact Or.inr rfl | exact Or.inr (Or.inl rfl) | exact Or.inr (Or.inr BW.emp) | exact Or.inr BW.emp | exact BW.emp | exact Or.inr (Or.inr BW.pre) | exact Or.inr BW.pre | exact BW.pre | refine Or.inr (BW.cells ?_) | refine BW.cells ?_ | refine Or.inr (Or.inr (BW.cells ?_)) | exact Wc_cap)
        · have hnn : ¬ ((i : Int) < (l.length : Int)) := by omega
          simp -implicitDefEqProofs (disch := omega) only [hnn, simprocAttr, amset, tyset, Function.comp_apply, one1, lenV, calleeOf, lateOk, belowV, aop, AV.ofValue, AV.ofCell, AV.cells, AV.flat, AV.one, arep, aBin, aAppend, aConv]
          have : l = m := by rwa [List.take_of_length_le (by omega), List.take_of_length_le (by omega)] at ht
          exact hQ _ _ (end_plain0 (.inl rfl) hbel (x := .bool true) (ret_of Tryz.results61 (by simp -implicitDefEqProofs (disch := omega) only [simprocAttr, amset, tyset, Function.comp_apply, one1, lenV, calleeOf, lateOk, belowV, aop, AV.ofValue, AV.ofCell, AV.cells, AV.flat, AV.one, arep, aBin, aAppend, aConv])) rfl ⟨by simp [this], rfl⟩)
  · have hne : ((l.length : Int) != (m.length : Int)) = true := by simp; omega
    (refine ACalls_run try_mixed Tryz.func61 true _ rfl (Nat.le_of_ble_eq_true (by kernel_rfl)) (by kernel_rfl) ?_; intro hbel Q hQ hQ' c hc; unfold Tryz.f61 at hc; simp only [Option.some.injEq] at hc; subst hc; clear hQ')
    simp -implicitDefEqProofs (disch := omega) only [hne, simprocAttr, amset, tyset, Function.comp_apply, one1, lenV, calleeOf, lateOk, belowV, aop, AV.ofValue, AV.ofCell, AV.cells, AV.flat, AV.one, arep, aBin, aAppend, aConv]
    exact hQ _ _ (end_plain0 (.inl rfl) hbel (x := .bool false) (ret_of Tryz.results61 (by simp -implicitDefEqProofs (disch := omega) only [simprocAttr, amset, tyset, Function.comp_apply, one1, lenV, calleeOf, lateOk, belowV, aop, AV.ofValue, AV.ofCell, AV.cells, AV.flat, AV.one, arep, aBin, aAppend, aConv])) rfl ⟨by simp; intro h; exact hlm (by rw [h]), rfl⟩)
set_option maxRecDepth 100000 in
theorem zonogons_c (H : AHeap) (x1 y1 x2 y2 : Int) (s1 s2 : AV) (l m : List Pt) (h1 : IsP H s1 l) (h2 : IsP H s2 m) (hl : l.length ≤ 1000000) (hm : m.length ≤ 1000000) :
    ACalls Tryz.prog 15 [.agg [.int .i64 x1, .int .i64 y1, s1], .agg [.int .i64 x2, .int .i64 y2, s2]] H (fun v H' => v = .bool (x1 == x2 && y1 == y2 && decide (l = m)) ∧ H' = H) := by
  have key := fun l' => points_c (H ++ l') s1 s2 l m (h1.app l') (h2.app l') hl hm
  obtain ⟨a1, c1, rfl⟩ := h1.parts
  obtain ⟨a2, c2, rfl⟩ := h2.parts
  (refine ACalls_run try_mixed Tryz.func15 true _ rfl (Nat.le_of_ble_eq_true (by kernel_rfl)) (by kernel_rfl) ?_; intro hbel Q hQ hQ' c hc; unfold Tryz.f15 at hc; simp only [Option.some.injEq] at hc; subst hc; clear hQ')
  cases e1 : (x1 == x2)
  · simp -implicitDefEqProofs (disch := omega) only [e1, simprocAttr, amset, tyset, Function.comp_apply, one1, lenV, calleeOf, lateOk, belowV, aop, AV.ofValue, AV.ofCell, AV.cells, AV.flat, AV.one, arep, aBin, aAppend, aConv]
    exact hQ _ _ (end_plain (.inl rfl) hbel (x := .bool false) (ret_of Tryz.results15 (by simp -implicitDefEqProofs (disch := omega) only [simprocAttr, amset, tyset, Function.comp_apply, one1, lenV, calleeOf, lateOk, belowV, aop, AV.ofValue, AV.ofCell, AV.cells, AV.flat, AV.one, arep, aBin, aAppend, aConv])) rfl ⟨by rw [e1]; rfl, rfl⟩)
  cases e2 : (y1 == y2)
  · simp -implicitDefEqProofs (disch := omega) only [e1, e2, simprocAttr, amset, tyset, Function.comp_apply, one1, lenV, calleeOf, lateOk, belowV, aop, AV.ofValue, AV.ofCell, AV.cells, AV.flat, AV.one, arep, aBin, aAppend, aConv]
    exact hQ _ _ (end_plain (.inl rfl) hbel (x := .bool false) (ret_of Tryz.results15 (by simp -implicitDefEqProofs (disch := omega) only [simprocAttr, amset, tyset, Function.comp_apply, one1, lenV, calleeOf, lateOk, belowV, aop, AV.ofValue, AV.ofCell, AV.cells, AV.flat, AV.one, arep, aBin, aAppend, aConv])) rfl ⟨by rw [e1, e2]; rfl, rfl⟩)
  simp -implicitDefEqProofs (disch := omega) only [e1, e2, simprocAttr, amset, tyset, Function.comp_apply, one1, lenV, calleeOf, lateOk, belowV, aop, AV.ofValue, AV.ofCell, AV.cells, AV.flat, AV.one, arep, aBin, aAppend, aConv]
  refine call_v (by kernel_rfl) (key _) ?_
  simp -implicitDefEqProofs (disch := omega) only [simprocAttr, amset, tyset, Function.comp_apply, one1, lenV, calleeOf, lateOk, belowV, aop, AV.ofValue, AV.ofCell, AV.cells, AV.flat, AV.one, arep, aBin, aAppend, aConv]
  exact hQ _ _ (end_plain (.inl rfl) hbel (x := .bool (decide (l = m))) (ret_of Tryz.results15 (by simp -implicitDefEqProofs (disch := omega) only [simprocAttr, amset, tyset, Function.comp_apply, one1, lenV, calleeOf, lateOk, belowV, aop, AV.ofValue, AV.ofCell, AV.cells, AV.flat, AV.one, arep, aBin, aAppend, aConv])) rfl ⟨by rw [e1, e2]; rfl, rfl⟩)
end Go.Proofs.YtoimakfecmhjkaaGreat

/- Walks by the abstract machine: canonical forms of any zonogons; slices.Equal. Conditions: as each theorem states. -/
namespace Go.Proofs.YtoimakfecmhjkaaGreat
set_option linter.unusedSimpArgs false
set_option linter.unusedVariables false
open Go.RowKit
theorem within_iff {x m : Int} : within x m = true ↔ -m ≤ x ∧ x ≤ m := by unfold within; simp
def far4 (a b c d : Int) : Bool := within a 2097152 && within b 2097152 && within c 2097152 && within d 2097152
theorem far4_any (a b c d : Int) : (!([a, b, c, d] : List Int).any farB) = far4 a b c d := by
  simp only [List.any_cons, List.any_nil, farB, nearB, far4]
  cases within a 2097152 <;> cases within b 2097152 <;> cases within c 2097152 <;> cases within d 2097152 <;> rfl
theorem far4_bd {a b c d : Int} (h : far4 a b c d = true) : (-2097152 ≤ a ∧ a ≤ 2097152) ∧ (-2097152 ≤ b ∧ b ≤ 2097152) ∧ (-2097152 ≤ c ∧ c ≤ 2097152) ∧ (-2097152 ≤ d ∧ d ≤ 2097152) := by
  unfold far4 at h
  simp only [Bool.and_eq_true, within_iff] at h
  exact ⟨h.1.1.1, h.1.1.2, h.1.2, h.2⟩
/-- The error of OfRect. -/
def rectE (x0 y0 x1 y1 : Int) : Int := if far4 x0 y0 x1 y1 = true ∧ x0 ≤ x1 ∧ y0 ≤ y1 ∧ x1 - x0 ≤ 65536 ∧ y1 - y0 ≤ 65536 then 0 else 1
def segE (x0 y0 x1 y1 : Int) : Int := if far4 x0 y0 x1 y1 = true ∧ within (x0 - x1) 65536 = true ∧ within (y0 - y1) 65536 = true then 0 else 1
theorem rectE_bad {x0 y0 x1 y1 : Int} (h : ¬ (far4 x0 y0 x1 y1 = true ∧ x0 ≤ x1 ∧ y0 ≤ y1 ∧ x1 - x0 ≤ 65536 ∧ y1 - y0 ≤ 65536)) : rectE x0 y0 x1 y1 = 1 := if_neg h
/-- A zonogon handed back. -/
def zR (H : AHeap) (x y : Int) (L : List Pt) : AV × AHeap := (.agg [.int .i64 x, .int .i64 y, (retP H L).1], (retP H L).2)
theorem zR_nil {H : AHeap} {x y : Int} : zR H x y [] = (.agg [.int .i64 x, .int .i64 y, .sl none 0 (some 0)], H) := rfl
theorem zR_pos {H : AHeap} {x y : Int} {L : List Pt} (h : 0 < L.length) : zR H x y L = (.agg [.int .i64 x, .int .i64 y, .sl (some (H.length, 0)) L.length none], H ++ [.cells true 2 (prs L)]) := by unfold zR; rw [retP_pos h]
set_option maxRecDepth 100000 in
theorem canonical0_c (H : AHeap) (x y : Int) : ACalls Tryz.prog 107 [.agg [.int .i64 x, .int .i64 y, .sl none 0 (some 0)]] H (fun v H' => v = .agg [.int .i64 x, .int .i64 y, .sl none 0 (some 0)] ∧ H' = H) := by
  (refine ACalls_run try_mixed Tryz.func107 true _ rfl (Nat.le_of_ble_eq_true (by kernel_rfl)) (by kernel_rfl) ?_; intro hbel Q hQ hQ' c hc; unfold Tryz.f107 at hc; simp only [Option.some.injEq] at hc; subst hc; clear hQ')
  simp -implicitDefEqProofs (disch := omega) only [simprocAttr, amset, tyset, Function.comp_apply, one1, lenV, calleeOf, lateOk, belowV, aop, AV.ofValue, AV.ofCell, AV.cells, AV.flat, AV.one, arep, aBin, aAppend, aConv]
  refine go_loop try_mixed (by kernel_rfl) (fun k F Hx => F = [(1, .ptr (some (H.length, 0))), (2, .ptr (some (H.length + 1, 0))), (3, .sl none 0 (some 0)), (12, .int .i64 0), (13, .int .i64 0)] ∧ Hx = H ++ [.cells true 0 [.int .i64 x, .int .i64 y, .sl none 0 (some 0)], .cells true 0 [.int .i64 0, .int .i64 0, .sl none 0 (some 0)]]) 1 ?_ ?_
  · refine ⟨_, _, _, ⟨rfl, rfl⟩, Abs.by hbel [0, 1] (by decide) ?_⟩
    simp -implicitDefEqProofs (disch := omega) only [absF, absH, W_refl', W_any', W_agg, W_tup, Ws_cons, Ws_refl', Wc_refl', Wcs_cons, Wcs_nil, look, List.cons_append, List.nil_append, List.append_nil, List.length_cons, List.length_nil, Nat.zero_add, Nat.reduceAdd, AV.mv, AV.mvs, ABlk.mv, sig_new0, sig_newk, sig_lt, List.getElem?_cons_zero, List.getElem?_cons_succ, mvs_ints, mvs_bools, mvs_prs, mvs_append, cond_true, cond_false, beq_self_eq_true, Nat.reduceBEq, true_and, and_true, or_true, true_or, and_self, decide_true, Nat.add_zero, reduceCtorEq, false_or, or_false]
    repeat' (first | exact True.intro | exact Nat.add_lt_add_left (by decide) _ | exact Nat.lt_add_of_pos_right (by decide) | refine W_nils ?_ (Or.inr rfl) | refine W_nils ?_ (Or.inl rfl) | refine Wc_nils ?_ (Or.inr rfl) | refine Wc_nils ?_ (Or.inl rfl) | exact W_cap | rfl | refine And.intro ?_ ?_ | exact Or.inl rfl | exact Or.inr rfl | exact Or.inr (Or.inl rfl) | exact Or.inr (Or.inr BW.emp) | exact Or.inr BW.emp | exact BW.emp | exact Or.inr (Or.inr BW.pre) | exact Or.inr BW.pre | exact BW.pre | refine Or.inr (BW.cells ?_) | refine BW.cells ?_ | refine Or.inr (Or.inr (BW.cells ?_)) | exact Wc_cap)
  · rintro k F Hx ⟨rfl, rfl⟩ J hJ
    simp -implicitDefEqProofs (disch := omega) only [Int.lt_irrefl, simprocAttr, amset, tyset, Function.comp_apply, one1, lenV, calleeOf, lateOk, belowV, aop, AV.ofValue, AV.ofCell, AV.cells, AV.flat, AV.one, arep, aBin, aAppend, aConv]
    refine call_v (by kernel_rfl) (sortnil_c _) ?_
    simp -implicitDefEqProofs (disch := omega) only [simprocAttr, amset, tyset, Function.comp_apply, one1, lenV, calleeOf, lateOk, belowV, aop, AV.ofValue, AV.ofCell, AV.cells, AV.flat, AV.one, arep, aBin, aAppend, aConv]
    refine go_loop try_mixed (by kernel_rfl) (fun k F Hx => F = [(2, .ptr (some (H.length, 0))), (6, .ptr (some (H.length + 1, 0))), (53, .int .i64 0), (54, .int .i64 0)] ∧ Hx = H ++ [.cells true 0 [.int .i64 0, .int .i64 0, .sl none 0 (some 0)], .cells true 0 [.int .i64 x, .int .i64 y, .sl none 0 (some 0)]]) 1 ?_ ?_
    · refine ⟨_, _, _, ⟨rfl, rfl⟩, Abs.by hbel [1, 2] (by decide) ?_⟩
      simp -implicitDefEqProofs (disch := omega) only [absF, absH, W_refl', W_any', W_agg, W_tup, Ws_cons, Ws_refl', Wc_refl', Wcs_cons, Wcs_nil, look, List.cons_append, List.nil_append, List.append_nil, List.length_cons, List.length_nil, Nat.zero_add, Nat.reduceAdd, AV.mv, AV.mvs, ABlk.mv, sig_new0, sig_newk, sig_lt, List.getElem?_cons_zero, List.getElem?_cons_succ, mvs_ints, mvs_bools, mvs_prs, mvs_append, cond_true, cond_false, beq_self_eq_true, Nat.reduceBEq, true_and, and_true, or_true, true_or, and_self, decide_true, Nat.add_zero, reduceCtorEq, false_or, or_false]
      repeat' (first | exact True.intro | exact Nat.add_lt_add_left (by decide) _ | exact Nat.lt_add_of_pos_right (by decide) | refine W_nils ?_ (Or.inr rfl) | refine W_nils ?_ (Or.inl rfl) | refine Wc_nils ?_ (Or.inr rfl) | refine Wc_nils ?_ (Or.inl rfl) | exact W_cap | rfl | refine And.intro ?_ ?_ | exact Or.inl rfl | exact Or.inr rfl | exact Or.inr (Or.inl rfl) | exact Or.inr (Or.inr BW.emp) | exact Or.inr BW.emp | exact BW.emp | exact Or.inr (Or.inr BW.pre) | exact Or.inr BW.pre | exact BW.pre | refine Or.inr (BW.cells ?_) | refine BW.cells ?_ | refine Or.inr (Or.inr (BW.cells ?_)) | exact Wc_cap)
    · rintro k F Hx ⟨rfl, rfl⟩ J hJ
      simp -implicitDefEqProofs (disch := omega) only [Int.lt_irrefl, simprocAttr, amset, tyset, Function.comp_apply, one1, lenV, calleeOf, lateOk, belowV, aop, AV.ofValue, AV.ofCell, AV.cells, AV.flat, AV.one, arep, aBin, aAppend, aConv]
      exact hQ _ _ (end_plain (.inl rfl) hbel (x := .agg [.int .i64 x, .int .i64 y, .sl none 0 (some 0)]) (ret_of Tryz.results107 (by simp -implicitDefEqProofs (disch := omega) only [simprocAttr, amset, tyset, Function.comp_apply, one1, lenV, calleeOf, lateOk, belowV, aop, AV.ofValue, AV.ofCell, AV.cells, AV.flat, AV.one, arep, aBin, aAppend, aConv])) rfl ⟨rfl, rfl⟩)
theorem rcanon0_c (H : AHeap) (x y : Int) : ACalls Tryz.prog 117 [.agg [.int .i64 x, .int .i64 y, .sl none 0 (some 0)]] H (fun v H' => v = .agg [.int .i64 x, .int .i64 y, .sl none 0 (some 0)] ∧ H' = H) := by
  (refine ACalls_run try_mixed Tryz.func117 false _ rfl (Nat.le_of_ble_eq_true (by kernel_rfl)) (by kernel_rfl) ?_; intro hbel Q hQ hQ' c hc; unfold Tryz.f117 at hc; simp only [Option.some.injEq] at hc; subst hc; clear hQ')
  simp -implicitDefEqProofs (disch := omega) only [simprocAttr, amset, tyset, Function.comp_apply, one1, lenV, calleeOf, lateOk, belowV, aop, AV.ofValue, AV.ofCell, AV.cells, AV.flat, AV.one, arep, aBin, aAppend, aConv]
  refine go_loop try_mixed (by kernel_rfl) (fun k F Hx => F = [(1, .ptr (some (H.length, 0))), (2, .ptr (some (H.length + 1, 0))), (3, .ptr (some (H.length + 2, 0))), (4, .int .i64 0)] ∧ Hx = H ++ [.cells true 0 [.int .i64 x, .int .i64 y, .sl none 0 (some 0)], .cells true 0 [.int .i64 0, .int .i64 0, .sl none 0 (some 0)], .cells true 0 [.int .i64 x, .int .i64 y, .sl none 0 (some 0)]]) 1 ?_ ?_
  · refine ⟨_, _, _, ⟨rfl, rfl⟩, Abs.by hbel [0, 1, 2] (by decide) ?_⟩
    simp -implicitDefEqProofs (disch := omega) only [absF, absH, W_refl', W_any', W_agg, W_tup, Ws_cons, Ws_refl', Wc_refl', Wcs_cons, Wcs_nil, look, List.cons_append, List.nil_append, List.append_nil, List.length_cons, List.length_nil, Nat.zero_add, Nat.reduceAdd, AV.mv, AV.mvs, ABlk.mv, sig_new0, sig_newk, sig_lt, List.getElem?_cons_zero, List.getElem?_cons_succ, mvs_ints, mvs_bools, mvs_prs, mvs_append, cond_true, cond_false, beq_self_eq_true, Nat.reduceBEq, true_and, and_true, or_true, true_or, and_self, decide_true, Nat.add_zero, reduceCtorEq, false_or, or_false]
    repeat' (first | exact True.intro | exact Nat.add_lt_add_left (by decide) _ | exact Nat.lt_add_of_pos_right (by decide) | refine W_nils ?_ (Or.inr rfl) | refine W_nils ?_ (Or.inl rfl) | refine Wc_nils ?_ (Or.inr rfl) | refine Wc_nils ?_ (Or.inl rfl) | exact W_cap | rfl | refine And.intro ?_ ?_ | exact Or.inl rfl | exact Or.inr rfl | exact Or.inr (Or.inl rfl) | exact Or.inr (Or.inr BW.emp) | exact Or.inr BW.emp | exact BW.emp | exact Or.inr (Or.inr BW.pre) | exact Or.inr BW.pre | exact BW.pre | refine Or.inr (BW.cells ?_) | refine BW.cells ?_ | refine Or.inr (Or.inr (BW.cells ?_)) | exact Wc_cap)
  · rintro k F Hx ⟨rfl, rfl⟩ J hJ
    simp -implicitDefEqProofs (disch := omega) only [Int.lt_irrefl, simprocAttr, amset, tyset, Function.comp_apply, one1, lenV, calleeOf, lateOk, belowV, aop, AV.ofValue, AV.ofCell, AV.cells, AV.flat, AV.one, arep, aBin, aAppend, aConv]
    exact hQ _ _ (end_plain (.inl rfl) hbel (x := .agg [.int .i64 x, .int .i64 y, .sl none 0 (some 0)]) (ret_of Tryz.results117 (by simp -implicitDefEqProofs (disch := omega) only [simprocAttr, amset, tyset, Function.comp_apply, one1, lenV, calleeOf, lateOk, belowV, aop, AV.ofValue, AV.ofCell, AV.cells, AV.flat, AV.one, arep, aBin, aAppend, aConv])) rfl ⟨rfl, rfl⟩)
theorem canonical_a (H : AHeap) (x y : Int) (s : AV) (l : List Pt) (hs : IsP H s l) (hl : l.length ≤ 40) (hB : ∀ e ∈ l, Bd 4194304 e) :
    ACalls Tryz.prog 107 [.agg [.int .i64 x, .int .i64 y, s]] H (fun v H' => v = (zR H x y (canonL l)).1 ∧ H' = (zR H x y (canonL l)).2) := by
  rcases hs with ⟨rfl, rfl⟩ | ⟨b, own, cap, rfl, hb⟩
  · exact canonical0_c H x y
  · exact canonical_c H x y b own cap l hb hl hB
theorem rcanon_a (H : AHeap) (x y : Int) (s : AV) (l : List Pt) (hs : IsP H s l) (hl : l.length ≤ 40) (hB : ∀ e ∈ l, Bd 4194304 e) :
    ACalls Tryz.prog 117 [.agg [.int .i64 x, .int .i64 y, s]] H (fun v H' => v = (zR H x y (canonL l)).1 ∧ H' = (zR H x y (canonL l)).2) := by
  rcases hs with ⟨rfl, rfl⟩ | ⟨b, own, cap, rfl, hb⟩
  · exact rcanon0_c H x y
  · exact rcanon_c H x y b own cap l hb hl hB
theorem valid_bd {x y : Int} {l : List Pt} (h : validB x y l = true) : l.length ≤ 16 ∧ ∀ e ∈ l, Bd 65536 e := by
  unfold validB at h
  simp only [Bool.and_eq_true, decide_eq_true_eq, Bool.not_eq_true'] at h
  refine ⟨h.1.2, fun e he => ?_⟩
  have := List.any_eq_false.1 h.2 e he
  simp only [wrongB, Bool.not_eq_true', Bool.not_eq_false, Bool.and_eq_true, within_iff] at this
  exact ⟨this.1.1, this.1.2, this.2.1, this.2.2⟩
end Go.Proofs.YtoimakfecmhjkaaGreat

/- Walks by the abstract machine: spread, slices.Clone at points. Conditions: as each theorem states. -/
namespace Go.Proofs.YtoimakfecmhjkaaGreat
set_option linter.unusedSimpArgs false
set_option linter.unusedVariables false
open Go.RowKit
def dotP (n g : Pt) : Int := n.1 * g.1 + n.2 * g.2
def spr (n : Pt) : List Pt → Int
  | [] => 0
  | g :: l => absI (dotP n g) + spr n l
theorem spr_app (n : Pt) : ∀ l m : List Pt, spr n (l ++ m) = spr n l + spr n m
  | [], m => by simp [spr]
  | g :: l, m => by simp only [List.cons_append, spr, spr_app n l m]; omega
theorem absI_bd {x M : Int} (h : -M ≤ x ∧ x ≤ M) : 0 ≤ absI x ∧ absI x ≤ M := by unfold absI; split <;> omega
theorem dotP_bd {a b : Pt} {A B : Int} (h1 : Bd A a) (h2 : Bd B b) : (-(A * B) ≤ a.1 * b.1 ∧ a.1 * b.1 ≤ A * B) ∧ (-(A * B) ≤ a.2 * b.2 ∧ a.2 * b.2 ≤ A * B) :=
  ⟨mul_bd ⟨h1.1, h1.2.1⟩ ⟨h2.1, h2.2.1⟩, mul_bd ⟨h1.2.2.1, h1.2.2.2⟩ ⟨h2.2.2.1, h2.2.2.2⟩⟩
theorem spr_bd {n : Pt} (hn : Bd 268435456 n) : ∀ l : List Pt, (∀ e ∈ l, Bd 268435456 e) → 0 ≤ spr n l ∧ spr n l ≤ l.length * 144115188075855872
  | [], _ => by simp [spr]
  | g :: l, h => by
    have ih := spr_bd hn l fun e he => h e (by simp [he])
    have hd := dotP_bd hn (h g (by simp))
    have ha := absI_bd (x := dotP n g) (M := 144115188075855872) (by unfold dotP; omega)
    simp only [spr, List.length_cons, Int.natCast_add]
    omega
set_option maxRecDepth 100000 in
theorem spread_c (H : AHeap) (s : AV) (l : List Pt) (n : Pt) (hs : IsP H s l) (hl : l.length ≤ 40) (hB : ∀ e ∈ l, Bd 268435456 e) (hn : Bd 268435456 n) : ACalls Tryz.prog 126 [s, pv n] H (fun v H' => v = .int .i64 (spr n l) ∧ H' = H) := by
  rcases hs with ⟨rfl, rfl⟩ | ⟨b, own, cap, rfl, hb⟩
  · (refine ACalls_run try_mixed Tryz.func126 true _ rfl (Nat.le_of_ble_eq_true (by kernel_rfl)) (by kernel_rfl) ?_; intro hbel Q hQ hQ' c hc; unfold Tryz.f126 at hc; simp only [Option.some.injEq] at hc; subst hc; clear hQ')
    simp -implicitDefEqProofs (disch := omega) only [simprocAttr, amset, tyset, Function.comp_apply, one1, lenV, calleeOf, lateOk, belowV, aop, AV.ofValue, AV.ofCell, AV.cells, AV.flat, AV.one, arep, aBin, aAppend, aConv]
    refine go_loop try_mixed (by kernel_rfl) (fun k F Hx => F = [(5, .int .i64 0), (9, .int .i64 0), (10, .int .i64 0)] ∧ Hx = H) 1 ?_ ?_
    · refine ⟨_, _, _, ⟨rfl, (List.append_nil H).symm ▸ rfl⟩, Abs.by (l2 := []) hbel [] (by decide) ?_⟩
      simp -implicitDefEqProofs (disch := omega) only [absF, absH, W_refl', W_any', W_agg, W_tup, Ws_cons, Ws_refl', Wc_refl', Wcs_cons, Wcs_nil, look, List.cons_append, List.nil_append, List.append_nil, List.length_cons, List.length_nil, Nat.zero_add, Nat.reduceAdd, AV.mv, AV.mvs, ABlk.mv, sig_new0, sig_newk, sig_lt, List.getElem?_cons_zero, List.getElem?_cons_succ, mvs_ints, mvs_bools, mvs_prs, mvs_append, cond_true, cond_false, beq_self_eq_true, Nat.reduceBEq, true_and, and_true, or_true, true_or, and_self, decide_true, Nat.add_zero, reduceCtorEq, false_or, or_false]
      repeat' (first | exact True.intro | exact Nat.add_lt_add_left (by decide) _ | exact Nat.lt_add_of_pos_right (by decide) | refine W_nils ?_ (Or.inr rfl) | refine W_nils ?_ (Or.inl rfl) | refine Wc_nils ?_ (Or.inr rfl) | refine Wc_nils ?_ (Or.inl rfl) | exact W_cap | rfl | refine And.intro ?_ ?_ | exact Or.inl rfl | exact Or.inr rfl | exact Or.inr (Or.inl rfl) | exact Or.inr (Or.inr BW.emp) | exact Or.inr BW.emp | exact BW.emp | exact Or.inr (Or.inr BW.pre) | exact Or.inr BW.pre | exact BW.pre | refine Or.inr (BW.cells ?_) | refine BW.cells ?_ | refine Or.inr (Or.inr (BW.cells ?_)) | exact Wc_cap)
    · rintro k F Hx ⟨rfl, rfl⟩ J hJ
      simp -implicitDefEqProofs (disch := omega) only [Int.lt_irrefl, simprocAttr, amset, tyset, Function.comp_apply, one1, lenV, calleeOf, lateOk, belowV, aop, AV.ofValue, AV.ofCell, AV.cells, AV.flat, AV.one, arep, aBin, aAppend, aConv]
      exact hQ _ _ (end_plain0 (.inl rfl) hbel (x := .int .i64 0) (ret_of Tryz.results126 (by simp -implicitDefEqProofs (disch := omega) only [simprocAttr, amset, tyset, Function.comp_apply, one1, lenV, calleeOf, lateOk, belowV, aop, AV.ofValue, AV.ofCell, AV.cells, AV.flat, AV.one, arep, aBin, aAppend, aConv])) rfl ⟨rfl, rfl⟩)
  have hbl := getElem?_lt hb
  have hb0 := fun l => get_app (l := l) hb
  generalize hm : l.length = m at *
  (refine ACalls_run try_mixed Tryz.func126 true _ rfl (Nat.le_of_ble_eq_true (by kernel_rfl)) (by kernel_rfl) ?_; intro hbel Q hQ hQ' c hc; unfold Tryz.f126 at hc; simp only [Option.some.injEq] at hc; subst hc; clear hQ')
  simp -implicitDefEqProofs (disch := omega) only [simprocAttr, amset, tyset, Function.comp_apply, one1, lenV, calleeOf, lateOk, belowV, aop, AV.ofValue, AV.ofCell, AV.cells, AV.flat, AV.one, arep, aBin, aAppend, aConv]
  refine go_loop try_mixed (by kernel_rfl) (fun k F Hx => ∃ i : Nat, i + k = m ∧ F = [(3, .ptr (some (H.length, 0))), (5, .int .i64 (spr n (l.take i))), (8, .sl (some (b, 0)) m none), (9, .int .i64 m), (10, .int .i64 (i : Nat))] ∧ Hx = H ++ [.cells true 0 [.int .i64 n.1, .int .i64 n.2]]) m ?_ ?_
  · refine ⟨_, _, _, ⟨0, by omega, rfl, rfl⟩, Abs.by hbel [0] (by decide) ?_⟩
    simp -implicitDefEqProofs (disch := omega) only [absF, absH, W_refl', W_any', W_agg, W_tup, Ws_cons, Ws_refl', Wc_refl', Wcs_cons, Wcs_nil, look, List.cons_append, List.nil_append, List.append_nil, List.length_cons, List.length_nil, Nat.zero_add, Nat.reduceAdd, AV.mv, AV.mvs, ABlk.mv, sig_new0, sig_newk, sig_lt, List.getElem?_cons_zero, List.getElem?_cons_succ, mvs_ints, mvs_bools, mvs_prs, mvs_append, cond_true, cond_false, beq_self_eq_true, Nat.reduceBEq, true_and, and_true, or_true, true_or, and_self, decide_true, Nat.add_zero, reduceCtorEq, false_or, or_false]
    repeat' (first | exact True.intro | exact Nat.add_lt_add_left (by decide) _ | exact Nat.lt_add_of_pos_right (by decide) | refine W_nils ?_ (Or.inr rfl) | refine W_nils ?_ (Or.inl rfl) | refine Wc_nils ?_ (Or.inr rfl) | refine Wc_nils ?_ (Or.inl rfl) | exact W_cap | rfl | refine And.intro ?_ ?_ | exact Or.inl rfl | exact Or.inr rfl | exact Or.inr (Or.inl rfl) | exact Or.inr (Or.inr BW.emp) | exact Or.inr BW.emp | exact BW.emp | exact Or.inr (Or.inr BW.pre) | exact Or.inr BW.pre | exact BW.pre | refine Or.inr (BW.cells ?_) | refine BW.cells ?_ | refine Or.inr (Or.inr (BW.cells ?_)) | exact Wc_cap)
  · rintro k F Hx ⟨i, hik, rfl, rfl⟩ J hJ
    by_cases hi : i < l.length
    · have hii : (i : Int) < (m : Int) := by omega
      have q0 := prs_load hi
      have hg : gp l i = l[i] := gp_eq hi
      have hgb := hB l[i] (List.getElem_mem hi)
      rw [← hg] at hgb
      have hd := dotP_bd hn hgb
      have hsb := spr_bd hn (l.take i) fun e he => hB e (List.mem_of_mem_take he)
      have hsl : ((l.take i).length : Int) * 144115188075855872 ≤ 39 * 144115188075855872 := Int.mul_le_mul_of_nonneg_right (by rw [List.length_take]; omega) (by decide)
      have ha := absI_bd (x := dotP n (gp l i)) (M := 144115188075855872) (by unfold dotP; omega)
      have hst : spr n (l.take (i + 1)) = spr n (l.take i) + absI (dotP n (gp l i)) := by rw [List.take_succ_eq_append_getElem hi, spr_app, hg]; simp [spr]
      have hdd : n.1 * g1 l i + n.2 * g2 l i = dotP n (gp l i) := rfl
      have hd2 : (-(268435456 * 268435456) ≤ n.1 * g1 l i ∧ n.1 * g1 l i ≤ 268435456 * 268435456) ∧ (-(268435456 * 268435456) ≤ n.2 * g2 l i ∧ n.2 * g2 l i ≤ 268435456 * 268435456) := hd
      simp -implicitDefEqProofs (disch := omega) only [hii, hb0, q0, simprocAttr, amset, tyset, Function.comp_apply, one1, lenV, calleeOf, lateOk, belowV, aop, AV.ofValue, AV.ofCell, AV.cells, AV.flat, AV.one, arep, aBin, aAppend, aConv]
      repeat refine And.intro (by omega) ?_
      refine call_v (by kernel_rfl) (abs_c _ _ (by omega)) ?_
      rw [hdd]
      simp -implicitDefEqProofs (disch := omega) only [simprocAttr, amset, tyset, Function.comp_apply, one1, lenV, calleeOf, lateOk, belowV, aop, AV.ofValue, AV.ofCell, AV.cells, AV.flat, AV.one, arep, aBin, aAppend, aConv]
      repeat refine And.intro (by omega) ?_
      refine hJ _ _ ⟨k - 1, by omega, _, _, _, ⟨i + 1, by omega, rfl, rfl⟩, Abs.by hbel [0] (by decide) ?_⟩
      rw [hst]
      simp -implicitDefEqProofs (disch := omega) only [absF, absH, W_refl', W_any', W_agg, W_tup, Ws_cons, Ws_refl', Wc_refl', Wcs_cons, Wcs_nil, look, List.cons_append, List.nil_append, List.append_nil, List.length_cons, List.length_nil, Nat.zero_add, Nat.reduceAdd, AV.mv, AV.mvs, ABlk.mv, sig_new0, sig_newk, sig_lt, List.getElem?_cons_zero, List.getElem?_cons_succ, mvs_ints, mvs_bools, mvs_prs, mvs_append, cond_true, cond_false, beq_self_eq_true, Nat.reduceBEq, true_and, and_true, or_true, true_or, and_self, decide_true, Nat.add_zero, reduceCtorEq, false_or, or_false]
      repeat' (first | exact True.intro | exact Nat.add_lt_add_left (by decide) _ | exact Nat.lt_add_of_pos_right (by decide) | refine W_nils ?_ (Or.inr rfl) | refine W_nils ?_ (Or.inl rfl) | refine Wc_nils ?_ (Or.inr rfl) | refine Wc_nils ?_ (Or.inl rfl) | exact W_cap | rfl | refine And.intro ?_ ?_ | exact Or.inl rfl | exact Or.inr rfl | exact Or.inr (Or.inl rfl) | exact Or.inr (Or.inr BW.emp) | exact Or.inr BW.emp | exact BW.emp | exact Or.inr (Or.inr BW.pre) | exact Or.inr BW.pre | exact BW.pre | refine Or.inr (BW.cells ?_) | refine BW.cells ?_ | refine Or.inr (Or.inr (BW.cells ?_)) | exact Wc_cap)
    · have hnn : ¬ ((i : Int) < (m : Int)) := by omega
      simp -implicitDefEqProofs (disch := omega) only [hnn, simprocAttr, amset, tyset, Function.comp_apply, one1, lenV, calleeOf, lateOk, belowV, aop, AV.ofValue, AV.ofCell, AV.cells, AV.flat, AV.one, arep, aBin, aAppend, aConv]
      exact hQ _ _ (end_plain (.inl rfl) hbel (x := .int .i64 (spr n (l.take i))) (ret_of Tryz.results126 (by simp -implicitDefEqProofs (disch := omega) only [simprocAttr, amset, tyset, Function.comp_apply, one1, lenV, calleeOf, lateOk, belowV, aop, AV.ofValue, AV.ofCell, AV.cells, AV.flat, AV.one, arep, aBin, aAppend, aConv])) rfl ⟨by rw [List.take_of_length_le (by omega)], rfl⟩)
set_option maxRecDepth 100000 in
theorem clone_c (H : AHeap) (s : AV) (l : List Pt) (hs : IsP H s l) (hl : l.length ≤ 1000000) (h0 : 0 < l.length) : ACalls Tryz.prog 124 [s] H (fun v H' => v = .sl (some (H.length, 0)) l.length none ∧ H' = H ++ [.cells true 2 (prs l)]) := by
  obtain ⟨b, own, cap, rfl, hb⟩ := hs.pos h0
  have hbl := getElem?_lt hb
  have hb0 := fun l => get_app (l := l) hb
  generalize hm : l.length = m at *
  (refine ACalls_run try_mixed Tryz.func124 true _ rfl (Nat.le_of_ble_eq_true (by kernel_rfl)) (by kernel_rfl) ?_; intro hbel Q hQ hQ' c hc; unfold Tryz.f124 at hc; simp only [Option.some.injEq] at hc; subst hc; clear hQ')
  have htk : List.take (m * 2) (prs l) = prs l := List.take_of_length_le (by rw [prs_len]; omega)
  have hm0 : (m == 0) = false := beq_eq_false_iff_ne.2 (by omega)
  have hm1 : (m != 0) = true := bne_iff_ne.2 (by omega)
  simp -implicitDefEqProofs (disch := omega) only [hb, hb0, Option.isNone_some, hm0, h0, htk, nilKnown, hm1, simprocAttr, amset, tyset, Function.comp_apply, one1, lenV, calleeOf, lateOk, belowV, aop, AV.ofValue, AV.ofCell, AV.cells, AV.flat, AV.one, arep, aBin, aAppend, aConv]
  repeat refine And.intro (by omega) ?_
  refine hQ _ _ (end_by (.inl rfl) hbel (x1 := .sl (some (H.length + 1, 0)) m none) (.sl (some (H.length, 0)) m none) (ret_of Tryz.results124 (by simp -implicitDefEqProofs (disch := omega) only [simprocAttr, amset, tyset, Function.comp_apply, one1, lenV, calleeOf, lateOk, belowV, aop, AV.ofValue, AV.ofCell, AV.cells, AV.flat, AV.one, arep, aBin, aAppend, aConv])) [1] (by decide) ⟨rfl, rfl⟩ ?_)
  simp -implicitDefEqProofs (disch := omega) only [absF, absH, W_refl', W_any', W_agg, W_tup, Ws_cons, Ws_refl', Wc_refl', Wcs_cons, Wcs_nil, look, List.cons_append, List.nil_append, List.append_nil, List.length_cons, List.length_nil, Nat.zero_add, Nat.reduceAdd, AV.mv, AV.mvs, ABlk.mv, sig_new0, sig_newk, sig_lt, List.getElem?_cons_zero, List.getElem?_cons_succ, mvs_ints, mvs_bools, mvs_prs, mvs_append, cond_true, cond_false, beq_self_eq_true, Nat.reduceBEq, true_and, and_true, or_true, true_or, and_self, decide_true, Nat.add_zero, reduceCtorEq, false_or, or_false]
  repeat' (first | exact True.intro | exact Nat.add_lt_add_left (by decide) _ | exact Nat.lt_add_of_pos_right (by decide) | refine W_nils ?_ (Or.inr rfl) | refine W_nils ?_ (Or.inl rfl) | refine Wc_nils ?_ (Or.inr rfl) | refine Wc_nils ?_ (Or.inl rfl) | exact W_cap | rfl | refine And.intro ?_ ?_ | exact Or.inl rfl | exact Or.inr rfl | exact Or.inr (Or.inl rfl) | exact Or.inr (Or.inr BW.emp) | exact Or.inr BW.emp | exact BW.emp | exact Or.inr (Or.inr BW.pre) | exact Or.inr BW.pre | exact BW.pre | refine Or.inr (BW.cells ?_) | refine BW.cells ?_ | refine Or.inr (Or.inr (BW.cells ?_)) | exact Wc_cap)
theorem clonenil_c (H : AHeap) : ACalls Tryz.prog 124 [.sl none 0 (some 0)] H (fun v H' => v = .sl none 0 (some 0) ∧ H' = H) := by
  (refine ACalls_run try_mixed Tryz.func124 true _ rfl (Nat.le_of_ble_eq_true (by kernel_rfl)) (by kernel_rfl) ?_; intro hbel Q hQ hQ' c hc; unfold Tryz.f124 at hc; simp only [Option.some.injEq] at hc; subst hc; clear hQ')
  simp -implicitDefEqProofs (disch := omega) only [Option.isNone_none, nilKnown, simprocAttr, amset, tyset, Function.comp_apply, one1, lenV, calleeOf, lateOk, belowV, aop, AV.ofValue, AV.ofCell, AV.cells, AV.flat, AV.one, arep, aBin, aAppend, aConv]
  exact hQ _ _ (end_plain0 (.inl rfl) hbel (x := .sl none 0 (some 0)) (ret_of Tryz.results124 (by simp -implicitDefEqProofs (disch := omega) only [simprocAttr, amset, tyset, Function.comp_apply, one1, lenV, calleeOf, lateOk, belowV, aop, AV.ofValue, AV.ofCell, AV.cells, AV.flat, AV.one, arep, aBin, aAppend, aConv])) rfl ⟨rfl, rfl⟩)
theorem clone0_c (H : AHeap) (b : Nat) (hb : H[b]? = some (.cells false 2 [])) : ACalls Tryz.prog 124 [.sl (some (b, 1)) 0 (some 0)] H (fun v H' => v = .sl (some (H.length, 0)) 0 (some 0) ∧ H' = H ++ [.cells true 2 []]) := by
  have hb0 := fun l => get_app (l := l) hb
  have hbl := getElem?_lt hb
  (refine ACalls_run try_mixed Tryz.func124 true _ rfl (Nat.le_of_ble_eq_true (by kernel_rfl)) (by kernel_rfl) ?_; intro hbel Q hQ hQ' c hc; unfold Tryz.f124 at hc; simp only [Option.some.injEq] at hc; subst hc; clear hQ')
  have hk : nilKnown (some (b, 1)) 0 (some 0) = true := rfl
  simp -implicitDefEqProofs (disch := omega) only [hb, hb0, Option.isNone_some, hk, simprocAttr, amset, tyset, Function.comp_apply, one1, lenV, calleeOf, lateOk, belowV, aop, AV.ofValue, AV.ofCell, AV.cells, AV.flat, AV.one, arep, aBin, aAppend, aConv]
  refine hQ _ _ (end_by (.inl rfl) hbel (x1 := .sl (some (H.length, 0)) 0 (some 0)) (.sl (some (H.length, 0)) 0 (some 0)) (ret_of Tryz.results124 (by simp -implicitDefEqProofs (disch := omega) only [simprocAttr, amset, tyset, Function.comp_apply, one1, lenV, calleeOf, lateOk, belowV, aop, AV.ofValue, AV.ofCell, AV.cells, AV.flat, AV.one, arep, aBin, aAppend, aConv])) [0] (by decide) ⟨rfl, rfl⟩ ?_)
  simp -implicitDefEqProofs (disch := omega) only [absF, absH, W_refl', W_any', W_agg, W_tup, Ws_cons, Ws_refl', Wc_refl', Wcs_cons, Wcs_nil, look, List.cons_append, List.nil_append, List.append_nil, List.length_cons, List.length_nil, Nat.zero_add, Nat.reduceAdd, AV.mv, AV.mvs, ABlk.mv, sig_new0, sig_newk, sig_lt, List.getElem?_cons_zero, List.getElem?_cons_succ, mvs_ints, mvs_bools, mvs_prs, mvs_append, cond_true, cond_false, beq_self_eq_true, Nat.reduceBEq, true_and, and_true, or_true, true_or, and_self, decide_true, Nat.add_zero, reduceCtorEq, false_or, or_false]
  repeat' (first | exact True.intro | exact Nat.add_lt_add_left (by decide) _ | exact Nat.lt_add_of_pos_right (by decide) | refine W_nils ?_ (Or.inr rfl) | refine W_nils ?_ (Or.inl rfl) | refine Wc_nils ?_ (Or.inr rfl) | refine Wc_nils ?_ (Or.inl rfl) | exact W_cap | rfl | refine And.intro ?_ ?_ | exact Or.inl rfl | exact Or.inr rfl | exact Or.inr (Or.inl rfl) | exact Or.inr (Or.inr BW.emp) | exact Or.inr BW.emp | exact BW.emp | exact Or.inr (Or.inr BW.pre) | exact Or.inr BW.pre | exact BW.pre | refine Or.inr (BW.cells ?_) | refine BW.cells ?_ | refine Or.inr (Or.inr (BW.cells ?_)) | exact Wc_cap)
theorem cloneempty_c (H : AHeap) (b : Nat) (cap : Option Nat) (own : Bool) (hb : H[b]? = some (.cells own 2 [])) : ACalls Tryz.prog 124 [.sl (some (b, 0)) 0 cap] H (fun v H' => v = .sl (some (H.length, 0)) 0 (some 0) ∧ H' = H ++ [.cells false 2 []]) := by
  have hb0 := fun l => get_app (l := l) hb
  have hbl := getElem?_lt hb
  refine ACalls.nilsplit (es := 2) (x := .sl (some (H.length + 1, 0)) 0 (some 0)) (l1 := [.cells false 2 [], .cells true 2 []]) ?_ (fun c hc => ?_) ?_ [] rfl [1] (by decide) ?_
  · refine (clonenil_c H).weak0 [.cells false 2 []] rfl [0] (by decide) _ _ ?_
    simp -implicitDefEqProofs (disch := omega) only [absF, absH, W_refl', W_any', W_agg, W_tup, Ws_cons, Ws_refl', Wc_refl', Wcs_cons, Wcs_nil, look, List.cons_append, List.nil_append, List.append_nil, List.length_cons, List.length_nil, Nat.zero_add, Nat.reduceAdd, AV.mv, AV.mvs, ABlk.mv, sig_new0, sig_newk, sig_lt, List.getElem?_cons_zero, List.getElem?_cons_succ, mvs_ints, mvs_bools, mvs_prs, mvs_append, cond_true, cond_false, beq_self_eq_true, Nat.reduceBEq, true_and, and_true, or_true, true_or, and_self, decide_true, Nat.add_zero, reduceCtorEq, false_or, or_false]
    repeat' (first | exact True.intro | exact Nat.add_lt_add_left (by decide) _ | exact Nat.lt_add_of_pos_right (by decide) | refine W_nils ?_ (Or.inr rfl) | refine W_nils ?_ (Or.inl rfl) | refine Wc_nils ?_ (Or.inr rfl) | refine Wc_nils ?_ (Or.inl rfl) | exact W_cap | rfl | refine And.intro ?_ ?_ | exact Or.inl rfl | exact Or.inr rfl | exact Or.inr (Or.inl rfl) | exact Or.inr (Or.inr BW.emp) | exact Or.inr BW.emp | exact BW.emp | exact Or.inr (Or.inr BW.pre) | exact Or.inr BW.pre | exact BW.pre | refine Or.inr (BW.cells ?_) | refine BW.cells ?_ | refine Or.inr (Or.inr (BW.cells ?_)) | exact Wc_cap)
  · have hc1 : (c != 0) = true := bne_iff_ne.2 (by omega)
    (refine ACalls_run try_mixed Tryz.func124 true _ rfl (Nat.le_of_ble_eq_true (by kernel_rfl)) (by kernel_rfl) ?_; intro hbel Q hQ hQ' c hc; unfold Tryz.f124 at hc; simp only [Option.some.injEq] at hc; subst hc; clear hQ')
    simp -implicitDefEqProofs (disch := omega) only [hb, hb0, Option.isNone_some, nilKnown, hc1, Nat.reduceBNe, simprocAttr, amset, tyset, Function.comp_apply, one1, lenV, calleeOf, lateOk, belowV, aop, AV.ofValue, AV.ofCell, AV.cells, AV.flat, AV.one, arep, aBin, aAppend, aConv]
    refine hQ _ _ (end_byG (.inl rfl) hbel (x1 := .sl (some (H.length, 0)) 0 (some 0)) (l2 := [.cells false 2 []]) (.sl (some (H.length, 0)) 0 (some 0)) (ret_of Tryz.results124 (by simp -implicitDefEqProofs (disch := omega) only [simprocAttr, amset, tyset, Function.comp_apply, one1, lenV, calleeOf, lateOk, belowV, aop, AV.ofValue, AV.ofCell, AV.cells, AV.flat, AV.one, arep, aBin, aAppend, aConv])) [] rfl [0] (by decide) ⟨rfl, rfl⟩ ?_)
    simp -implicitDefEqProofs (disch := omega) only [absF, absH, W_refl', W_any', W_agg, W_tup, Ws_cons, Ws_refl', Wc_refl', Wcs_cons, Wcs_nil, look, List.cons_append, List.nil_append, List.append_nil, List.length_cons, List.length_nil, Nat.zero_add, Nat.reduceAdd, AV.mv, AV.mvs, ABlk.mv, sig_new0, sig_newk, sig_lt, List.getElem?_cons_zero, List.getElem?_cons_succ, mvs_ints, mvs_bools, mvs_prs, mvs_append, cond_true, cond_false, beq_self_eq_true, Nat.reduceBEq, true_and, and_true, or_true, true_or, and_self, decide_true, Nat.add_zero, reduceCtorEq, false_or, or_false]
    repeat' (first | exact True.intro | exact Nat.add_lt_add_left (by decide) _ | exact Nat.lt_add_of_pos_right (by decide) | refine W_nils ?_ (Or.inr rfl) | refine W_nils ?_ (Or.inl rfl) | refine Wc_nils ?_ (Or.inr rfl) | refine Wc_nils ?_ (Or.inl rfl) | exact W_cap | rfl | refine And.intro ?_ ?_ | exact Or.inl rfl | exact Or.inr rfl | exact Or.inr (Or.inl rfl) | exact Or.inr (Or.inr BW.emp) | exact Or.inr BW.emp | exact BW.emp | exact Or.inr (Or.inr BW.pre) | exact Or.inr BW.pre | exact BW.pre | refine Or.inr (BW.cells ?_) | refine BW.cells ?_ | refine Or.inr (Or.inr (BW.cells ?_)) | exact Wc_cap)
  · have hh := clone0_c (H ++ [.cells false 2 []]) H.length (by rw [get_new0]; rfl)
    refine hh.mono fun y H1 ⟨h1, h2⟩ => ⟨by rw [h1]; simp, by rw [h2]; simp⟩
  · simp -implicitDefEqProofs (disch := omega) only [absF, absH, W_refl', W_any', W_agg, W_tup, Ws_cons, Ws_refl', Wc_refl', Wcs_cons, Wcs_nil, look, List.cons_append, List.nil_append, List.append_nil, List.length_cons, List.length_nil, Nat.zero_add, Nat.reduceAdd, AV.mv, AV.mvs, ABlk.mv, sig_new0, sig_newk, sig_lt, List.getElem?_cons_zero, List.getElem?_cons_succ, mvs_ints, mvs_bools, mvs_prs, mvs_append, cond_true, cond_false, beq_self_eq_true, Nat.reduceBEq, true_and, and_true, or_true, true_or, and_self, decide_true, Nat.add_zero, reduceCtorEq, false_or, or_false]
    repeat' (first | exact True.intro | exact Nat.add_lt_add_left (by decide) _ | exact Nat.lt_add_of_pos_right (by decide) | refine W_nils ?_ (Or.inr rfl) | refine W_nils ?_ (Or.inl rfl) | refine Wc_nils ?_ (Or.inr rfl) | refine Wc_nils ?_ (Or.inl rfl) | exact W_cap | rfl | refine And.intro ?_ ?_ | exact Or.inl rfl | exact Or.inr rfl | exact Or.inr (Or.inl rfl) | exact Or.inr (Or.inr BW.emp) | exact Or.inr BW.emp | exact BW.emp | exact Or.inr (Or.inr BW.pre) | exact Or.inr BW.pre | exact BW.pre | refine Or.inr (BW.cells ?_) | refine BW.cells ?_ | refine Or.inr (Or.inr (BW.cells ?_)) | exact Wc_cap)
end Go.Proofs.YtoimakfecmhjkaaGreat

/- Walks by the abstract machine: bounds, Bounds, Support, Area. Conditions: as each theorem states. -/
namespace Go.Proofs.YtoimakfecmhjkaaGreat
set_option linter.unusedSimpArgs false
set_option linter.unusedVariables false
open Go.RowKit
theorem valid_bd3 {x y : Int} {l : List Pt} (h : validB x y l = true) : (-8388608 ≤ x ∧ x ≤ 8388608) ∧ -8388608 ≤ y ∧ y ≤ 8388608 := by
  unfold validB at h
  simp only [Bool.and_eq_true, within_iff] at h
  exact ⟨h.1.1.1, h.1.1.2⟩
theorem canonical_u (H : AHeap) (x y : Int) (s : AV) (l : List Pt) (hs : IsP H s l) (hl : l.length ≤ 40) (hB : ∀ e ∈ l, Bd 4194304 e) :
    ACalls Tryz.prog 107 [.agg [.int .i64 x, .int .i64 y, s]] H (fun v H' => v = .agg [.int .i64 x, .int .i64 y, .sl (some (H.length, 0)) (canonL l).length (capG (canonL l).length)] ∧ H' = H ++ [.cells (ownG (canonL l).length) 2 (prs (canonL l))]) := by
  have h := canonical_a H x y s l hs hl hB
  rcases Nat.eq_zero_or_pos (canonL l).length with h0 | h0
  · rw [List.eq_nil_of_length_eq_zero h0] at h ⊢
    simp only [zR_nil] at h
    refine ACalls.weak0 h [.cells false 2 []] rfl [0] (by decide) _ _ ?_
    simp -implicitDefEqProofs (disch := omega) only [List.length_nil, capG_0, ownG_0, prs_nil, absF, absH, W_refl', W_any', W_agg, W_tup, Ws_cons, Ws_refl', Wc_refl', Wcs_cons, Wcs_nil, look, List.cons_append, List.nil_append, List.append_nil, List.length_cons, List.length_nil, Nat.zero_add, Nat.reduceAdd, AV.mv, AV.mvs, ABlk.mv, sig_new0, sig_newk, sig_lt, List.getElem?_cons_zero, List.getElem?_cons_succ, mvs_ints, mvs_bools, mvs_prs, mvs_append, cond_true, cond_false, beq_self_eq_true, Nat.reduceBEq, true_and, and_true, or_true, true_or, and_self, decide_true, Nat.add_zero, reduceCtorEq, false_or, or_false]
    repeat' (first | exact True.intro | exact Nat.add_lt_add_left (by decide) _ | exact Nat.lt_add_of_pos_right (by decide) | refine W_nils ?_ (Or.inr rfl) | refine W_nils ?_ (Or.inl rfl) | refine Wc_nils ?_ (Or.inr rfl) | refine Wc_nils ?_ (Or.inl rfl) | exact W_cap | rfl | refine And.intro ?_ ?_ | exact Or.inl rfl | exact Or.inr rfl | exact Or.inr (Or.inl rfl) | exact Or.inr (Or.inr BW.emp) | exact Or.inr BW.emp | exact BW.emp | exact Or.inr (Or.inr BW.pre) | exact Or.inr BW.pre | exact BW.pre | refine Or.inr (BW.cells ?_) | refine BW.cells ?_ | refine Or.inr (Or.inr (BW.cells ?_)) | exact Wc_cap)
  · rw [zR_pos h0] at h
    refine ACalls.weak h [] rfl [0] (by decide) _ _ ?_
    rw [capG_p h0, ownG_p h0]
    generalize canonL l = L
    simp -implicitDefEqProofs (disch := omega) only [absF, absH, W_refl', W_any', W_agg, W_tup, Ws_cons, Ws_refl', Wc_refl', Wcs_cons, Wcs_nil, look, List.cons_append, List.nil_append, List.append_nil, List.length_cons, List.length_nil, Nat.zero_add, Nat.reduceAdd, AV.mv, AV.mvs, ABlk.mv, sig_new0, sig_newk, sig_lt, List.getElem?_cons_zero, List.getElem?_cons_succ, mvs_ints, mvs_bools, mvs_prs, mvs_append, cond_true, cond_false, beq_self_eq_true, Nat.reduceBEq, true_and, and_true, or_true, true_or, and_self, decide_true, Nat.add_zero, reduceCtorEq, false_or, or_false]
    repeat' (first | exact True.intro | exact Nat.add_lt_add_left (by decide) _ | exact Nat.lt_add_of_pos_right (by decide) | refine W_nils ?_ (Or.inr rfl) | refine W_nils ?_ (Or.inl rfl) | refine Wc_nils ?_ (Or.inr rfl) | refine Wc_nils ?_ (Or.inl rfl) | exact W_cap | rfl | refine And.intro ?_ ?_ | exact Or.inl rfl | exact Or.inr rfl | exact Or.inr (Or.inl rfl) | exact Or.inr (Or.inr BW.emp) | exact Or.inr BW.emp | exact BW.emp | exact Or.inr (Or.inr BW.pre) | exact Or.inr BW.pre | exact BW.pre | refine Or.inr (BW.cells ?_) | refine BW.cells ?_ | refine Or.inr (Or.inr (BW.cells ?_)) | exact Wc_cap)
theorem rcanon_u (H : AHeap) (x y : Int) (s : AV) (l : List Pt) (hs : IsP H s l) (hl : l.length ≤ 40) (hB : ∀ e ∈ l, Bd 4194304 e) :
    ACalls Tryz.prog 117 [.agg [.int .i64 x, .int .i64 y, s]] H (fun v H' => v = .agg [.int .i64 x, .int .i64 y, .sl (some (H.length, 0)) (canonL l).length (capG (canonL l).length)] ∧ H' = H ++ [.cells (ownG (canonL l).length) 2 (prs (canonL l))]) := by
  have h := rcanon_a H x y s l hs hl hB
  rcases Nat.eq_zero_or_pos (canonL l).length with h0 | h0
  · rw [List.eq_nil_of_length_eq_zero h0] at h ⊢
    simp only [zR_nil] at h
    refine ACalls.weak0 h [.cells false 2 []] rfl [0] (by decide) _ _ ?_
    simp -implicitDefEqProofs (disch := omega) only [List.length_nil, capG_0, ownG_0, prs_nil, absF, absH, W_refl', W_any', W_agg, W_tup, Ws_cons, Ws_refl', Wc_refl', Wcs_cons, Wcs_nil, look, List.cons_append, List.nil_append, List.append_nil, List.length_cons, List.length_nil, Nat.zero_add, Nat.reduceAdd, AV.mv, AV.mvs, ABlk.mv, sig_new0, sig_newk, sig_lt, List.getElem?_cons_zero, List.getElem?_cons_succ, mvs_ints, mvs_bools, mvs_prs, mvs_append, cond_true, cond_false, beq_self_eq_true, Nat.reduceBEq, true_and, and_true, or_true, true_or, and_self, decide_true, Nat.add_zero, reduceCtorEq, false_or, or_false]
    repeat' (first | exact True.intro | exact Nat.add_lt_add_left (by decide) _ | exact Nat.lt_add_of_pos_right (by decide) | refine W_nils ?_ (Or.inr rfl) | refine W_nils ?_ (Or.inl rfl) | refine Wc_nils ?_ (Or.inr rfl) | refine Wc_nils ?_ (Or.inl rfl) | exact W_cap | rfl | refine And.intro ?_ ?_ | exact Or.inl rfl | exact Or.inr rfl | exact Or.inr (Or.inl rfl) | exact Or.inr (Or.inr BW.emp) | exact Or.inr BW.emp | exact BW.emp | exact Or.inr (Or.inr BW.pre) | exact Or.inr BW.pre | exact BW.pre | refine Or.inr (BW.cells ?_) | refine BW.cells ?_ | refine Or.inr (Or.inr (BW.cells ?_)) | exact Wc_cap)
  · rw [zR_pos h0] at h
    refine ACalls.weak h [] rfl [0] (by decide) _ _ ?_
    rw [capG_p h0, ownG_p h0]
    generalize canonL l = L
    simp -implicitDefEqProofs (disch := omega) only [absF, absH, W_refl', W_any', W_agg, W_tup, Ws_cons, Ws_refl', Wc_refl', Wcs_cons, Wcs_nil, look, List.cons_append, List.nil_append, List.append_nil, List.length_cons, List.length_nil, Nat.zero_add, Nat.reduceAdd, AV.mv, AV.mvs, ABlk.mv, sig_new0, sig_newk, sig_lt, List.getElem?_cons_zero, List.getElem?_cons_succ, mvs_ints, mvs_bools, mvs_prs, mvs_append, cond_true, cond_false, beq_self_eq_true, Nat.reduceBEq, true_and, and_true, or_true, true_or, and_self, decide_true, Nat.add_zero, reduceCtorEq, false_or, or_false]
    repeat' (first | exact True.intro | exact Nat.add_lt_add_left (by decide) _ | exact Nat.lt_add_of_pos_right (by decide) | refine W_nils ?_ (Or.inr rfl) | refine W_nils ?_ (Or.inl rfl) | refine Wc_nils ?_ (Or.inr rfl) | refine Wc_nils ?_ (Or.inl rfl) | exact W_cap | rfl | refine And.intro ?_ ?_ | exact Or.inl rfl | exact Or.inr rfl | exact Or.inr (Or.inl rfl) | exact Or.inr (Or.inr BW.emp) | exact Or.inr BW.emp | exact BW.emp | exact Or.inr (Or.inr BW.pre) | exact Or.inr BW.pre | exact BW.pre | refine Or.inr (BW.cells ?_) | refine BW.cells ?_ | refine Or.inr (Or.inr (BW.cells ?_)) | exact Wc_cap)
theorem gpb {M : Int} {l : List Pt} (h : ∀ e ∈ l, Bd M e) {i : Nat} (hi : i < l.length) : -M ≤ g1 l i ∧ g1 l i ≤ M ∧ -M ≤ g2 l i ∧ g2 l i ≤ M := by
  have := h l[i] (List.getElem_mem hi)
  rw [← gp_eq hi] at this
  exact this
end Go.Proofs.YtoimakfecmhjkaaGreat

/- The directions in which a zonogon and a point are tried. Conditions: as each theorem states. -/
namespace Go.Proofs.YtoimakfecmhjkaaGreat
set_option linter.unusedSimpArgs false
set_option linter.unusedVariables false
open Go.RowKit
/-- The directions that are tried. -/
def nrmls (L : List Pt) : List Pt := [(1, 0), (0, 1)] ++ L.flatMap fun g => [(0 - g.2, g.1), g]
/-- A direction in which d is beyond the sum. -/
def beyond (L : List Pt) (d n : Pt) : Bool := decide (spr n L < absI (dotP n d))
def apartB (x y : Int) (l : List Pt) (x0 y0 x1 y1 : Int) : Bool :=
  validB x y l && (far4 x0 y0 x1 y1 && decide (x0 ≤ x1 ∧ y0 ≤ y1) && (nrmls (canonL (l ++ [(x1 - x0, 0), (0, y1 - y0)]))).any (beyond (canonL (l ++ [(x1 - x0, 0), (0, y1 - y0)])) (x0 + x1 - x, y0 + y1 - y)))
theorem nrmls_step {L : List Pt} {i : Nat} (h : i < L.length) : nrmls (L.take (i + 1)) = nrmls (L.take i) ++ [(0 - g2 L i, g1 L i), (g1 L i, g2 L i)] := by
  unfold nrmls
  rw [List.take_succ_eq_append_getElem h, List.flatMap_append, ← gp_eq h, List.append_assoc]
  simp [gp]
theorem nrmls_len (L : List Pt) : (nrmls L).length = 2 + 2 * L.length := by
  unfold nrmls
  rw [List.length_append]
  have : ∀ l : List Pt, (l.flatMap fun g => [(0 - g.2, g.1), g]).length = 2 * l.length := fun l => by
    induction l with
    | nil => rfl
    | cons g l ih => rw [List.flatMap_cons, List.length_append, ih]; simp; omega
  rw [this]; rfl
theorem nrmls_bd {M : Int} (hM : 1 ≤ M) {L : List Pt} (h : ∀ e ∈ L, Bd M e) : ∀ e ∈ nrmls L, Bd M e := fun e he => by
  unfold nrmls at he
  simp only [List.mem_append, List.mem_cons, List.not_mem_nil, or_false, List.mem_flatMap] at he
  rcases he with (rfl | rfl) | ⟨g, hg, rfl | rfl⟩
  · unfold Bd; simp only; omega
  · unfold Bd; simp only; omega
  · have := h g hg; unfold Bd at *; simp only; omega
  · exact h _ hg
theorem any_gp {p : Pt → Bool} {N : List Pt} {j : Nat} (hj : j < N.length) (h : p (gp N j) = true) : N.any p = true := List.any_eq_true.2 ⟨N[j], List.getElem_mem hj, by rw [← gp_eq hj]; exact h⟩
theorem nrmls_nil : nrmls [] = [(1, 0), (0, 1)] := rfl
end Go.Proofs.YtoimakfecmhjkaaGreat

/- Walks by the abstract machine: Has. Conditions: as each theorem states. -/
namespace Go.Proofs.YtoimakfecmhjkaaGreat
set_option linter.unusedSimpArgs false
set_option linter.unusedVariables false
open Go.RowKit
end Go.Proofs.YtoimakfecmhjkaaGreat

/- What the code of corners and of its users computes, as functions. Conditions: none. -/
namespace Go.Proofs.YtoimakfecmhjkaaGreat
set_option linter.unusedSimpArgs false
set_option linter.unusedVariables false
open Go.RowKit
end Go.Proofs.YtoimakfecmhjkaaGreat

/- Plain facts on how far sums of segments reach: the canonical form reaches as far. Conditions: as each theorem states. -/
namespace Go.Proofs.YtoimakfecmhjkaaGreat
set_option linter.unusedSimpArgs false
set_option linter.unusedVariables false
open Go.RowKit
theorem absI_neg (x : Int) : absI (-x) = absI x := by unfold absI; split <;> split <;> omega
theorem absI_le {x M : Int} : absI x ≤ M ↔ -M ≤ x ∧ x ≤ M := by unfold absI; split <;> omega
theorem absI_nn (x : Int) : 0 ≤ absI x := by unfold absI; split <;> omega
theorem absI_of_nn {x : Int} (h : 0 ≤ x) : absI x = x := by unfold absI; split <;> omega
theorem absI_of_np {x : Int} (h : x ≤ 0) : absI x = -x := by unfold absI; split <;> omega
theorem absI_zero : absI 0 = 0 := rfl
theorem dotP_add (n g h : Pt) : dotP n (padd g h) = dotP n g + dotP n h := by unfold dotP padd; simp only [Int.mul_add]; omega
theorem dotP_neg (n g : Pt) : dotP n (-g.1, -g.2) = -dotP n g := by unfold dotP; simp only [Int.mul_neg]; omega
theorem dotP_negl (n g : Pt) : dotP (-n.1, -n.2) g = -dotP n g := by unfold dotP; simp only [Int.neg_mul]; omega
theorem dotP_zero (n : Pt) : dotP n (0, 0) = 0 := by unfold dotP; simp
theorem par_pos {g h : Pt} (hg : up g) (hh : up h) (h0 : crs g h = 0) : ∃ a b : Int, 0 < a ∧ 0 < b ∧ a * h.1 = b * g.1 ∧ a * h.2 = b * g.2 := by
  unfold crs at h0
  have e1 : g.1 * h.2 = g.2 * h.1 := by omega
  rcases Int.lt_or_eq_of_le (up_y hg) with g2 | g2
  · have h2 : 0 < h.2 := by
      rcases Int.lt_or_eq_of_le (up_y hh) with h2 | h2
      · exact h2
      · exfalso
        rw [← h2, Int.mul_zero] at e1
        have : h.1 = 0 := by
          rcases Int.mul_eq_zero.1 e1.symm with h | h
          · omega
          · exact h
        unfold up at hh; omega
    exact ⟨g.2, h.2, g2, h2, by rw [← e1, Int.mul_comm], Int.mul_comm _ _⟩
  · have g1p : 0 < g.1 := by unfold up at hg; omega
    rw [← g2, Int.zero_mul] at e1
    have h2 : h.2 = 0 := by
      rcases Int.mul_eq_zero.1 e1 with h | h
      · omega
      · exact h
    have h1p : 0 < h.1 := by unfold up at hh; omega
    exact ⟨g.1, h.1, g1p, h1p, Int.mul_comm _ _, by rw [h2, ← g2]; simp⟩
theorem abs_par {g h : Pt} (hg : up g) (hh : up h) (h0 : crs g h = 0) (n : Pt) : absI (dotP n (padd g h)) = absI (dotP n g) + absI (dotP n h) := by
  obtain ⟨a, b, ha, hb, e1, e2⟩ := par_pos hg hh h0
  have e : a * dotP n h = b * dotP n g := by
    unfold dotP
    have q1 : a * (n.1 * h.1 + n.2 * h.2) = n.1 * (a * h.1) + n.2 * (a * h.2) := by grind
    have q2 : b * (n.1 * g.1 + n.2 * g.2) = n.1 * (b * g.1) + n.2 * (b * g.2) := by grind
    rw [q1, q2, e1, e2]
  rw [dotP_add]
  rcases Int.le_total 0 (dotP n g) with k | k
  · have h1 : 0 ≤ dotP n h := nonneg_of (a := a) (by rw [e]; exact Int.mul_nonneg (by omega) k) ha
    rw [absI_of_nn k, absI_of_nn h1, absI_of_nn (by omega)]
  · have h1 : 0 ≤ -dotP n h := nonneg_of (a := a) (by rw [Int.mul_neg, e, ← Int.mul_neg]; exact Int.mul_nonneg (by omega) (by omega)) ha
    rw [absI_of_np k, absI_of_np (by omega : dotP n h ≤ 0), absI_of_np (by omega)]; omega
theorem spr_cons (n g : Pt) (l : List Pt) : spr n (g :: l) = absI (dotP n g) + spr n l := rfl
theorem spr_nn (n : Pt) : ∀ l : List Pt, 0 ≤ spr n l
  | [] => by simp [spr]
  | g :: l => by have := spr_nn n l; have := absI_nn (dotP n g); rw [spr_cons]; omega
theorem spr_putC {C : List Pt} {g : Pt} (hg : up g) (hs : C.Pairwise fun a b => 0 < crs a b) (hu : ∀ e ∈ C, up e) (n : Pt) : spr n (putC C g) = spr n C + absI (dotP n g) := by
  rcases split_at hg C hs hu with ⟨A, B, rfl, h1, h2⟩ | ⟨A, e, B, rfl, h1, h0, h2⟩
  · rw [putC_none h1 h2, spr_app, spr_app, spr_cons]; omega
  · rw [putC_some h1 h0 h2, spr_app, spr_app, spr_cons, spr_cons, abs_par (hu e (by simp)) hg (by rw [crs_anti]; omega)]; omega
theorem abs_nrm (n g : Pt) : absI (dotP n (nrm g)) = absI (dotP n g) := by
  unfold nrm; split
  · rw [dotP_neg, absI_neg]
  · rfl
/-- The canonical form reaches as far as the generators. -/
theorem spr_canon (n : Pt) (l : List Pt) : spr n (canonL l) = spr n l := by
  refine snoc_ind (P := fun l => spr n (canonL l) = spr n l) rfl (fun S g ih => ?_) l
  have hc := canonL_can S
  rw [canonL_snoc, spr_app, spr_cons, ← abs_nrm n g]
  show spr n (putL (canonL S) g) = spr n S + (absI (dotP n (nrm g)) + 0)
  unfold putL
  split
  · rename_i h; rw [h, dotP_zero, ih, absI_zero]; omega
  · rename_i h; rw [spr_putC (nrm_up h) hc.sorted hc.ups, ih]; omega
theorem spr_negl (n : Pt) : ∀ l : List Pt, spr (-n.1, -n.2) l = spr n l
  | [] => rfl
  | g :: l => by rw [spr_cons, spr_cons, spr_negl n l, dotP_negl, absI_neg]
/-- d is not beyond the sum of the segments in any direction. -/
def inZ (L : List Pt) (d : Pt) : Prop := ∀ n : Pt, dotP n d ≤ spr n L
theorem inZ.abs {L : List Pt} {d : Pt} (h : inZ L d) (n : Pt) : absI (dotP n d) ≤ spr n L := by
  rw [absI_le]
  have h1 := h n
  have h2 := h (-n.1, -n.2)
  rw [dotP_negl, spr_negl] at h2
  omega
end Go.Proofs.YtoimakfecmhjkaaGreat

/- Plain facts on the corners: both lists are one; what is among them is what is in the zonogon. Conditions: as each theorem states. -/
namespace Go.Proofs.YtoimakfecmhjkaaGreat
set_option linter.unusedSimpArgs false
set_option linter.unusedVariables false
open Go.RowKit
end Go.Proofs.YtoimakfecmhjkaaGreat

/- Walks by the abstract machine: corners of the reference. Conditions: as each theorem states. -/
namespace Go.Proofs.YtoimakfecmhjkaaGreat
set_option linter.unusedSimpArgs false
set_option linter.unusedVariables false
open Go.RowKit
end Go.Proofs.YtoimakfecmhjkaaGreat

/- Bounds on the corners of any zonogon. Conditions: as each theorem states. -/
namespace Go.Proofs.YtoimakfecmhjkaaGreat
set_option linter.unusedSimpArgs false
set_option linter.unusedVariables false
open Go.RowKit
end Go.Proofs.YtoimakfecmhjkaaGreat

/- Walks by the abstract machine: Has, Support of the reference. Conditions: as each theorem states. -/
namespace Go.Proofs.YtoimakfecmhjkaaGreat
set_option linter.unusedSimpArgs false
set_option linter.unusedVariables false
open Go.RowKit
end Go.Proofs.YtoimakfecmhjkaaGreat

/- Walks by the abstract machine: Same. Conditions: as each theorem states. -/
namespace Go.Proofs.YtoimakfecmhjkaaGreat
set_option linter.unusedSimpArgs false
set_option linter.unusedVariables false
open Go.RowKit
end Go.Proofs.YtoimakfecmhjkaaGreat

/- Walks by the abstract machine: Apart. Conditions: as each theorem states. -/
namespace Go.Proofs.YtoimakfecmhjkaaGreat
set_option linter.unusedSimpArgs false
set_option linter.unusedVariables false
open Go.RowKit
theorem clone_u (H : AHeap) (s : AV) (l : List Pt) (hs : SlP H s l) (hl : l.length ≤ 1000000) : ACalls Tryz.prog 124 [s] H (fun v H' => v = .sl (some (H.length, 0)) l.length (capG l.length) ∧ H' = H ++ [.cells (ownG l.length) 2 (prs l)]) := by
  rcases Nat.eq_zero_or_pos l.length with h0 | h0
  · obtain rfl : l = [] := List.eq_nil_of_length_eq_zero h0
    obtain ⟨b, own, cap, rfl, hb⟩ := hs
    exact cloneempty_c H b cap own hb
  · rw [capG_p h0, ownG_p h0]
    exact clone_c H s l (.inr hs) hl h0
set_option maxHeartbeats 4000000 in
set_option maxRecDepth 100000 in
theorem apart_c (H : AHeap) (x : Int) (y : Int) (s : AV) (l : List (Int × Int)) (x0 : Int) (y0 : Int) (x1 : Int) (y1 : Int) (hs : Sl H 2 s l.length (prs l)) : ACalls Tryz.prog 68 [.agg [.int .i64 x, .int .i64 y, s], .agg [.int .i64 x0, .int .i64 y0, .int .i64 x1, .int .i64 y1]] H (fun v H' => v = .bool (apartB x y l x0 y0 x1 y1) ∧ H' = H) := by
  obtain ⟨bs, os, cs, rfl, hbs⟩ := hs
  have hbls := getElem?_lt hbs
  have hb0s := fun l => get_app (l := l) hbs
  (refine ACalls_pieces Tryz.func68 _ rfl (Nat.le_of_ble_eq_true (by kernel_rfl)) rfl ?_; intro hbel Q hQ hQ' c hc; unfold Tryz.f68 at hc; simp only [Option.some.injEq] at hc; subst hc; clear hQ')
  refine AW_step false try_mixed (by kernel_rfl) (fun F Hx => look F 2 = .ptr (some (H.length, 0)) ∧ look F 3 = .ptr (some (H.length + 1, 0)) ∧ look F 4 = .bool false ∧ Hx = H ++ [.cells true 0 [.int .i64 x, .int .i64 y, .sl (some (bs, 0)) l.length cs], .cells true 0 [.int .i64 x0, .int .i64 y0, .int .i64 x1, .int .i64 y1]]) ?_ ?_
  · skip
    simp -implicitDefEqProofs (disch := omega) only [hbs, hb0s, aApp_nil, aApp_none, aApp_some, aApp_grw, simprocAttr, amset, tyset, Function.comp_apply, one1, lenV, calleeOf, lateOk, belowV, aop, AV.ofValue, AV.ofCell, AV.cells, AV.flat, AV.one, arep, aBin, aConv]
    repeat refine And.intro (by omega) ?_
    refine inv_of ?_
    simp -implicitDefEqProofs (disch := omega) only [absF, absH, W_refl', W_any', W_agg, W_tup, Ws_cons, Ws_refl', Wc_refl', Wcs_cons, Wcs_nil, look, List.cons_append, List.nil_append, List.append_nil, List.length_cons, List.length_nil, Nat.zero_add, Nat.reduceAdd, AV.mv, AV.mvs, ABlk.mv, sig_new0, sig_newk, sig_lt, List.getElem?_cons_zero, List.getElem?_cons_succ, mvs_ints, mvs_bools, mvs_prs, mvs_append, cond_true, cond_false, beq_self_eq_true, Nat.reduceBEq, true_and, and_true, or_true, true_or, and_self, decide_true, Nat.add_zero, reduceCtorEq, false_or, or_false]
    repeat' (first | exact True.intro | exact Nat.add_lt_add_left (by decide) _ | exact Nat.lt_add_of_pos_right (by decide) | refine W_nils ?_ (Or.inr rfl) | refine W_nils ?_ (Or.inl rfl) | refine Wc_nils ?_ (Or.inr rfl) | refine Wc_nils ?_ (Or.inl rfl) | exact W_cap | rfl | refine And.intro ?_ ?_ | exact Or.inl rfl | exact Or.inr rfl | exact Or.inr (Or.inl rfl) | exact Or.inr (Or.inr BW.emp) | exact Or.inr BW.emp | exact BW.emp | exact Or.inr (Or.inr BW.pre) | exact Or.inr BW.pre | exact BW.pre | refine Or.inr (BW.cells ?_) | refine BW.cells ?_ | refine Or.inr (Or.inr (BW.cells ?_)) | exact Wc_cap)
    all_goals first | assumption | trivial
  rintro F Hx ⟨f1, f2, f3, rfl⟩
  refine AW_step false try_mixed (by kernel_rfl) (fun F Hx => validB x y l = true ∧ far4 x0 y0 x1 y1 = true ∧ (decide (x1 < x0)) = false ∧ (decide (y1 < y0)) = false ∧ look F 2 = .ptr (some (H.length, 0)) ∧ look F 3 = .ptr (some (H.length + 1, 0)) ∧ look F 4 = .bool false ∧ Hx = H ++ [.cells true 0 [.int .i64 x, .int .i64 y, .sl (some (bs, 0)) l.length cs], .cells true 0 [.int .i64 x0, .int .i64 y0, .int .i64 x1, .int .i64 y1], .cells true 1 [.int .i64 x0, .int .i64 y0, .int .i64 x1, .int .i64 y1]]) ?_ ?_
  · skip
    simp -implicitDefEqProofs (disch := omega) only [hbs, hb0s, f1, f2, f3, aApp_nil, aApp_none, aApp_some, aApp_grw, simprocAttr, amset, tyset, Function.comp_apply, one1, lenV, calleeOf, lateOk, belowV, aop, AV.ofValue, AV.ofCell, AV.cells, AV.flat, AV.one, arep, aBin, aConv]
    repeat refine And.intro (by omega) ?_
    refine call_v (by kernel_rfl) (valid_c _ x y _ l (.inr ⟨_, _, _, rfl, by first | exact hb0s _ | exact hbs⟩)) ?_
    simp -implicitDefEqProofs (disch := omega) only [hbs, hb0s, f1, f2, f3, aApp_nil, aApp_none, aApp_some, aApp_grw, simprocAttr, amset, tyset, Function.comp_apply, one1, lenV, calleeOf, lateOk, belowV, aop, AV.ofValue, AV.ofCell, AV.cells, AV.flat, AV.one, arep, aBin, aConv]
    repeat refine And.intro (by omega) ?_
    refine gd_split (fun h4 => ?_) (fun h4 => ?_)
    · have h4d := h4
      try simp only [Bool.not_eq_true', Bool.not_eq_false', decide_eq_true_eq, decide_eq_false_iff_not, beq_iff_eq, bne_iff_ne, ne_eq, Bool.not_eq_true, Bool.not_eq_false, beq_eq_false_iff_ne, bne_eq_false_iff_eq, Classical.not_not, Bool.and_eq_true, Bool.and_eq_false_imp] at h4d
      simp -implicitDefEqProofs (disch := omega) only [hbs, hb0s, f1, f2, f3, h4, h4d, aApp_nil, aApp_none, aApp_some, aApp_grw, simprocAttr, amset, tyset, Function.comp_apply, one1, lenV, calleeOf, lateOk, belowV, aop, AV.ofValue, AV.ofCell, AV.cells, AV.flat, AV.one, arep, aBin, aConv]
      repeat refine And.intro (by omega) ?_
      refine call_v (by kernel_rfl) (near_c _ _ [x0, y0, x1, y1] (.inr ⟨_, _, _, by first | rfl | (rw [List.length_append]; rfl), by first | rfl | (rw [get_newk]; rfl) | (rw [get_new0]; rfl) | (rw [get_newk, prs_append]; rfl) | (rw [get_new0, prs_append]; rfl)⟩) (by simp)) ?_
      rw [far4_any]
      simp -implicitDefEqProofs (disch := omega) only [hbs, hb0s, f1, f2, f3, h4, h4d, aApp_nil, aApp_none, aApp_some, aApp_grw, simprocAttr, amset, tyset, Function.comp_apply, one1, lenV, calleeOf, lateOk, belowV, aop, AV.ofValue, AV.ofCell, AV.cells, AV.flat, AV.one, arep, aBin, aConv]
      repeat refine And.intro (by omega) ?_
      refine gd_split (fun h5 => ?_) (fun h5 => ?_)
      · have h5d := h5
        try simp only [Bool.not_eq_true', Bool.not_eq_false', decide_eq_true_eq, decide_eq_false_iff_not, beq_iff_eq, bne_iff_ne, ne_eq, Bool.not_eq_true, Bool.not_eq_false, beq_eq_false_iff_ne, bne_eq_false_iff_eq, Classical.not_not, Bool.and_eq_true, Bool.and_eq_false_imp] at h5d
        simp -implicitDefEqProofs (disch := omega) only [hbs, hb0s, f1, f2, f3, h4, h4d, h5, h5d, aApp_nil, aApp_none, aApp_some, aApp_grw, simprocAttr, amset, tyset, Function.comp_apply, one1, lenV, calleeOf, lateOk, belowV, aop, AV.ofValue, AV.ofCell, AV.cells, AV.flat, AV.one, arep, aBin, aConv]
        repeat refine And.intro (by omega) ?_
        refine gd_split (fun h6 => ?_) (fun h6 => ?_)
        · have h6d := h6
          try simp only [Bool.not_eq_true', Bool.not_eq_false', decide_eq_true_eq, decide_eq_false_iff_not, beq_iff_eq, bne_iff_ne, ne_eq, Bool.not_eq_true, Bool.not_eq_false, beq_eq_false_iff_ne, bne_eq_false_iff_eq, Classical.not_not, Bool.and_eq_true, Bool.and_eq_false_imp] at h6d
          simp -implicitDefEqProofs (disch := omega) only [hbs, hb0s, f1, f2, f3, h4, h4d, h5, h5d, h6, h6d, aApp_nil, aApp_none, aApp_some, aApp_grw, simprocAttr, amset, tyset, Function.comp_apply, one1, lenV, calleeOf, lateOk, belowV, aop, AV.ofValue, AV.ofCell, AV.cells, AV.flat, AV.one, arep, aBin, aConv]
          repeat refine And.intro (by omega) ?_
          refine cond_split (fun h7 => ?_) (fun h7 => ?_)
          · have h7d := h7
            try simp only [Bool.not_eq_true', Bool.not_eq_false', decide_eq_true_eq, decide_eq_false_iff_not, beq_iff_eq, bne_iff_ne, ne_eq, Bool.not_eq_true, Bool.not_eq_false, beq_eq_false_iff_ne, bne_eq_false_iff_eq, Classical.not_not, Bool.and_eq_true, Bool.and_eq_false_imp] at h7d
            simp -implicitDefEqProofs (disch := omega) only [hbs, hb0s, f1, f2, f3, h4, h4d, h5, h5d, h6, h6d, h7, h7d, aApp_nil, aApp_none, aApp_some, aApp_grw, simprocAttr, amset, tyset, Function.comp_apply, one1, lenV, calleeOf, lateOk, belowV, aop, AV.ofValue, AV.ofCell, AV.cells, AV.flat, AV.one, arep, aBin, aConv]
            repeat refine And.intro (by omega) ?_
            exact hQ _ _ (end_plain (.inl rfl) hbel (x := .bool false) (ret_of Tryz.results68 (by simp -implicitDefEqProofs (disch := omega) only [simprocAttr, amset, tyset, Function.comp_apply, one1, lenV, calleeOf, lateOk, belowV, aop, AV.ofValue, AV.ofCell, AV.cells, AV.flat, AV.one, arep, aBin, aAppend, aConv])) rfl ⟨by first | (simp [apartB, h4d, h5d, h6d, h7d]; done) | (simp [apartB, h4d, h5d, h6d, h7d]; intros; omega), rfl⟩)
          · have h7d := h7
            try simp only [Bool.not_eq_true', Bool.not_eq_false', decide_eq_true_eq, decide_eq_false_iff_not, beq_iff_eq, bne_iff_ne, ne_eq, Bool.not_eq_true, Bool.not_eq_false, beq_eq_false_iff_ne, bne_eq_false_iff_eq, Classical.not_not, Bool.and_eq_true, Bool.and_eq_false_imp] at h7d
            simp -implicitDefEqProofs (disch := omega) only [hbs, hb0s, f1, f2, f3, h4, h4d, h5, h5d, h6, h6d, h7, h7d, aApp_nil, aApp_none, aApp_some, aApp_grw, simprocAttr, amset, tyset, Function.comp_apply, one1, lenV, calleeOf, lateOk, belowV, aop, AV.ofValue, AV.ofCell, AV.cells, AV.flat, AV.one, arep, aBin, aConv]
            repeat refine And.intro (by omega) ?_
            refine inv_of ?_
            simp -implicitDefEqProofs (disch := omega) only [f1, f2, f3, absF, absH, W_refl', W_any', W_agg, W_tup, Ws_cons, Ws_refl', Wc_refl', Wcs_cons, Wcs_nil, look, List.cons_append, List.nil_append, List.append_nil, List.length_cons, List.length_nil, Nat.zero_add, Nat.reduceAdd, AV.mv, AV.mvs, ABlk.mv, sig_new0, sig_newk, sig_lt, List.getElem?_cons_zero, List.getElem?_cons_succ, mvs_ints, mvs_bools, mvs_prs, mvs_append, cond_true, cond_false, beq_self_eq_true, Nat.reduceBEq, true_and, and_true, or_true, true_or, and_self, decide_true, Nat.add_zero, reduceCtorEq, false_or, or_false]
            repeat' (first | exact True.intro | exact Nat.add_lt_add_left (by decide) _ | exact Nat.lt_add_of_pos_right (by decide) | refine W_nils ?_ (Or.inr rfl) | refine W_nils ?_ (Or.inl rfl) | refine Wc_nils ?_ (Or.inr rfl) | refine Wc_nils ?_ (Or.inl rfl) | exact W_cap | rfl | refine And.intro ?_ ?_ | exact Or.inl rfl | exact Or.inr rfl | exact Or.inr (Or.inl rfl) | exact Or.inr (Or.inr BW.emp) | exact Or.inr BW.emp | exact BW.emp | exact Or.inr (Or.inr BW.pre) | exact Or.inr BW.pre | exact BW.pre | refine Or.inr (BW.cells ?_) | refine BW.cells ?_ | refine Or.inr (Or.inr (BW.cells ?_)) | exact Wc_cap)
            all_goals first | assumption | trivial
        · have h6d := h6
          try simp only [Bool.not_eq_true', Bool.not_eq_false', decide_eq_true_eq, decide_eq_false_iff_not, beq_iff_eq, bne_iff_ne, ne_eq, Bool.not_eq_true, Bool.not_eq_false, beq_eq_false_iff_ne, bne_eq_false_iff_eq, Classical.not_not, Bool.and_eq_true, Bool.and_eq_false_imp] at h6d
          simp -implicitDefEqProofs (disch := omega) only [hbs, hb0s, f1, f2, f3, h4, h4d, h5, h5d, h6, h6d, aApp_nil, aApp_none, aApp_some, aApp_grw, simprocAttr, amset, tyset, Function.comp_apply, one1, lenV, calleeOf, lateOk, belowV, aop, AV.ofValue, AV.ofCell, AV.cells, AV.flat, AV.one, arep, aBin, aConv]
          repeat refine And.intro (by omega) ?_
          exact hQ _ _ (end_plain (.inl rfl) hbel (x := .bool false) (ret_of Tryz.results68 (by simp -implicitDefEqProofs (disch := omega) only [simprocAttr, amset, tyset, Function.comp_apply, one1, lenV, calleeOf, lateOk, belowV, aop, AV.ofValue, AV.ofCell, AV.cells, AV.flat, AV.one, arep, aBin, aAppend, aConv])) rfl ⟨by first | (simp [apartB, h4d, h5d, h6d]; done) | (simp [apartB, h4d, h5d, h6d]; intros; omega), rfl⟩)
      · have h5d := h5
        try simp only [Bool.not_eq_true', Bool.not_eq_false', decide_eq_true_eq, decide_eq_false_iff_not, beq_iff_eq, bne_iff_ne, ne_eq, Bool.not_eq_true, Bool.not_eq_false, beq_eq_false_iff_ne, bne_eq_false_iff_eq, Classical.not_not, Bool.and_eq_true, Bool.and_eq_false_imp] at h5d
        simp -implicitDefEqProofs (disch := omega) only [hbs, hb0s, f1, f2, f3, h4, h4d, h5, h5d, aApp_nil, aApp_none, aApp_some, aApp_grw, simprocAttr, amset, tyset, Function.comp_apply, one1, lenV, calleeOf, lateOk, belowV, aop, AV.ofValue, AV.ofCell, AV.cells, AV.flat, AV.one, arep, aBin, aConv]
        repeat refine And.intro (by omega) ?_
        exact hQ _ _ (end_plain (.inl rfl) hbel (x := .bool false) (ret_of Tryz.results68 (by simp -implicitDefEqProofs (disch := omega) only [simprocAttr, amset, tyset, Function.comp_apply, one1, lenV, calleeOf, lateOk, belowV, aop, AV.ofValue, AV.ofCell, AV.cells, AV.flat, AV.one, arep, aBin, aAppend, aConv])) rfl ⟨by first | (simp [apartB, h4d, h5d]; done) | (simp [apartB, h4d, h5d]; intros; omega), rfl⟩)
    · have h4d := h4
      try simp only [Bool.not_eq_true', Bool.not_eq_false', decide_eq_true_eq, decide_eq_false_iff_not, beq_iff_eq, bne_iff_ne, ne_eq, Bool.not_eq_true, Bool.not_eq_false, beq_eq_false_iff_ne, bne_eq_false_iff_eq, Classical.not_not, Bool.and_eq_true, Bool.and_eq_false_imp] at h4d
      simp -implicitDefEqProofs (disch := omega) only [hbs, hb0s, f1, f2, f3, h4, h4d, aApp_nil, aApp_none, aApp_some, aApp_grw, simprocAttr, amset, tyset, Function.comp_apply, one1, lenV, calleeOf, lateOk, belowV, aop, AV.ofValue, AV.ofCell, AV.cells, AV.flat, AV.one, arep, aBin, aConv]
      repeat refine And.intro (by omega) ?_
      exact hQ _ _ (end_plain (.inl rfl) hbel (x := .bool false) (ret_of Tryz.results68 (by simp -implicitDefEqProofs (disch := omega) only [simprocAttr, amset, tyset, Function.comp_apply, one1, lenV, calleeOf, lateOk, belowV, aop, AV.ofValue, AV.ofCell, AV.cells, AV.flat, AV.one, arep, aBin, aAppend, aConv])) rfl ⟨by first | (simp [apartB, h4d]; done) | (simp [apartB, h4d]; intros; omega), rfl⟩)
  rintro F Hx ⟨h8d, h9d, h10d, h11d, f12, f13, f14, rfl⟩
  obtain ⟨hl16, hlB⟩ := valid_bd h8d
  have hxy := valid_bd3 h8d
  have hfar := far4_bd h9d
  have hfinX : x0 ≤ x1 := Int.not_lt.1 (of_decide_eq_false h10d)
  have hfinY : y0 ≤ y1 := Int.not_lt.1 (of_decide_eq_false h11d)
  have hB4 : ∀ e ∈ l ++ [(x1 - x0, 0), (0, y1 - y0)], Bd 4194304 e := fun e he => by
      simp only [List.mem_append, List.mem_cons, List.not_mem_nil, or_false] at he
      rcases he with he | rfl | rfl
      · have := hlB e he; unfold Bd at *; omega
      · unfold Bd; simp only; omega
      · unfold Bd; simp only; omega
  have hll : (l ++ [(x1 - x0, 0), (0, y1 - y0)]).length = l.length + 2 := by simp
  have hcl := canonL_len (l ++ [(x1 - x0, 0), (0, y1 - y0)])
  have hcb : ∀ e ∈ (canonL (l ++ [(x1 - x0, 0), (0, y1 - y0)])), Bd 134217728 e := fun e he => by
      have := canonL_bd (M := 4194304) (by decide) hB4 e he
      have h40 : (((l ++ [(x1 - x0, 0), (0, y1 - y0)]).length : Nat) : Int) * 4194304 ≤ 18 * 4194304 := Int.mul_le_mul_of_nonneg_right (by omega) (by decide)
      unfold Bd at *; omega
  have hc28 : ∀ e ∈ (canonL (l ++ [(x1 - x0, 0), (0, y1 - y0)])), Bd 268435456 e := fun e he => by have := hcb e he; unfold Bd at *; omega
  have hNb := nrmls_bd (M := 134217728) (by decide) hcb
  have hNl := nrmls_len (canonL (l ++ [(x1 - x0, 0), (0, y1 - y0)]))
  refine AW_special false try_mixed [[0, 1, 2, 3, 4, 5, 6, 7, 8, 9, 10, 11, 12, 13, 14, 15, 16, 17, 18, 19, 20], [0, 1, 3, 4, 5, 6, 7, 8, 9, 10, 11, 12, 13, 14, 15, 2, 16, 17, 18, 19, 20]] (by kernel_rfl) (fun F2 H2 => F2 = [(2, .ptr (some (H.length, 0))), (3, .ptr (some (H.length + 1, 0))), (4, .bool false), (5, .sl (some (H.length + 2, 0)) ((canonL (l ++ [(x1 - x0, 0), (0, y1 - y0)])).length) (capG (canonL (l ++ [(x1 - x0, 0), (0, y1 - y0)])).length))] ∧ H2 = H ++ [.cells true 0 [.int .i64 x, .int .i64 y, .sl (some (bs, 0)) l.length cs], .cells true 0 [.int .i64 x0, .int .i64 y0, .int .i64 x1, .int .i64 y1], .cells (ownG (canonL (l ++ [(x1 - x0, 0), (0, y1 - y0)])).length) 2 (prs (canonL (l ++ [(x1 - x0, 0), (0, y1 - y0)])))]) ?_ ?_
  · refine reps_cons ?_ (reps_cons ?_ (reps_nil)) <;> intro J hJ
    · skip
      simp -implicitDefEqProofs (disch := omega) only [hbs, hb0s, f1, f2, f3, f12, f13, f14, h8d, h9d, h10d, h11d, pickL, aApp_nil, aApp_none, aApp_some, aApp_grw, simprocAttr, amset, tyset, Function.comp_apply, one1, lenV, calleeOf, lateOk, belowV, aop, AV.ofValue, AV.ofCell, AV.cells, AV.flat, AV.one, arep, aBin, aConv]
      repeat refine And.intro (by omega) ?_
      refine call_x (by kernel_rfl) (by simp) (clone_u _ _ l ⟨_, _, _, rfl, by first | exact hb0s _ | exact hbs⟩ (by first | omega | (simp only [List.length_cons, List.length_nil]; omega) | exact Nat.le_trans (mkL_len _ _) (by first | omega | simp) | exact Nat.le_trans (vL_len _ _) (by first | omega | simp) | exact Nat.le_trans corV_len (by omega) | exact Nat.le_trans (canonL_len _) (by first | omega | simp))) ?_
      simp -implicitDefEqProofs (disch := omega) only [hbs, hb0s, f1, f2, f3, f12, f13, f14, h8d, h9d, h10d, h11d, pickL, prs_len, prs_one, capG_s, aApp_nil, aApp_none, aApp_some, aApp_grw, simprocAttr, amset, tyset, Function.comp_apply, one1, lenV, calleeOf, lateOk, belowV, aop, AV.ofValue, AV.ofCell, AV.cells, AV.flat, AV.one, arep, aBin, aConv]
      repeat refine And.intro (by omega) ?_
      refine call_x (by kernel_rfl) (by simp) (canonical_u _ 0 0 _ (l ++ [(x1 - x0, 0), (0, y1 - y0)]) (.inr ⟨_, _, _, by first | rfl | (rw [List.length_append]; rfl), by first | rfl | (rw [get_newk]; rfl) | (rw [get_new0]; rfl) | (rw [get_newk, prs_append]; rfl) | (rw [get_new0, prs_append]; rfl)⟩) (by first | omega | (simp only [List.length_cons, List.length_nil]; omega) | exact Nat.le_trans (mkL_len _ _) (by first | omega | simp) | exact Nat.le_trans (vL_len _ _) (by first | omega | simp) | exact Nat.le_trans corV_len (by omega) | exact Nat.le_trans (canonL_len _) (by first | omega | simp)) (by assumption)) ?_
      simp -implicitDefEqProofs (disch := omega) only [hbs, hb0s, f1, f2, f3, f12, f13, f14, h8d, h9d, h10d, h11d, pickL, prs_len, prs_one, capG_s, aApp_nil, aApp_none, aApp_some, aApp_grw, simprocAttr, amset, tyset, Function.comp_apply, one1, lenV, calleeOf, lateOk, belowV, aop, AV.ofValue, AV.ofCell, AV.cells, AV.flat, AV.one, arep, aBin, aConv]
      repeat refine And.intro (by omega) ?_
      refine inv_of (hJ _ _ ⟨_, _, _, ⟨rfl, rfl⟩, Abs.byG hbel [] rfl [0, 1, 6] (by decide) ?_⟩)
      simp -implicitDefEqProofs (disch := omega) only [f1, f2, f3, f12, f13, f14, List.length_append, List.length_cons, List.length_nil, capG_s, ownG_s, capG_0, ownG_0, prs_append, prs_cons, prs_nil, W_nil0, W_nil1, W_cap', Wc_nil0, Wc_nil1, Wc_cap', absF, absH, W_refl', W_any', W_agg, W_tup, Ws_cons, Ws_refl', Wc_refl', Wcs_cons, Wcs_nil, look, List.cons_append, List.nil_append, List.append_nil, List.length_cons, List.length_nil, Nat.zero_add, Nat.reduceAdd, AV.mv, AV.mvs, ABlk.mv, sig_new0, sig_newk, sig_lt, List.getElem?_cons_zero, List.getElem?_cons_succ, mvs_ints, mvs_bools, mvs_prs, mvs_append, cond_true, cond_false, beq_self_eq_true, Nat.reduceBEq, true_and, and_true, or_true, true_or, and_self, decide_true, Nat.add_zero, reduceCtorEq, false_or, or_false]
      repeat' (first | exact True.intro | exact Nat.add_lt_add_left (by decide) _ | exact Nat.lt_add_of_pos_right (by decide) | refine W_nils ?_ (Or.inr rfl) | refine W_nils ?_ (Or.inl rfl) | refine Wc_nils ?_ (Or.inr rfl) | refine Wc_nils ?_ (Or.inl rfl) | exact W_cap | rfl | refine And.intro ?_ ?_ | exact Or.inl rfl | exact Or.inr rfl | exact Or.inr (Or.inl rfl) | exact Or.inr (Or.inr BW.emp) | exact Or.inr BW.emp | exact BW.emp | exact Or.inr (Or.inr BW.pre) | exact Or.inr BW.pre | exact BW.pre | refine Or.inr (BW.cells ?_) | refine BW.cells ?_ | refine Or.inr (Or.inr (BW.cells ?_)) | exact Wc_cap)
    · skip
      simp -implicitDefEqProofs (disch := omega) only [hbs, hb0s, f1, f2, f3, f12, f13, f14, h8d, h9d, h10d, h11d, pickL, aApp_nil, aApp_none, aApp_some, aApp_grw, simprocAttr, amset, tyset, Function.comp_apply, one1, lenV, calleeOf, lateOk, belowV, aop, AV.ofValue, AV.ofCell, AV.cells, AV.flat, AV.one, arep, aBin, aConv]
      repeat refine And.intro (by omega) ?_
      refine call_x (by kernel_rfl) (by simp) (clone_u _ _ l ⟨_, _, _, rfl, by first | exact hb0s _ | exact hbs⟩ (by first | omega | (simp only [List.length_cons, List.length_nil]; omega) | exact Nat.le_trans (mkL_len _ _) (by first | omega | simp) | exact Nat.le_trans (vL_len _ _) (by first | omega | simp) | exact Nat.le_trans corV_len (by omega) | exact Nat.le_trans (canonL_len _) (by first | omega | simp))) ?_
      simp -implicitDefEqProofs (disch := omega) only [hbs, hb0s, f1, f2, f3, f12, f13, f14, h8d, h9d, h10d, h11d, pickL, prs_len, prs_one, capG_s, aApp_nil, aApp_none, aApp_some, aApp_grw, simprocAttr, amset, tyset, Function.comp_apply, one1, lenV, calleeOf, lateOk, belowV, aop, AV.ofValue, AV.ofCell, AV.cells, AV.flat, AV.one, arep, aBin, aConv]
      repeat refine And.intro (by omega) ?_
      refine call_x (by kernel_rfl) (by simp) (canonical_u _ 0 0 _ (l ++ [(x1 - x0, 0), (0, y1 - y0)]) (.inr ⟨_, _, _, by first | rfl | (rw [List.length_append]; rfl), by first | rfl | (rw [get_newk]; rfl) | (rw [get_new0]; rfl) | (rw [get_newk, prs_append]; rfl) | (rw [get_new0, prs_append]; rfl)⟩) (by first | omega | (simp only [List.length_cons, List.length_nil]; omega) | exact Nat.le_trans (mkL_len _ _) (by first | omega | simp) | exact Nat.le_trans (vL_len _ _) (by first | omega | simp) | exact Nat.le_trans corV_len (by omega) | exact Nat.le_trans (canonL_len _) (by first | omega | simp)) (by assumption)) ?_
      simp -implicitDefEqProofs (disch := omega) only [hbs, hb0s, f1, f2, f3, f12, f13, f14, h8d, h9d, h10d, h11d, pickL, prs_len, prs_one, capG_s, aApp_nil, aApp_none, aApp_some, aApp_grw, simprocAttr, amset, tyset, Function.comp_apply, one1, lenV, calleeOf, lateOk, belowV, aop, AV.ofValue, AV.ofCell, AV.cells, AV.flat, AV.one, arep, aBin, aConv]
      repeat refine And.intro (by omega) ?_
      refine inv_of (hJ _ _ ⟨_, _, _, ⟨rfl, rfl⟩, Abs.byG hbel [] rfl [0, 1, 6] (by decide) ?_⟩)
      simp -implicitDefEqProofs (disch := omega) only [f1, f2, f3, f12, f13, f14, List.length_append, List.length_cons, List.length_nil, capG_s, ownG_s, capG_0, ownG_0, prs_append, prs_cons, prs_nil, W_nil0, W_nil1, W_cap', Wc_nil0, Wc_nil1, Wc_cap', absF, absH, W_refl', W_any', W_agg, W_tup, Ws_cons, Ws_refl', Wc_refl', Wcs_cons, Wcs_nil, look, List.cons_append, List.nil_append, List.append_nil, List.length_cons, List.length_nil, Nat.zero_add, Nat.reduceAdd, AV.mv, AV.mvs, ABlk.mv, sig_new0, sig_newk, sig_lt, List.getElem?_cons_zero, List.getElem?_cons_succ, mvs_ints, mvs_bools, mvs_prs, mvs_append, cond_true, cond_false, beq_self_eq_true, Nat.reduceBEq, true_and, and_true, or_true, true_or, and_self, decide_true, Nat.add_zero, reduceCtorEq, false_or, or_false]
      repeat' (first | exact True.intro | exact Nat.add_lt_add_left (by decide) _ | exact Nat.lt_add_of_pos_right (by decide) | refine W_nils ?_ (Or.inr rfl) | refine W_nils ?_ (Or.inl rfl) | refine Wc_nils ?_ (Or.inr rfl) | refine Wc_nils ?_ (Or.inl rfl) | exact W_cap | rfl | refine And.intro ?_ ?_ | exact Or.inl rfl | exact Or.inr rfl | exact Or.inr (Or.inl rfl) | exact Or.inr (Or.inr BW.emp) | exact Or.inr BW.emp | exact BW.emp | exact Or.inr (Or.inr BW.pre) | exact Or.inr BW.pre | exact BW.pre | refine Or.inr (BW.cells ?_) | refine BW.cells ?_ | refine Or.inr (Or.inr (BW.cells ?_)) | exact Wc_cap)
  rintro F2 H2 ⟨rfl, rfl⟩
  refine AW_fin false try_mixed (by kernel_rfl) ?_
  simp -implicitDefEqProofs (disch := omega) only [hbs, hb0s, h8d, h9d, h10d, h11d, prs_len, prs_one, aApp_nil, aApp_none, aApp_some, aApp_grw, simprocAttr, amset, tyset, Function.comp_apply, one1, lenV, calleeOf, lateOk, belowV, aop, AV.ofValue, AV.ofCell, AV.cells, AV.flat, AV.one, arep, aBin, aConv]
  repeat refine And.intro (by omega) ?_
  refine go_loop try_mixed (by kernel_rfl) (fun k F Hx => ∃ i : Nat, i + k = (canonL (l ++ [(x1 - x0, 0), (0, y1 - y0)])).length ∧ F = [(5, .sl (some (H.length, 0)) ((canonL (l ++ [(x1 - x0, 0), (0, y1 - y0)])).length) (capG (canonL (l ++ [(x1 - x0, 0), (0, y1 - y0)])).length)), (6, .ptr (some (H.length + 1, 0))), (7, .sl (some (H.length + 2, 0)) ((nrmls ((canonL (l ++ [(x1 - x0, 0), (0, y1 - y0)])).take i)).length) (capG (nrmls ((canonL (l ++ [(x1 - x0, 0), (0, y1 - y0)])).take i)).length)), (82, .sl (some (H.length, 0)) ((canonL (l ++ [(x1 - x0, 0), (0, y1 - y0)])).length) (capG (canonL (l ++ [(x1 - x0, 0), (0, y1 - y0)])).length)), (83, .int .i64 (((canonL (l ++ [(x1 - x0, 0), (0, y1 - y0)])).length : Nat) : Int)), (84, .int .i64 ((i : Nat) : Int))] ∧ Hx = H ++ [.cells (ownG (canonL (l ++ [(x1 - x0, 0), (0, y1 - y0)])).length) 2 (prs (canonL (l ++ [(x1 - x0, 0), (0, y1 - y0)]))), .cells true 0 [.int .i64 ((x0 + x1) - x), .int .i64 ((y0 + y1) - y)], .cells (ownG (nrmls ((canonL (l ++ [(x1 - x0, 0), (0, y1 - y0)])).take i)).length) 2 (prs (nrmls ((canonL (l ++ [(x1 - x0, 0), (0, y1 - y0)])).take i)))]) ((canonL (l ++ [(x1 - x0, 0), (0, y1 - y0)])).length) ?_ ?_
  · refine ⟨_, _, _, ⟨0, by omega, rfl, rfl⟩, Abs.byG hbel [] rfl [2, 3, 4] (by decide) ?_⟩
    simp -implicitDefEqProofs (disch := omega) only [List.take_zero, nrmls_nil, prs_cons, prs_nil, List.length_cons, List.length_nil, List.length_append, capG_s, ownG_s, capG_0, ownG_0, prs_append, W_nil0, W_nil1, W_cap', Wc_nil0, Wc_nil1, Wc_cap', absF, absH, W_refl', W_any', W_agg, W_tup, Ws_cons, Ws_refl', Wc_refl', Wcs_cons, Wcs_nil, look, List.cons_append, List.nil_append, List.append_nil, List.length_cons, List.length_nil, Nat.zero_add, Nat.reduceAdd, AV.mv, AV.mvs, ABlk.mv, sig_new0, sig_newk, sig_lt, List.getElem?_cons_zero, List.getElem?_cons_succ, mvs_ints, mvs_bools, mvs_prs, mvs_append, cond_true, cond_false, beq_self_eq_true, Nat.reduceBEq, true_and, and_true, or_true, true_or, and_self, decide_true, Nat.add_zero, reduceCtorEq, false_or, or_false]
    repeat' (first | exact True.intro | exact Nat.add_lt_add_left (by decide) _ | exact Nat.lt_add_of_pos_right (by decide) | refine W_nils ?_ (Or.inr rfl) | refine W_nils ?_ (Or.inl rfl) | refine Wc_nils ?_ (Or.inr rfl) | refine Wc_nils ?_ (Or.inl rfl) | exact W_cap | rfl | refine And.intro ?_ ?_ | exact Or.inl rfl | exact Or.inr rfl | exact Or.inr (Or.inl rfl) | exact Or.inr (Or.inr BW.emp) | exact Or.inr BW.emp | exact BW.emp | exact Or.inr (Or.inr BW.pre) | exact Or.inr BW.pre | exact BW.pre | refine Or.inr (BW.cells ?_) | refine BW.cells ?_ | refine Or.inr (Or.inr (BW.cells ?_)) | exact Wc_cap)
  · rintro k0 F Hx ⟨i, hm0, rfl, rfl⟩ J0 hJ0
    simp -implicitDefEqProofs (disch := omega) only [hbs, hb0s, h8d, h9d, h10d, h11d, prs_len, prs_one, aApp_nil, aApp_none, aApp_some, aApp_grw, simprocAttr, amset, tyset, Function.comp_apply, one1, lenV, calleeOf, lateOk, belowV, aop, AV.ofValue, AV.ofCell, AV.cells, AV.flat, AV.one, arep, aBin, aConv]
    repeat refine And.intro (by omega) ?_
    refine cond_split (fun h15 => ?_) (fun h15 => ?_)
    · have h15d := h15
      try simp only [Bool.not_eq_true', Bool.not_eq_false', decide_eq_true_eq, decide_eq_false_iff_not, beq_iff_eq, bne_iff_ne, ne_eq, Bool.not_eq_true, Bool.not_eq_false, beq_eq_false_iff_ne, bne_eq_false_iff_eq, Classical.not_not, Bool.and_eq_true, Bool.and_eq_false_imp] at h15d
      have hgi := gpb (i := i) hcb (by omega)
      have hst := nrmls_step (L := (canonL (l ++ [(x1 - x0, 0), (0, y1 - y0)]))) (i := i) (by omega)
      have hnl := nrmls_len ((canonL (l ++ [(x1 - x0, 0), (0, y1 - y0)])).take i)
      rw [List.length_take] at hnl
      have q16 := prs_load (l := canonL (l ++ [(x1 - x0, 0), (0, y1 - y0)])) (j := i) (by omega)
      simp -implicitDefEqProofs (disch := omega) only [hbs, hb0s, h8d, h9d, h10d, h11d, prs_len, prs_one, h15, h15d, q16, capG_s, aApp_nil, aApp_none, aApp_some, aApp_grw, simprocAttr, amset, tyset, Function.comp_apply, one1, lenV, calleeOf, lateOk, belowV, aop, AV.ofValue, AV.ofCell, AV.cells, AV.flat, AV.one, arep, aBin, aConv]
      repeat refine And.intro (by omega) ?_
      refine hJ0 _ _ ⟨k0 - 1, by omega, _, _, _, ⟨i + 1, by omega, rfl, rfl⟩, Abs.byG hbel [] rfl [0, 1, 5] (by decide) ?_⟩
      simp -implicitDefEqProofs (disch := omega) only [hst, Int.zero_sub, List.length_append, List.length_cons, List.length_nil, capG_s, ownG_s, capG_0, ownG_0, prs_append, prs_cons, prs_nil, W_nil0, W_nil1, W_cap', Wc_nil0, Wc_nil1, Wc_cap', absF, absH, W_refl', W_any', W_agg, W_tup, Ws_cons, Ws_refl', Wc_refl', Wcs_cons, Wcs_nil, look, List.cons_append, List.nil_append, List.append_nil, List.length_cons, List.length_nil, Nat.zero_add, Nat.reduceAdd, AV.mv, AV.mvs, ABlk.mv, sig_new0, sig_newk, sig_lt, List.getElem?_cons_zero, List.getElem?_cons_succ, mvs_ints, mvs_bools, mvs_prs, mvs_append, cond_true, cond_false, beq_self_eq_true, Nat.reduceBEq, true_and, and_true, or_true, true_or, and_self, decide_true, Nat.add_zero, reduceCtorEq, false_or, or_false]
      repeat' (first | exact True.intro | exact Nat.add_lt_add_left (by decide) _ | exact Nat.lt_add_of_pos_right (by decide) | refine W_nils ?_ (Or.inr rfl) | refine W_nils ?_ (Or.inl rfl) | refine Wc_nils ?_ (Or.inr rfl) | refine Wc_nils ?_ (Or.inl rfl) | exact W_cap | rfl | refine And.intro ?_ ?_ | exact Or.inl rfl | exact Or.inr rfl | exact Or.inr (Or.inl rfl) | exact Or.inr (Or.inr BW.emp) | exact Or.inr BW.emp | exact BW.emp | exact Or.inr (Or.inr BW.pre) | exact Or.inr BW.pre | exact BW.pre | refine Or.inr (BW.cells ?_) | refine BW.cells ?_ | refine Or.inr (Or.inr (BW.cells ?_)) | exact Wc_cap)
    · have h15d := h15
      try simp only [Bool.not_eq_true', Bool.not_eq_false', decide_eq_true_eq, decide_eq_false_iff_not, beq_iff_eq, bne_iff_ne, ne_eq, Bool.not_eq_true, Bool.not_eq_false, beq_eq_false_iff_ne, bne_eq_false_iff_eq, Classical.not_not, Bool.and_eq_true, Bool.and_eq_false_imp] at h15d
      have hfinT : (canonL (l ++ [(x1 - x0, 0), (0, y1 - y0)])).take i = (canonL (l ++ [(x1 - x0, 0), (0, y1 - y0)])) := List.take_of_length_le (by omega)
      simp -implicitDefEqProofs (disch := omega) only [hbs, hb0s, h8d, h9d, h10d, h11d, prs_len, prs_one, h15, h15d, aApp_nil, aApp_none, aApp_some, aApp_grw, simprocAttr, amset, tyset, Function.comp_apply, one1, lenV, calleeOf, lateOk, belowV, aop, AV.ofValue, AV.ofCell, AV.cells, AV.flat, AV.one, arep, aBin, aConv]
      repeat refine And.intro (by omega) ?_
      refine go_loop try_mixed (by kernel_rfl) (fun k F Hx => ∃ j : Nat, j + k = (nrmls (canonL (l ++ [(x1 - x0, 0), (0, y1 - y0)]))).length ∧ ((nrmls (canonL (l ++ [(x1 - x0, 0), (0, y1 - y0)]))).take j).any (beyond (canonL (l ++ [(x1 - x0, 0), (0, y1 - y0)])) (x0 + x1 - x, y0 + y1 - y)) = false ∧ F = [(5, .sl (some (H.length, 0)) ((canonL (l ++ [(x1 - x0, 0), (0, y1 - y0)])).length) (capG (canonL (l ++ [(x1 - x0, 0), (0, y1 - y0)])).length)), (6, .ptr (some (H.length + 1, 0))), (99, .sl (some (H.length + 2, 0)) ((nrmls (canonL (l ++ [(x1 - x0, 0), (0, y1 - y0)]))).length) (capG (nrmls (canonL (l ++ [(x1 - x0, 0), (0, y1 - y0)]))).length)), (100, .int .i64 (((nrmls (canonL (l ++ [(x1 - x0, 0), (0, y1 - y0)]))).length : Nat) : Int)), (101, .int .i64 ((j : Nat) : Int))] ∧ Hx = H ++ [.cells (ownG (canonL (l ++ [(x1 - x0, 0), (0, y1 - y0)])).length) 2 (prs (canonL (l ++ [(x1 - x0, 0), (0, y1 - y0)]))), .cells true 0 [.int .i64 ((x0 + x1) - x), .int .i64 ((y0 + y1) - y)], .cells (ownG (nrmls (canonL (l ++ [(x1 - x0, 0), (0, y1 - y0)]))).length) 2 (prs (nrmls (canonL (l ++ [(x1 - x0, 0), (0, y1 - y0)]))))]) ((nrmls (canonL (l ++ [(x1 - x0, 0), (0, y1 - y0)]))).length) ?_ ?_
      · refine ⟨_, _, _, ⟨0, by omega, by simp, rfl, rfl⟩, Abs.byG hbel [] rfl [0, 1, 2] (by decide) ?_⟩
        simp -implicitDefEqProofs (disch := omega) only [hfinT, List.length_append, List.length_cons, List.length_nil, capG_s, ownG_s, capG_0, ownG_0, prs_append, prs_cons, prs_nil, W_nil0, W_nil1, W_cap', Wc_nil0, Wc_nil1, Wc_cap', absF, absH, W_refl', W_any', W_agg, W_tup, Ws_cons, Ws_refl', Wc_refl', Wcs_cons, Wcs_nil, look, List.cons_append, List.nil_append, List.append_nil, List.length_cons, List.length_nil, Nat.zero_add, Nat.reduceAdd, AV.mv, AV.mvs, ABlk.mv, sig_new0, sig_newk, sig_lt, List.getElem?_cons_zero, List.getElem?_cons_succ, mvs_ints, mvs_bools, mvs_prs, mvs_append, cond_true, cond_false, beq_self_eq_true, Nat.reduceBEq, true_and, and_true, or_true, true_or, and_self, decide_true, Nat.add_zero, reduceCtorEq, false_or, or_false]
        repeat' (first | exact True.intro | exact Nat.add_lt_add_left (by decide) _ | exact Nat.lt_add_of_pos_right (by decide) | refine W_nils ?_ (Or.inr rfl) | refine W_nils ?_ (Or.inl rfl) | refine Wc_nils ?_ (Or.inr rfl) | refine Wc_nils ?_ (Or.inl rfl) | exact W_cap | rfl | refine And.intro ?_ ?_ | exact Or.inl rfl | exact Or.inr rfl | exact Or.inr (Or.inl rfl) | exact Or.inr (Or.inr BW.emp) | exact Or.inr BW.emp | exact BW.emp | exact Or.inr (Or.inr BW.pre) | exact Or.inr BW.pre | exact BW.pre | refine Or.inr (BW.cells ?_) | refine BW.cells ?_ | refine Or.inr (Or.inr (BW.cells ?_)) | exact Wc_cap)
      · rintro k1 F Hx ⟨j, hm1, ht, rfl, rfl⟩ J1 hJ1
        simp -implicitDefEqProofs (disch := omega) only [hbs, hb0s, h8d, h9d, h10d, h11d, prs_len, prs_one, h15, h15d, aApp_nil, aApp_none, aApp_some, aApp_grw, simprocAttr, amset, tyset, Function.comp_apply, one1, lenV, calleeOf, lateOk, belowV, aop, AV.ofValue, AV.ofCell, AV.cells, AV.flat, AV.one, arep, aBin, aConv]
        repeat refine And.intro (by omega) ?_
        refine cond_split (fun h17 => ?_) (fun h17 => ?_)
        · have h17d := h17
          try simp only [Bool.not_eq_true', Bool.not_eq_false', decide_eq_true_eq, decide_eq_false_iff_not, beq_iff_eq, bne_iff_ne, ne_eq, Bool.not_eq_true, Bool.not_eq_false, beq_eq_false_iff_ne, bne_eq_false_iff_eq, Classical.not_not, Bool.and_eq_true, Bool.and_eq_false_imp] at h17d
          have hgj := gpb (i := j) hNb (by omega)
          have hst2 := any_take (p := beyond (canonL (l ++ [(x1 - x0, 0), (0, y1 - y0)])) (x0 + x1 - x, y0 + y1 - y)) (l := nrmls (canonL (l ++ [(x1 - x0, 0), (0, y1 - y0)]))) (i := j) (by omega)
          rw [← gp_eq (by omega)] at hst2
          have hp1 := mul_bd (a := g1 (nrmls (canonL (l ++ [(x1 - x0, 0), (0, y1 - y0)]))) j) (b := x0 + x1 - x) (A := 134217728) (B := 33554432) (by omega) (by omega)
          have hp2 := mul_bd (a := g2 (nrmls (canonL (l ++ [(x1 - x0, 0), (0, y1 - y0)]))) j) (b := y0 + y1 - y) (A := 134217728) (B := 33554432) (by omega) (by omega)
          have q18 := prs_load (l := nrmls (canonL (l ++ [(x1 - x0, 0), (0, y1 - y0)]))) (j := j) (by omega)
          simp -implicitDefEqProofs (disch := omega) only [hbs, hb0s, h8d, h9d, h10d, h11d, prs_len, prs_one, h15, h15d, h17, h17d, q18, aApp_nil, aApp_none, aApp_some, aApp_grw, simprocAttr, amset, tyset, Function.comp_apply, one1, lenV, calleeOf, lateOk, belowV, aop, AV.ofValue, AV.ofCell, AV.cells, AV.flat, AV.one, arep, aBin, aConv]
          repeat refine And.intro (by omega) ?_
          refine call_d (by kernel_rfl) (abs_c _ _ (by omega)) ?_
          simp -implicitDefEqProofs (disch := omega) only [hbs, hb0s, h8d, h9d, h10d, h11d, prs_len, prs_one, h15, h15d, h17, h17d, q18, aApp_nil, aApp_none, aApp_some, aApp_grw, simprocAttr, amset, tyset, Function.comp_apply, one1, lenV, calleeOf, lateOk, belowV, aop, AV.ofValue, AV.ofCell, AV.cells, AV.flat, AV.one, arep, aBin, aConv]
          repeat refine And.intro (by omega) ?_
          refine call_d (by kernel_rfl) (spread_c _ _ (canonL (l ++ [(x1 - x0, 0), (0, y1 - y0)])) (g1 (nrmls (canonL (l ++ [(x1 - x0, 0), (0, y1 - y0)]))) j, g2 (nrmls (canonL (l ++ [(x1 - x0, 0), (0, y1 - y0)]))) j) (.inr ⟨_, _, _, by first | rfl | (rw [List.length_append]; rfl), by first | rfl | (rw [get_newk]; rfl) | (rw [get_new0]; rfl) | (rw [get_newk, prs_append]; rfl) | (rw [get_new0, prs_append]; rfl)⟩) (by omega) (by assumption) (by first | assumption | (unfold Bd; simp only; omega) | (unfold Bd at *; simp only at *; omega) | (unfold Bd; simp; omega) | (unfold Bd; simp))) ?_
          simp -implicitDefEqProofs (disch := omega) only [hbs, hb0s, h8d, h9d, h10d, h11d, prs_len, prs_one, h15, h15d, h17, h17d, q18, aApp_nil, aApp_none, aApp_some, aApp_grw, simprocAttr, amset, tyset, Function.comp_apply, one1, lenV, calleeOf, lateOk, belowV, aop, AV.ofValue, AV.ofCell, AV.cells, AV.flat, AV.one, arep, aBin, aConv]
          repeat refine And.intro (by omega) ?_
          refine cond_split (fun h19 => ?_) (fun h19 => ?_)
          · have h19d := h19
            try simp only [Bool.not_eq_true', Bool.not_eq_false', decide_eq_true_eq, decide_eq_false_iff_not, beq_iff_eq, bne_iff_ne, ne_eq, Bool.not_eq_true, Bool.not_eq_false, beq_eq_false_iff_ne, bne_eq_false_iff_eq, Classical.not_not, Bool.and_eq_true, Bool.and_eq_false_imp] at h19d
            have hfinA : (nrmls (canonL (l ++ [(x1 - x0, 0), (0, y1 - y0)]))).any (beyond (canonL (l ++ [(x1 - x0, 0), (0, y1 - y0)])) (x0 + x1 - x, y0 + y1 - y)) = true := any_gp (j := j) (by omega) (decide_eq_true h19d)
            simp -implicitDefEqProofs (disch := omega) only [hbs, hb0s, h8d, h9d, h10d, h11d, prs_len, prs_one, h15, h15d, h17, h17d, q18, h19, h19d, aApp_nil, aApp_none, aApp_some, aApp_grw, simprocAttr, amset, tyset, Function.comp_apply, one1, lenV, calleeOf, lateOk, belowV, aop, AV.ofValue, AV.ofCell, AV.cells, AV.flat, AV.one, arep, aBin, aConv]
            repeat refine And.intro (by omega) ?_
            exact hQ _ _ (end_plain (.inl rfl) hbel (x := .bool true) (ret_of Tryz.results68 (by simp -implicitDefEqProofs (disch := omega) only [simprocAttr, amset, tyset, Function.comp_apply, one1, lenV, calleeOf, lateOk, belowV, aop, AV.ofValue, AV.ofCell, AV.cells, AV.flat, AV.one, arep, aBin, aAppend, aConv])) rfl ⟨by first | (simp [apartB, h8d, h9d, h10d, h11d, h15d, h17d, h19d, hfinX, hfinY, hfinT, hfinA]; done) | (simp [apartB, h8d, h9d, h10d, h11d, h15d, h17d, h19d, hfinX, hfinY, hfinT, hfinA]; intros; omega), rfl⟩)
          · have h19d := h19
            try simp only [Bool.not_eq_true', Bool.not_eq_false', decide_eq_true_eq, decide_eq_false_iff_not, beq_iff_eq, bne_iff_ne, ne_eq, Bool.not_eq_true, Bool.not_eq_false, beq_eq_false_iff_ne, bne_eq_false_iff_eq, Classical.not_not, Bool.and_eq_true, Bool.and_eq_false_imp] at h19d
            simp -implicitDefEqProofs (disch := omega) only [hbs, hb0s, h8d, h9d, h10d, h11d, prs_len, prs_one, h15, h15d, h17, h17d, q18, h19, h19d, aApp_nil, aApp_none, aApp_some, aApp_grw, simprocAttr, amset, tyset, Function.comp_apply, one1, lenV, calleeOf, lateOk, belowV, aop, AV.ofValue, AV.ofCell, AV.cells, AV.flat, AV.one, arep, aBin, aConv]
            repeat refine And.intro (by omega) ?_
            refine hJ1 _ _ ⟨k1 - 1, by omega, _, _, _, ⟨j + 1, by omega, by rw [hst2, ht, Bool.false_or]; exact decide_eq_false h19d, rfl, rfl⟩, Abs.byG hbel [] rfl [0, 1, 2] (by decide) ?_⟩
            simp -implicitDefEqProofs (disch := omega) only [List.length_append, List.length_cons, List.length_nil, capG_s, ownG_s, capG_0, ownG_0, prs_append, prs_cons, prs_nil, W_nil0, W_nil1, W_cap', Wc_nil0, Wc_nil1, Wc_cap', absF, absH, W_refl', W_any', W_agg, W_tup, Ws_cons, Ws_refl', Wc_refl', Wcs_cons, Wcs_nil, look, List.cons_append, List.nil_append, List.append_nil, List.length_cons, List.length_nil, Nat.zero_add, Nat.reduceAdd, AV.mv, AV.mvs, ABlk.mv, sig_new0, sig_newk, sig_lt, List.getElem?_cons_zero, List.getElem?_cons_succ, mvs_ints, mvs_bools, mvs_prs, mvs_append, cond_true, cond_false, beq_self_eq_true, Nat.reduceBEq, true_and, and_true, or_true, true_or, and_self, decide_true, Nat.add_zero, reduceCtorEq, false_or, or_false]
            repeat' (first | exact True.intro | exact Nat.add_lt_add_left (by decide) _ | exact Nat.lt_add_of_pos_right (by decide) | refine W_nils ?_ (Or.inr rfl) | refine W_nils ?_ (Or.inl rfl) | refine Wc_nils ?_ (Or.inr rfl) | refine Wc_nils ?_ (Or.inl rfl) | exact W_cap | rfl | refine And.intro ?_ ?_ | exact Or.inl rfl | exact Or.inr rfl | exact Or.inr (Or.inl rfl) | exact Or.inr (Or.inr BW.emp) | exact Or.inr BW.emp | exact BW.emp | exact Or.inr (Or.inr BW.pre) | exact Or.inr BW.pre | exact BW.pre | refine Or.inr (BW.cells ?_) | refine BW.cells ?_ | refine Or.inr (Or.inr (BW.cells ?_)) | exact Wc_cap)
        · have h17d := h17
          try simp only [Bool.not_eq_true', Bool.not_eq_false', decide_eq_true_eq, decide_eq_false_iff_not, beq_iff_eq, bne_iff_ne, ne_eq, Bool.not_eq_true, Bool.not_eq_false, beq_eq_false_iff_ne, bne_eq_false_iff_eq, Classical.not_not, Bool.and_eq_true, Bool.and_eq_false_imp] at h17d
          rw [List.take_of_length_le (by omega)] at ht
          have hfin := ht
          simp -implicitDefEqProofs (disch := omega) only [hbs, hb0s, h8d, h9d, h10d, h11d, prs_len, prs_one, h15, h15d, h17, h17d, aApp_nil, aApp_none, aApp_some, aApp_grw, simprocAttr, amset, tyset, Function.comp_apply, one1, lenV, calleeOf, lateOk, belowV, aop, AV.ofValue, AV.ofCell, AV.cells, AV.flat, AV.one, arep, aBin, aConv]
          repeat refine And.intro (by omega) ?_
          exact hQ _ _ (end_plain (.inl rfl) hbel (x := .bool false) (ret_of Tryz.results68 (by simp -implicitDefEqProofs (disch := omega) only [simprocAttr, amset, tyset, Function.comp_apply, one1, lenV, calleeOf, lateOk, belowV, aop, AV.ofValue, AV.ofCell, AV.cells, AV.flat, AV.one, arep, aBin, aAppend, aConv])) rfl ⟨by first | (simp [apartB, h8d, h9d, h10d, h11d, h15d, h17d, hfinX, hfinY, hfinT, hfin]; done) | (simp [apartB, h8d, h9d, h10d, h11d, h15d, h17d, hfinX, hfinY, hfinT, hfin]; intros; omega), rfl⟩)
end Go.Proofs.YtoimakfecmhjkaaGreat

/- Plain laws of zonogons. Conditions: as each theorem states. -/
namespace Go.Proofs.YtoimakfecmhjkaaGreat
set_option linter.unusedSimpArgs false
set_option linter.unusedVariables false
open Go.RowKit
end Go.Proofs.YtoimakfecmhjkaaGreat

/- What a function hands back beside an error. Conditions: as each theorem states. -/
namespace Go.Proofs.YtoimakfecmhjkaaGreat
set_option linter.unusedSimpArgs false
set_option linter.unusedVariables false
open Go.RowKit
/-- What is handed back, as one new block. -/
def mkL (e : Int) (L : List Pt) : List Pt := if e = 0 then L else []
def mkX (e : Int) (x : Int) : Int := if e = 0 then x else 0
theorem mkL_le (e : Int) (L : List Pt) : (mkL e L).length ≤ L.length := by
  unfold mkL; split
  · exact Nat.le_refl _
  · simp
end Go.Proofs.YtoimakfecmhjkaaGreat
