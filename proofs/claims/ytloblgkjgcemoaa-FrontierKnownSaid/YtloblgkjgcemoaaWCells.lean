/- Walk by the abstract machine: wayfinderbase.Cells. Conditions: as each theorem states. -/
import Derived.Test.YtloblgkjgcemoaaMctr
namespace Go.Proofs.Ytloblgkjgcemoaa
set_option linter.unusedSimpArgs false
set_option linter.unusedVariables false
open Go.RowKit
theorem take_eq_step {l m : List (Int × Int)} {i : Nat} (h1 : i < l.length) (h2 : i < m.length) (h : l.take i = m.take i) (e1 : g1 l i = g1 m i) (e2 : g2 l i = g2 m i) : l.take (i + 1) = m.take (i + 1) := by
  rw [take_snoc h1, take_snoc h2, h, ← gp_eq h1, ← gp_eq h2, gp, gp, e1, e2]
set_option maxRecDepth 100000 in
theorem cells_c (H : AHeap) (s1 s2 : AV) (l m : List (Int × Int)) (h1 : IsP H s1 l) (h2 : IsP H s2 m) (hl : l.length ≤ 1000000) (hm : m.length ≤ 1000000) :
    ACalls Try.prog 15 [s1, s2] H (fun v H' => v = .bool (decide (l = m)) ∧ H' = H) := by
  have hs1 : ∃ a c, s1 = .sl a l.length c := by
    rcases h1 with ⟨rfl, rfl⟩ | ⟨b, own, cap, rfl, hb⟩
    · exact ⟨_, _, rfl⟩
    · exact ⟨_, _, rfl⟩
  have hs2 : ∃ a c, s2 = .sl a m.length c := by
    rcases h2 with ⟨rfl, rfl⟩ | ⟨b, own, cap, rfl, hb⟩
    · exact ⟨_, _, rfl⟩
    · exact ⟨_, _, rfl⟩
  obtain ⟨a1, c1, rfl⟩ := hs1
  obtain ⟨a2, c2, rfl⟩ := hs2
  by_cases hlm : l.length = m.length
  · have hne : ((l.length : Int) != (m.length : Int)) = false := by simp [hlm]
    rcases Nat.eq_zero_or_pos l.length with h0 | h0
    · have e1 : l = [] := List.eq_nil_of_length_eq_zero h0
      have e2 : m = [] := List.eq_nil_of_length_eq_zero (by omega)
      subst e1 e2
      (refine ACalls_run try_mixed Try.func15 true _ rfl (Nat.le_of_ble_eq_true (by kernel_rfl)) (by kernel_rfl) ?_; intro hbel Q hQ hQ' c hc; unfold Try.f15 at hc; simp only [Option.some.injEq] at hc; subst hc; clear hQ')
      simp -implicitDefEqProofs (disch := omega) only [List.length_nil, amset, tyset, gdL, lightOf, dsts, AGd.eq_1, AGd.eq_2, ADo, lateOk, belowV, lenV, Int.reduceToNat, Int.reduceBEq, Int.reduceBNe, Int.reduceLT, Int.reduceLE, calleeOf, aop, aev, look, putF, AV.ofValue, AV.ofCell, AV.cells, AV.flat, AV.one, aAlloc, aNew, aBox, aBuild, afill, splice, aBuildSlice, arep, aLoad, ard, ards, aStore, awrite, aFieldAddr, aField, aIndexAddr, aIndex, aExtract, aBound, aSlice, aInt, aBin, aUn, aConv, aLen, aAppend, aElems, aCopy, aMin2, aMax2, aFold, aBuiltin, aMakeSlice, aMapUpdate, aDelete, aLookup, argF, Nat.reduceBEq, Nat.reduceLT, isSh, aRes, one1, Nat.reduceMod, Nat.reducePow, Nat.reduceAdd, Nat.reduceLeDiff, Nat.reduceMul, Nat.reduceSub]
      refine go_loop try_mixed (by kernel_rfl) (fun k F Hx => F = [(0, .sl a1 0 c1), (5, .int .i64 0)] ∧ Hx = H) 1 ?_ ?_
      · refine ⟨_, _, _, ⟨rfl, rfl⟩, Abs.by0 hbel ?_⟩
        rcases h1 with ⟨-, h⟩ | ⟨b, own, cap, h, hb⟩
        · injection h with h _ h'
          subst h h'
          simp -implicitDefEqProofs (disch := omega) only [absF, absH, weaker, look, AV.mv, AV.mvs, ABlk.mv, sig_new0, sig_newk, sig_lt, List.getElem?_cons_zero, List.getElem?_cons_succ, mvs_ints, mvs_bools, mvs_prs, mvs_append, cond_true, cond_false, beq_self_eq_true, Nat.reduceBEq, true_and, and_true, or_true, true_or, and_self, decide_true, Nat.add_zero, reduceCtorEq, false_or, or_false]
          repeat' (first | rfl | refine And.intro ?_ ?_ | exact Or.inl rfl | exact Or.inr rfl)
        · injection h with h _ h'
          subst h h'
          have hbb := getElem?_lt ‹H[b]? = _›
          simp -implicitDefEqProofs (disch := omega) only [absF, absH, weaker, look, AV.mv, AV.mvs, ABlk.mv, sig_new0, sig_newk, sig_lt, List.getElem?_cons_zero, List.getElem?_cons_succ, mvs_ints, mvs_bools, mvs_prs, mvs_append, cond_true, cond_false, beq_self_eq_true, Nat.reduceBEq, true_and, and_true, or_true, true_or, and_self, decide_true, Nat.add_zero, reduceCtorEq, false_or, or_false]
          repeat' (first | rfl | refine And.intro ?_ ?_ | exact Or.inl rfl | exact Or.inr rfl)
      · rintro k F Hx ⟨rfl, rfl⟩ J hJ
        simp -implicitDefEqProofs (disch := omega) only [Int.lt_irrefl, amset, tyset, gdL, lightOf, dsts, AGd.eq_1, AGd.eq_2, ADo, lateOk, belowV, lenV, Int.reduceToNat, Int.reduceBEq, Int.reduceBNe, Int.reduceLT, Int.reduceLE, calleeOf, aop, aev, look, putF, AV.ofValue, AV.ofCell, AV.cells, AV.flat, AV.one, aAlloc, aNew, aBox, aBuild, afill, splice, aBuildSlice, arep, aLoad, ard, ards, aStore, awrite, aFieldAddr, aField, aIndexAddr, aIndex, aExtract, aBound, aSlice, aInt, aBin, aUn, aConv, aLen, aAppend, aElems, aCopy, aMin2, aMax2, aFold, aBuiltin, aMakeSlice, aMapUpdate, aDelete, aLookup, argF, Nat.reduceBEq, Nat.reduceLT, isSh, aRes, one1, Nat.reduceMod, Nat.reducePow, Nat.reduceAdd, Nat.reduceLeDiff, Nat.reduceMul, Nat.reduceSub]
        exact hQ _ _ (end_plain0 (.inl rfl) hbel (x := .bool true) (ret_of Try.results15 (by simp -implicitDefEqProofs (disch := omega) only [amset, tyset, gdL, lightOf, dsts, AGd.eq_1, AGd.eq_2, ADo, lateOk, belowV, lenV, Int.reduceToNat, Int.reduceBEq, Int.reduceBNe, Int.reduceLT, Int.reduceLE, calleeOf, aop, aev, look, putF, AV.ofValue, AV.ofCell, AV.cells, AV.flat, AV.one, aAlloc, aNew, aBox, aBuild, afill, splice, aBuildSlice, arep, aLoad, ard, ards, aStore, awrite, aFieldAddr, aField, aIndexAddr, aIndex, aExtract, aBound, aSlice, aInt, aBin, aUn, aConv, aLen, aAppend, aElems, aCopy, aMin2, aMax2, aFold, aBuiltin, aMakeSlice, aMapUpdate, aDelete, aLookup, argF, Nat.reduceBEq, Nat.reduceLT, isSh, aRes, one1, Nat.reduceMod, Nat.reducePow, Nat.reduceAdd, Nat.reduceLeDiff, Nat.reduceMul, Nat.reduceSub])) rfl ⟨rfl, rfl⟩)
    · obtain ⟨b, own, cap, e1, hb⟩ := h1.resolve_left (fun h => by rw [h.1] at h0; simp at h0)
      injection e1 with e1 _ e1'; subst e1 e1'
      obtain ⟨b', own', cap', e2, hb'⟩ := h2.resolve_left (fun h => by rw [h.1] at hlm; simp at hlm; rw [hlm] at h0; simp at h0)
      injection e2 with e2 _ e2'; subst e2 e2'
      have hbl := getElem?_lt hb
      have hbl' := getElem?_lt hb'
      (refine ACalls_run try_mixed Try.func15 true _ rfl (Nat.le_of_ble_eq_true (by kernel_rfl)) (by kernel_rfl) ?_; intro hbel Q hQ hQ' c hc; unfold Try.f15 at hc; simp only [Option.some.injEq] at hc; subst hc; clear hQ')
      simp -implicitDefEqProofs (disch := omega) only [hne, amset, tyset, gdL, lightOf, dsts, AGd.eq_1, AGd.eq_2, ADo, lateOk, belowV, lenV, Int.reduceToNat, Int.reduceBEq, Int.reduceBNe, Int.reduceLT, Int.reduceLE, calleeOf, aop, aev, look, putF, AV.ofValue, AV.ofCell, AV.cells, AV.flat, AV.one, aAlloc, aNew, aBox, aBuild, afill, splice, aBuildSlice, arep, aLoad, ard, ards, aStore, awrite, aFieldAddr, aField, aIndexAddr, aIndex, aExtract, aBound, aSlice, aInt, aBin, aUn, aConv, aLen, aAppend, aElems, aCopy, aMin2, aMax2, aFold, aBuiltin, aMakeSlice, aMapUpdate, aDelete, aLookup, argF, Nat.reduceBEq, Nat.reduceLT, isSh, aRes, one1, Nat.reduceMod, Nat.reducePow, Nat.reduceAdd, Nat.reduceLeDiff, Nat.reduceMul, Nat.reduceSub]
      refine go_loop try_mixed (by kernel_rfl) (fun k F Hx => ∃ i : Nat, i + k = l.length ∧ l.take i = m.take i ∧ F = [(0, .sl (some (b, 0)) l.length none), (1, .sl (some (b', 0)) m.length none), (5, .int .i64 (i : Nat))] ∧ Hx = H) l.length ?_ ?_
      · refine ⟨_, _, _, ⟨0, by omega, rfl, rfl, rfl⟩, Abs.by0 hbel ?_⟩
        simp -implicitDefEqProofs (disch := omega) only [absF, absH, weaker, look, AV.mv, AV.mvs, ABlk.mv, sig_new0, sig_newk, sig_lt, List.getElem?_cons_zero, List.getElem?_cons_succ, mvs_ints, mvs_bools, mvs_prs, mvs_append, cond_true, cond_false, beq_self_eq_true, Nat.reduceBEq, true_and, and_true, or_true, true_or, and_self, decide_true, Nat.add_zero, reduceCtorEq, false_or, or_false]
        repeat' (first | rfl | refine And.intro ?_ ?_ | exact Or.inl rfl | exact Or.inr rfl)
      · rintro k F Hx ⟨i, hik, ht, rfl, rfl⟩ J hJ
        by_cases hi : i < l.length
        · have hii : (i : Int) < (l.length : Int) := by omega
          have q1 := prs_load hi
          have q2 := prs_load (l := m) (j := i) (by omega)
          cases p : (g1 l i == g1 m i && g2 l i == g2 m i)
          · simp -implicitDefEqProofs (disch := omega) only [hii, hb, hb', q1, q2, p, amset, tyset, gdL, lightOf, dsts, AGd.eq_1, AGd.eq_2, ADo, lateOk, belowV, lenV, Int.reduceToNat, Int.reduceBEq, Int.reduceBNe, Int.reduceLT, Int.reduceLE, calleeOf, aop, aev, look, putF, AV.ofValue, AV.ofCell, AV.cells, AV.flat, AV.one, aAlloc, aNew, aBox, aBuild, afill, splice, aBuildSlice, arep, aLoad, ard, ards, aStore, awrite, aFieldAddr, aField, aIndexAddr, aIndex, aExtract, aBound, aSlice, aInt, aBin, aUn, aConv, aLen, aAppend, aElems, aCopy, aMin2, aMax2, aFold, aBuiltin, aMakeSlice, aMapUpdate, aDelete, aLookup, argF, Nat.reduceBEq, Nat.reduceLT, isSh, aRes, one1, Nat.reduceMod, Nat.reducePow, Nat.reduceAdd, Nat.reduceLeDiff, Nat.reduceMul, Nat.reduceSub]
            repeat refine And.intro (by omega) ?_
            have hlm : l ≠ m := fun h => by subst h; simp at p
            exact hQ _ _ (end_plain0 (.inl rfl) hbel (x := .bool false) (ret_of Try.results15 (by simp -implicitDefEqProofs (disch := omega) only [amset, tyset, gdL, lightOf, dsts, AGd.eq_1, AGd.eq_2, ADo, lateOk, belowV, lenV, Int.reduceToNat, Int.reduceBEq, Int.reduceBNe, Int.reduceLT, Int.reduceLE, calleeOf, aop, aev, look, putF, AV.ofValue, AV.ofCell, AV.cells, AV.flat, AV.one, aAlloc, aNew, aBox, aBuild, afill, splice, aBuildSlice, arep, aLoad, ard, ards, aStore, awrite, aFieldAddr, aField, aIndexAddr, aIndex, aExtract, aBound, aSlice, aInt, aBin, aUn, aConv, aLen, aAppend, aElems, aCopy, aMin2, aMax2, aFold, aBuiltin, aMakeSlice, aMapUpdate, aDelete, aLookup, argF, Nat.reduceBEq, Nat.reduceLT, isSh, aRes, one1, Nat.reduceMod, Nat.reducePow, Nat.reduceAdd, Nat.reduceLeDiff, Nat.reduceMul, Nat.reduceSub])) rfl ⟨by simp [hlm], rfl⟩)
          · simp -implicitDefEqProofs (disch := omega) only [hii, hb, hb', q1, q2, p, amset, tyset, gdL, lightOf, dsts, AGd.eq_1, AGd.eq_2, ADo, lateOk, belowV, lenV, Int.reduceToNat, Int.reduceBEq, Int.reduceBNe, Int.reduceLT, Int.reduceLE, calleeOf, aop, aev, look, putF, AV.ofValue, AV.ofCell, AV.cells, AV.flat, AV.one, aAlloc, aNew, aBox, aBuild, afill, splice, aBuildSlice, arep, aLoad, ard, ards, aStore, awrite, aFieldAddr, aField, aIndexAddr, aIndex, aExtract, aBound, aSlice, aInt, aBin, aUn, aConv, aLen, aAppend, aElems, aCopy, aMin2, aMax2, aFold, aBuiltin, aMakeSlice, aMapUpdate, aDelete, aLookup, argF, Nat.reduceBEq, Nat.reduceLT, isSh, aRes, one1, Nat.reduceMod, Nat.reducePow, Nat.reduceAdd, Nat.reduceLeDiff, Nat.reduceMul, Nat.reduceSub]
            repeat refine And.intro (by omega) ?_
            refine hJ _ _ ⟨k - 1, by omega, _, _, _, ⟨i + 1, by omega, ?_, rfl, rfl⟩, Abs.by0 hbel ?_⟩
            · simp at p
              exact take_eq_step hi (by omega) ht p.1 p.2
            · simp -implicitDefEqProofs (disch := omega) only [absF, absH, weaker, look, AV.mv, AV.mvs, ABlk.mv, sig_new0, sig_newk, sig_lt, List.getElem?_cons_zero, List.getElem?_cons_succ, mvs_ints, mvs_bools, mvs_prs, mvs_append, cond_true, cond_false, beq_self_eq_true, Nat.reduceBEq, true_and, and_true, or_true, true_or, and_self, decide_true, Nat.add_zero, reduceCtorEq, false_or, or_false]
              repeat' (first | rfl | refine And.intro ?_ ?_ | exact Or.inl rfl | exact Or.inr rfl)
        · have hnn : ¬ ((i : Int) < (l.length : Int)) := by omega
          simp -implicitDefEqProofs (disch := omega) only [hnn, amset, tyset, gdL, lightOf, dsts, AGd.eq_1, AGd.eq_2, ADo, lateOk, belowV, lenV, Int.reduceToNat, Int.reduceBEq, Int.reduceBNe, Int.reduceLT, Int.reduceLE, calleeOf, aop, aev, look, putF, AV.ofValue, AV.ofCell, AV.cells, AV.flat, AV.one, aAlloc, aNew, aBox, aBuild, afill, splice, aBuildSlice, arep, aLoad, ard, ards, aStore, awrite, aFieldAddr, aField, aIndexAddr, aIndex, aExtract, aBound, aSlice, aInt, aBin, aUn, aConv, aLen, aAppend, aElems, aCopy, aMin2, aMax2, aFold, aBuiltin, aMakeSlice, aMapUpdate, aDelete, aLookup, argF, Nat.reduceBEq, Nat.reduceLT, isSh, aRes, one1, Nat.reduceMod, Nat.reducePow, Nat.reduceAdd, Nat.reduceLeDiff, Nat.reduceMul, Nat.reduceSub]
          have : l = m := by rwa [List.take_of_length_le (by omega), List.take_of_length_le (by omega)] at ht
          exact hQ _ _ (end_plain0 (.inl rfl) hbel (x := .bool true) (ret_of Try.results15 (by simp -implicitDefEqProofs (disch := omega) only [amset, tyset, gdL, lightOf, dsts, AGd.eq_1, AGd.eq_2, ADo, lateOk, belowV, lenV, Int.reduceToNat, Int.reduceBEq, Int.reduceBNe, Int.reduceLT, Int.reduceLE, calleeOf, aop, aev, look, putF, AV.ofValue, AV.ofCell, AV.cells, AV.flat, AV.one, aAlloc, aNew, aBox, aBuild, afill, splice, aBuildSlice, arep, aLoad, ard, ards, aStore, awrite, aFieldAddr, aField, aIndexAddr, aIndex, aExtract, aBound, aSlice, aInt, aBin, aUn, aConv, aLen, aAppend, aElems, aCopy, aMin2, aMax2, aFold, aBuiltin, aMakeSlice, aMapUpdate, aDelete, aLookup, argF, Nat.reduceBEq, Nat.reduceLT, isSh, aRes, one1, Nat.reduceMod, Nat.reducePow, Nat.reduceAdd, Nat.reduceLeDiff, Nat.reduceMul, Nat.reduceSub])) rfl ⟨by simp [this], rfl⟩)
  · have hne : ((l.length : Int) != (m.length : Int)) = true := by simp; omega
    (refine ACalls_run try_mixed Try.func15 true _ rfl (Nat.le_of_ble_eq_true (by kernel_rfl)) (by kernel_rfl) ?_; intro hbel Q hQ hQ' c hc; unfold Try.f15 at hc; simp only [Option.some.injEq] at hc; subst hc; clear hQ')
    simp -implicitDefEqProofs (disch := omega) only [hne, amset, tyset, gdL, lightOf, dsts, AGd.eq_1, AGd.eq_2, ADo, lateOk, belowV, lenV, Int.reduceToNat, Int.reduceBEq, Int.reduceBNe, Int.reduceLT, Int.reduceLE, calleeOf, aop, aev, look, putF, AV.ofValue, AV.ofCell, AV.cells, AV.flat, AV.one, aAlloc, aNew, aBox, aBuild, afill, splice, aBuildSlice, arep, aLoad, ard, ards, aStore, awrite, aFieldAddr, aField, aIndexAddr, aIndex, aExtract, aBound, aSlice, aInt, aBin, aUn, aConv, aLen, aAppend, aElems, aCopy, aMin2, aMax2, aFold, aBuiltin, aMakeSlice, aMapUpdate, aDelete, aLookup, argF, Nat.reduceBEq, Nat.reduceLT, isSh, aRes, one1, Nat.reduceMod, Nat.reducePow, Nat.reduceAdd, Nat.reduceLeDiff, Nat.reduceMul, Nat.reduceSub]
    exact hQ _ _ (end_plain0 (.inl rfl) hbel (x := .bool false) (ret_of Try.results15 (by simp -implicitDefEqProofs (disch := omega) only [amset, tyset, gdL, lightOf, dsts, AGd.eq_1, AGd.eq_2, ADo, lateOk, belowV, lenV, Int.reduceToNat, Int.reduceBEq, Int.reduceBNe, Int.reduceLT, Int.reduceLE, calleeOf, aop, aev, look, putF, AV.ofValue, AV.ofCell, AV.cells, AV.flat, AV.one, aAlloc, aNew, aBox, aBuild, afill, splice, aBuildSlice, arep, aLoad, ard, ards, aStore, awrite, aFieldAddr, aField, aIndexAddr, aIndex, aExtract, aBound, aSlice, aInt, aBin, aUn, aConv, aLen, aAppend, aElems, aCopy, aMin2, aMax2, aFold, aBuiltin, aMakeSlice, aMapUpdate, aDelete, aLookup, argF, Nat.reduceBEq, Nat.reduceLT, isSh, aRes, one1, Nat.reduceMod, Nat.reducePow, Nat.reduceAdd, Nat.reduceLeDiff, Nat.reduceMul, Nat.reduceSub])) rfl ⟨by simp; intro h; exact hlm (by rw [h]), rfl⟩)
end Go.Proofs.Ytloblgkjgcemoaa
