/- Proved: the law KnownNothing returns true on every input, and its arguments read afterwards as before. Conditions: none beyond the given row's. -/
import Derived.Test.YteieacinbfimlaaGreatG3
import Derived.Test.YteieacinbfimlaaGreatG4
namespace Go.Proofs.YteieacinbfimlaaGreat
set_option linter.unusedSimpArgs false
set_option linter.unusedVariables false
open Go.RowKit
theorem prs_load2 {l : List (Int × Int)} {i m : Nat} (h : i + m < l.length) : ((prs l).drop (i * 2 + m * 2)).take 2 = [.int .i64 (g1 l (i + m)), .int .i64 (g2 l (i + m))] := by
  rw [show i * 2 + m * 2 = (i + m) * 2 by omega]; exact prs_load h
/-- No two neighbours among the first i are equal. -/
def NoEq (l : List (Int × Int)) (i : Nat) : Prop := ∀ j : Nat, 1 ≤ j → (h : j < l.length) → j < i → l[j - 1]'(by omega) ≠ l[j]
theorem noeq_cpt {l : List (Int × Int)} : ∀ {i : Nat}, i ≤ l.length → NoEq l i → cptC (l.take i) = l.take i
  | 0, _, _ => rfl
  | 1, h, _ => cpt_1 (by rw [List.length_take]; omega)
  | i + 2, h, k => by
    rw [cpt_step (by omega) (by omega), noeq_cpt (i := i + 1) (by omega) (fun j h1 h2 h3 => k j h1 h2 (by omega)), if_neg (k (i + 1) (by omega) (by omega) (by omega)), ← List.take_succ_eq_append_getElem]
theorem padL_id (l : List (Int × Int)) : padL l.length l = l := by simp [padL]
set_option maxRecDepth 100000 in
theorem cpt_cell (H : AHeap) (b : Nat) (cap : Option Nat) (l : List (Int × Int)) (hb : H[b]? = some (.cells (ownG l.length) 2 (prs l))) (hl : l.length ≤ 1000000000) :
    ACalls Tryz.prog 149 [.sl (some (b, 0)) l.length cap] H (fun v H' => v = .sl (some (b, 0)) (cptC l).length none ∧ H' = H.set b (.cells (ownG l.length) 2 (prs (padL l.length (cptC l))))) := by
  have hbl := getElem?_lt hb
  have hset : ∀ X L, (H.set b X ++ L)[b]? = some X := fun X L => by rw [List.getElem?_append_left (by simpa using hbl), List.getElem?_set_self hbl]
  have hset0 : ∀ X, (H.set b X)[b]? = some X := fun X => List.getElem?_set_self hbl
  have hself : H.set b (.cells (ownG l.length) 2 (prs l)) = H := by
    refine List.ext_getElem? fun i => ?_
    rw [List.getElem?_set]
    split
    · rename_i e; subst e; first | exact hb.symm | (rw [if_pos hbl]; exact hb.symm)
    · rfl
  have hend : cptC l = l → H.set b (.cells (ownG l.length) 2 (prs (padL l.length (cptC l)))) = H := fun e => by rw [e, padL_id, hself]
  (refine ACalls_run try_mixed Tryz.func149 true _ rfl (Nat.le_of_ble_eq_true (by kernel_rfl)) (by kernel_rfl) ?_; intro hbel Q hQ hQ' c hc; unfold Tryz.f149 at hc; simp only [Option.some.injEq] at hc; subst hc; clear hQ')
  simp -implicitDefEqProofs (disch := omega) only [simprocAttr, amset, tyset, Function.comp_apply, one1, lenV, calleeOf, lateOk, belowV, aop, AV.ofValue, AV.ofCell, AV.cells, AV.flat, AV.one, arep, aBin, aAppend, aConv]
  refine cond_split (fun h1 => ?_) (fun h1 => ?_)
  · have h1d := of_decide_eq_true h1
    have e := cpt_1 (l := l) (by omega)
    simp -implicitDefEqProofs (disch := omega) only [h1, simprocAttr, amset, tyset, Function.comp_apply, one1, lenV, calleeOf, lateOk, belowV, aop, AV.ofValue, AV.ofCell, AV.cells, AV.flat, AV.one, arep, aBin, aAppend, aConv]
    exact hQ _ _ (end_byE (.inl rfl) hbel (x1 := .sl (some (b, 0)) l.length cap) (l2 := []) (.sl (some (b, 0)) (cptC l).length none) (resT Tryz.results149) [] rfl [] (by decide) ⟨rfl, by rw [List.append_nil, hend e]⟩ (by rw [e]; exact absW))
  · have h1d := of_decide_eq_false h1
    have hown : ownG l.length = true := ownG_p (by omega)
    rw [hown] at hb hself
    simp -implicitDefEqProofs (disch := omega) only [h1, simprocAttr, amset, tyset, Function.comp_apply, one1, lenV, calleeOf, lateOk, belowV, aop, AV.ofValue, AV.ofCell, AV.cells, AV.flat, AV.one, arep, aBin, aAppend, aConv]
    refine go_loop try_mixed (by kernel_rfl) (fun k F Hx => ∃ i : Nat, i + k = l.length ∧ 1 ≤ i ∧ NoEq l i ∧ F = [(0, .sl (some (b, 0)) l.length cap), (3, .int .i64 ((i : Nat) : Int))] ∧ H = Hx) (l.length - 1) ?_ ?_
    · refine ⟨_, _, _, ⟨1, by omega, by omega, fun j h2 h3 h4 => by omega, rfl, rfl⟩, Abs.by0 hbel ?_⟩
      exact absW
    · rintro k F Hx ⟨i, hik, hi1, hne, rfl, rfl⟩ J hJ
      by_cases hi : i < l.length
      · have hii : (i : Int) < (l.length : Int) := by omega
        have q1 := prs_load (l := l) (j := i) hi
        have q2 := prs_load (l := l) (j := i - 1) (by omega)
        have hsub : ((i : Int) - 1).toNat = i - 1 := by omega
        simp -implicitDefEqProofs (disch := omega) only [hii, hb, q1, q2, hsub, prs_len, prs_one, simprocAttr, amset, tyset, Function.comp_apply, one1, lenV, calleeOf, lateOk, belowV, aop, AV.ofValue, AV.ofCell, AV.cells, AV.flat, AV.one, arep, aBin, aAppend, aConv]
        repeat refine And.intro (by omega) ?_
        refine cond_split (fun h2 => ?_) (fun h2 => ?_)
        · have heq : l[i - 1]'(by omega) = l[i] := by
            simp only [Bool.and_eq_true, beq_iff_eq] at h2
            rw [← pr_eq hi, ← pr_eq (show i - 1 < l.length by omega), h2.1, h2.2]
          have hc0 : cptC (l.take (i + 1)) = l.take i := by rw [cpt_step hi1 hi, if_pos heq, List.append_nil, noeq_cpt (by omega) hne]
          have hcl : (cptC (l.take (i + 1))).length = i := by rw [hc0, List.length_take]; omega
          have hsl : ((i : Int) - 0).toNat = i := by omega
          simp -implicitDefEqProofs (disch := omega) only [h2, hb, prs_len, prs_one, simprocAttr, amset, tyset, Function.comp_apply, one1, lenV, calleeOf, lateOk, belowV, aop, AV.ofValue, AV.ofCell, AV.cells, AV.flat, AV.one, arep, aBin, aAppend, aConv]
          repeat refine And.intro (by omega) ?_
          refine go_loop try_mixed (by kernel_rfl) (fun k F Hx => ∃ (j c : Nat) (X : List (Int × Int)), j + k = l.length ∧ i + 1 ≤ j ∧ c = (cptC (l.take j)).length ∧ c < j ∧ X.length = l.length ∧ X.take c = cptC (l.take j) ∧ X.drop (j - 1) = l.drop (j - 1) ∧ F = [(0, .sl (some (b, 0)) l.length cap), (3, .int .i64 ((c : Nat) : Int)), (4, .sl (some (b, i * 2)) (l.length - i) none), (5, .int .i64 ((j - i : Nat) : Int))] ∧ Hx = H.set b (.cells true 2 (prs X))) (l.length - (i + 1)) ?_ ?_
          · refine ⟨_, _, _, ⟨i + 1, i, l, by omega, by omega, hcl.symm, by omega, rfl, hc0.symm, rfl, rfl, rfl⟩, Abs.by0e hself hbel ?_⟩
            have hi1' : ((i + 1 - i : Nat) : Int) = 1 := by omega
            exact absWf @hi1'
          · rintro k F Hx ⟨j, c, X, hjk, hij, hc, hcj, hXl, hXt, hXd, rfl, rfl⟩ J2 hJ2
            obtain ⟨G, hG⟩ : ∃ G, G = H.set b (.cells true 2 (prs X)) := ⟨_, rfl⟩
            have hGl : G.length = H.length := by rw [hG, List.length_set]
            have hG1 : ∀ L, (G ++ L)[b]? = some (.cells true 2 (prs X)) := fun L => by rw [hG]; exact hset _ _
            have hG0 : G[b]? = some (.cells true 2 (prs X)) := by rw [hG]; exact hset0 _
            have hbG : b < G.length := by omega
            have hGs0 : ∀ Y, G.set b Y = H.set b Y := fun Y => by rw [hG, List.set_set]
            have hGs : ∀ Y L, (G ++ L).set b Y = H.set b Y ++ L := fun Y L => by rw [List.set_append_left _ _ hbG, hG, List.set_set]
            rw [← hG]
            have hbelG : HBel H.length G := by rw [hG]; exact HBel.put hbel b bels_prs
            by_cases hj : j < l.length
            · have hjj : ((j - i : Nat) : Int) < ((l.length - i : Nat) : Int) := by omega
              have hXj : ∀ q, j - 1 ≤ q → (hq : q < l.length) → X[q]'(by omega) = l[q] := fun q h1 hq => by
                have := congrArg (fun m => m[q - (j - 1)]?) hXd
                simp only [List.getElem?_drop] at this
                rw [show j - 1 + (q - (j - 1)) = q by omega, List.getElem?_eq_getElem (by omega), List.getElem?_eq_getElem hq] at this
                exact Option.some.inj this
              have q3 := prs_load2 (l := X) (i := i) (m := j - i) (by omega)
              have q4 := prs_load2 (l := X) (i := i) (m := j - i - 1) (by omega)
              have hsub2 : (((j - i : Nat) : Int) - 1).toNat = j - i - 1 := by omega
              rw [show i + (j - i) = j by omega] at q3
              rw [show i + (j - i - 1) = j - 1 by omega] at q4
              simp -implicitDefEqProofs (disch := omega) only [hjj, hG1, hG0, q3, q4, hsub2, prs_len, prs_one, simprocAttr, amset, tyset, Function.comp_apply, one1, lenV, calleeOf, lateOk, belowV, aop, AV.ofValue, AV.ofCell, AV.cells, AV.flat, AV.one, arep, aBin, aAppend, aConv]
              repeat refine And.intro (by omega) ?_
              have hst := cpt_step (l := l) (j := j) (by omega) hj
              have hcX : c < X.length := by omega
              have hjj2 : ((j + 1 - i : Nat) : Int) = ((j - i : Nat) : Int) + 1 := by omega
              have hpj := pr_eq (l := X) (j := j) (by omega)
              have hpj1 := pr_eq (l := X) (j := j - 1) (by omega)
              have hp2 := prs_set2 (a := g1 X j) (b := g2 X j) hcX
              have hXd2 : X.drop j = l.drop j := by
                have := congrArg (fun m => m.drop 1) hXd
                simp only [List.drop_drop] at this
                rwa [show j - 1 + 1 = j by omega] at this
              refine cond_split (fun h3 => ?_) (fun h3 => ?_)
              · have hdif : ¬ l[j - 1]'(by omega) = l[j] := fun e => by
                  rw [← hXj (j - 1) (by omega) (by omega), ← hXj j (by omega) hj, ← hpj, ← hpj1] at e
                  simp only [Prod.mk.injEq] at e
                  rw [e.1, e.2] at h3
                  simp at h3
                rw [if_neg hdif] at hst
                have hl5 : (cptC (l.take (j + 1))).length = c + 1 := by rw [hst, List.length_append, hc]; rfl
                simp -implicitDefEqProofs (disch := omega) only [h3, hG1, hG0, hGs, hGs0, q3, hp2, prs_len, prs_one, simprocAttr, amset, tyset, Function.comp_apply, one1, lenV, calleeOf, lateOk, belowV, aop, AV.ofValue, AV.ofCell, AV.cells, AV.flat, AV.one, arep, aBin, aAppend, aConv]
                repeat refine And.intro (by omega) ?_
                refine hJ2 _ _ ⟨k - 1, by omega, _, _, _, ⟨j + 1, c + 1, X.set c (g1 X j, g2 X j), by omega, by omega, hl5.symm, by omega, by rw [List.length_set]; exact hXl, ?_, ?_, rfl, rfl⟩, Abs.byS0 (by rw [List.length_set]) (HBel.put hbel b bels_prs) ?_⟩
                · rw [hst, List.take_succ_eq_append_getElem (by rw [List.length_set]; exact hcX), List.getElem_set_self, List.take_set_of_le (Nat.le_refl _), hXt, hpj, hXj j (by omega) hj]
                · rw [show j + 1 - 1 = j by omega, List.drop_set_of_lt (by omega), hXd2]
                exact absWf (jn @hjj2 (jn @Int.natCast_add @Int.natCast_one))
              · have heq2 : l[j - 1]'(by omega) = l[j] := by
                  rw [← hXj (j - 1) (by omega) (by omega), ← hXj j (by omega) hj, ← hpj, ← hpj1]
                  simp only [Bool.not_eq_false', Bool.and_eq_true, beq_iff_eq] at h3
                  rw [h3.1, h3.2]
                rw [if_pos heq2, List.append_nil] at hst
                simp -implicitDefEqProofs (disch := omega) only [h3, simprocAttr, amset, tyset, Function.comp_apply, one1, lenV, calleeOf, lateOk, belowV, aop, AV.ofValue, AV.ofCell, AV.cells, AV.flat, AV.one, arep, aBin, aAppend, aConv]
                refine hJ2 _ _ ⟨k - 1, by omega, _, _, _, ⟨j + 1, c, X, by omega, by omega, by rw [hst]; exact hc, by omega, hXl, by rw [hst]; exact hXt, by rw [show j + 1 - 1 = j by omega]; exact hXd2, rfl, hG⟩, Abs.byS0 hGl hbelG ?_⟩
                exact absWf (jn @hjj2 (jn @Int.natCast_add @Int.natCast_one))
            · have hjj : ¬ ((j - i : Nat) : Int) < ((l.length - i : Nat) : Int) := by omega
              have hrep := (prs_rep (m := l.length - c)).symm
              have hne0 : (l.length - c == 0) = false := beq_eq_false_iff_ne.2 (by omega)
              have hspl := splice_prs (l := X) (ys := List.replicate (l.length - c) (0, 0)) (i := c) (by rw [List.length_replicate]; omega)
              rw [hXt] at hspl
              simp -implicitDefEqProofs (disch := omega) only [hjj, hG1, hG0, hrep, hne0, hspl, hGs0, prs_len, prs_one, List.length_replicate, hset0, simprocAttr, amset, tyset, Function.comp_apply, one1, lenV, calleeOf, lateOk, belowV, aop, AV.ofValue, AV.ofCell, AV.cells, AV.flat, AV.one, arep, aBin, aAppend, aConv]
              refine ⟨by omega, ⟨by omega, .inl (Nat.le_refl _)⟩, by omega, by omega, ⟨by omega, .inl (by omega)⟩, ?_⟩
              obtain rfl : j = l.length := by omega
              rw [List.take_length] at hc ⊢
              refine hQ _ _ (end_byS (by rw [List.length_set]) (.inl rfl) (HBel.put hbel b bels_prs) (x1 := .sl (some (b, 0)) (c - 0) (Option.map (fun x => x - 0) cap)) (.sl (some (b, 0)) (cptC l).length none) (resT Tryz.results149) ⟨rfl, by rw [hown, hc]; rfl⟩ ?_)
              exact absWf (jn @hc @Nat.sub_zero)
        · have hdif : ¬ l[i - 1]'(by omega) = l[i] := fun e => by
            rw [← pr_eq hi, ← pr_eq (show i - 1 < l.length by omega)] at e
            simp only [Prod.mk.injEq] at e
            rw [e.1, e.2] at h2
            simp at h2
          simp -implicitDefEqProofs (disch := omega) only [h2, simprocAttr, amset, tyset, Function.comp_apply, one1, lenV, calleeOf, lateOk, belowV, aop, AV.ofValue, AV.ofCell, AV.cells, AV.flat, AV.one, arep, aBin, aAppend, aConv]
          refine hJ _ _ ⟨k - 1, by omega, _, _, _, ⟨i + 1, by omega, by omega, fun j h3 h4 h5 => by
            rcases Nat.lt_or_ge j i with h6 | h6
            · exact hne j h3 h4 h6
            · obtain rfl : j = i := by omega
              exact hdif, rfl, rfl⟩, Abs.by0 hbel ?_⟩
          exact absWf (jn @Int.natCast_add @Int.natCast_one)
      · have hii : ¬ (i : Int) < (l.length : Int) := by omega
        obtain rfl : i = l.length := by omega
        have e : cptC l = l := by have := noeq_cpt (Nat.le_refl _) hne; rwa [List.take_length] at this
        simp -implicitDefEqProofs (disch := omega) only [hii, simprocAttr, amset, tyset, Function.comp_apply, one1, lenV, calleeOf, lateOk, belowV, aop, AV.ofValue, AV.ofCell, AV.cells, AV.flat, AV.one, arep, aBin, aAppend, aConv]
        exact hQ _ _ (end_byE (.inl rfl) hbel (x1 := .sl (some (b, 0)) l.length cap) (l2 := []) (.sl (some (b, 0)) (cptC l).length none) (resT Tryz.results149) [] rfl [] (by decide) ⟨rfl, by rw [List.append_nil, hend e]⟩ (by rw [e]; exact absW))
open Go.RowKit
set_option maxHeartbeats 4000000
set_option maxRecDepth 100000
theorem bits0_c (H : AHeap) : ACalls Tryz.prog 223 [.int .u64 0] H (fun v H' => v = .int .i64 0 ∧ H' = H) := by
  have h := ext_ok 223 [.int .u64 0] H (.int .i64 0) none (by kernel_rfl)
  exact h.2.2
theorem ins0_c (H : AHeap) (s : AV)   (g : FuncId) (hs : Sl H 2 s 0 []) : ACalls Tryz.prog 269 [s, .int .i64 0, .int .i64 0, .fn g []] H (fun v H' => v = .tup [] ∧ H' = H) := by
  obtain ⟨bs, os, cs, rfl, hbs⟩ := hs
  have hbls := getElem?_lt hbs
  have hb0s := fun l => get_app (l := l) hbs
  refine AcN true Tryz.func269 ?_; intro hbel Q hQ
  have g'1 := (jn @hbs @hb0s)
  refine runTf g'1 ?_
  refine go_loop try_mixed (by kernel_rfl) (fun k F Hx => ∃ z : Unit, k = 0 ∧ F = [(0, .sl (some (bs, 0)) 0 cs), (1, .int .i64 0), (2, .int .i64 0), (3, .fn g []), (8, .int .i64 1)] ∧ H = Hx) (0) ?_ ?_
  · refine ⟨_, _, _, ⟨(), by omega, rfl, rfl⟩, Abs.by0 hbel ?_⟩
    exact absW
  · rintro k0 F Hx ⟨z, hm0, rfl, rfl⟩ J0 hJ0
    refine runTf g'1 ?_
    exact hQ _ _ (end_plain0 (by first | exact .inl rfl | exact .inr rfl) hbel (x := .tup []) (resT Tryz.results269) rfl ⟨rfl, rfl⟩)
theorem pdq0_c (H : AHeap) (s : AV)   (m : Int) (g : FuncId) (hs : Sl H 2 s 0 []) : ACalls Tryz.prog 222 [s, .int .i64 0, .int .i64 0, .int .i64 m, .fn g []] H (fun v H' => v = .tup [] ∧ H' = H) := by
  obtain ⟨bs, os, cs, rfl, hbs⟩ := hs
  have hbls := getElem?_lt hbs
  have hb0s := fun l => get_app (l := l) hbs
  refine AcT true Tryz.func222 ?_; intro hbel Q hQ
  have g'2 := (jn @hbs @hb0s)
  refine runTf g'2 ?_
  refine go_loop try_mixed (by kernel_rfl) (fun k F Hx => ∃ z : Unit, k = 0 ∧ F = [(0, .sl (some (bs, 0)) 0 cs), (1, .int .i64 0), (2, .int .i64 0), (3, .int .i64 m), (4, .fn g []), (10, .bool true), (11, .bool true)] ∧ H = Hx) (0) ?_ ?_
  · refine ⟨_, _, _, ⟨(), by omega, rfl, rfl⟩, Abs.by0 hbel ?_⟩
    exact absW
  · rintro k0 F Hx ⟨z, hm0, rfl, rfl⟩ J0 hJ0
    refine runTf g'2 ?_
    refine call_v (by kernel_rfl) (ins0_c _ _ g ⟨_, _, _, rfl, by first | exact hb0s _ | exact hbs⟩) ?_
    refine runTf g'2 ?_
    exact hQ _ _ (end_plain0 (.inl rfl) hbel (x := .tup []) (resT Tryz.results222) rfl ⟨rfl, rfl⟩)
theorem srt0_c (H : AHeap) (s : AV) (g : FuncId) (hs : Sl H 2 s 0 []) : ACalls Tryz.prog 147 [s, .fn g []] H (fun v H' => v = .tup [] ∧ H' = H) := by
  obtain ⟨bs, os, cs, rfl, hbs⟩ := hs
  have hbls := getElem?_lt hbs
  have hb0s := fun l => get_app (l := l) hbs
  refine AcN true Tryz.func147 ?_; intro hbel Q hQ
  have g'3 := (jn @hbs @hb0s)
  refine runTf g'3 ?_
  refine call_v (by kernel_rfl) (bits0_c _) ?_
  refine runTf g'3 ?_
  refine call_v (by kernel_rfl) (pdq0_c _ _ 0 g ⟨_, _, _, rfl, by first | exact hb0s _ | exact hbs⟩) ?_
  refine runTf g'3 ?_
  exact hQ _ _ (end_plain0 (by first | exact .inl rfl | exact .inr rfl) hbel (x := .tup []) (resT Tryz.results147) rfl ⟨rfl, rfl⟩)
open Go.RowKit
theorem srtk_c (H : AHeap) (b : Nat) (cap : Option Nat) (l : List (Int × Int)) (hb : H[b]? = some (.cells (ownG l.length) 2 (prs l))) (h1 : l.length ≤ 1000000) :
    ACalls Tryz.prog 147 [.sl (some (b, 0)) l.length cap, .fn 148 []] H (fun v H' => v = .tup [] ∧ H' = H.set b (.cells (ownG l.length) 2 (prs (srtC l)))) := by
  rcases Nat.eq_zero_or_pos l.length with h0 | h0
  · obtain rfl := List.eq_nil_of_length_eq_zero h0
    rw [srtC_nil]
    have hself : H.set b (.cells (ownG ([] : List (Int × Int)).length) 2 (prs [])) = H := by
      refine List.ext_getElem? fun i => ?_
      rw [List.getElem?_set]
      split
      · rename_i e; subst e; first | exact hb.symm | (rw [if_pos (getElem?_lt hb)]; exact hb.symm)
      · rfl
    rw [hself]
    exact srt0_c H _ _ ⟨b, _, cap, rfl, hb⟩
  · rw [ownG_p h0] at hb ⊢
    exact sortc_c H b cap l hb h0 h1
theorem cptk_c (H : AHeap) (b : Nat) (cap : Option Nat) (l : List (Int × Int)) (hb : H[b]? = some (.cells (ownG l.length) 2 (prs (srtC l)))) (h1 : l.length ≤ 1000000) :
    ACalls Tryz.prog 149 [.sl (some (b, 0)) l.length cap] H (fun v H' => v = .sl (some (b, 0)) (cptC (srtC l)).length none ∧ H' = H.set b (.cells (ownG l.length) 2 (prs (padL (srtC l).length (cptC (srtC l)))))) := by
  have h := cpt_cell H b cap (srtC l) (by rw [srtC_len]; exact hb) (by rw [srtC_len]; omega)
  rw [srtC_len l] at h ⊢
  exact h
theorem kall_c (H : AHeap) (W : Int) (Hh : Int) (pp : AV) (xs : List Int) (s : AV) (l : List T6) (q : AV) (sc : List (Int × Int)) (g : Int) (hpp : Sl H 1 pp xs.length (ints .u8 xs)) (hs : Sl H 6 s l.length (r6 l)) (hq : Sl H 2 q sc.length (prs sc)) (hV : vldB W Hh xs = true) (hS : setB l = true) (hl0 : 0 < l.length) (hsB : scnB sc = true) (hg : 1 ≤ g ∧ g ≤ 32) : ACalls Tryz.prog 69 [.agg [.int .i64 W, .int .i64 Hh, pp], s, q, .int .i64 g] H (fun v H' => v = .sl (some (H.length, 0)) ((allL W Hh l sc g).length) none ∧ H' = H ++ [.cells (ownG (rowA W Hh l sc g).length) 2 (prs (allL W Hh l sc g))]) := by
  obtain ⟨bpp, opp, cpp, rfl, hbpp⟩ := hpp
  have hblpp := getElem?_lt hbpp
  have hb0pp := fun l => get_app (l := l) hbpp
  obtain ⟨bs, os, cs, rfl, hbs⟩ := hs
  have hbls := getElem?_lt hbs
  have hb0s := fun l => get_app (l := l) hbs
  obtain ⟨bq, oq, cq, rfl, hbq⟩ := hq
  have hblq := getElem?_lt hbq
  have hb0q := fun l => get_app (l := l) hbq
  have hsc := scnB_iff.1 hsB
  have hpl := prS_len W Hh l sc g sc.length
  refine AcT false Tryz.func69 ?_; intro hbel Q hQ
  have g'1 := (jn @hbpp (jn @hb0pp (jn @hbs (jn @hb0s (jn @hbq @hb0q)))))
  refine runTf g'1 ?_
  refine call_v (by kernel_rfl) (ktaught_c _ _ l ⟨_, _, _, rfl, by first | exact hb0s _ | exact hbs⟩ (by assumption)) ?_
  refine runTf g'1 ?_
  refine cond_split (fun h1 => ?_) (fun h1 => ?_)
  · have h1d := bsT h1
    have hfinA := allL_nil (W := W) (Hh := Hh) (sc := sc) (g := g) h1d
    have g'2 := (jn @h1 (jn @h1d g'1))
    refine runTf g'2 ?_
    refine hQ _ _ (end_byG (.inl rfl) hbel (x1 := .sl none 0 (some 0)) (l2 := [.cells false 2 []]) (.sl (some (H.length, 0)) 0 none) (resT Tryz.results69) [.cells false 2 []] rfl [1] (by decide) ⟨by first | (rw [hfinA.1]; done) | (rw [hfinA.1]; rfl) | rfl | (unfold allL; rw [hfinB]; done) | (unfold susL; rw [hfinB]; done) | skip, by first | (rw [hfinA.1, hfinA.2]; rfl) | (unfold allL; rw [hfinB]; rfl) | (unfold allL; rw [hfinB]; done) | skip⟩ ?_)
    exact absWf @prs_padL
  · have h1d := bsT h1
    have htau := h1d
    have hfinB : rowA W Hh l sc g = prS W Hh l sc g sc.length := if_pos htau
    have g'3 := (jn @h1 (jn @h1d g'1))
    refine runTf g'3 ?_
    refine go_loop try_mixed (by kernel_rfl) (fun k F Hx => ∃ i : Nat, i + k = sc.length ∧ F = [(1, .sl (some (bs, 0)) l.length cs), (3, .int .i64 g), (4, .ptr (some (H.length, 0))), (9, .sl (some (H.length + 1, 0)) ((prS W Hh l sc g i).length) (capG (prS W Hh l sc g i).length)), (15, .sl (some (bq, 0)) sc.length cq), (16, .int .i64 ((sc.length : Nat) : Int)), (17, .int .i64 ((i : Nat) : Int))] ∧ Hx = H ++ [.cells true 0 [.int .i64 W, .int .i64 Hh, .sl (some (bpp, 0)) xs.length cpp], .cells (ownG (prS W Hh l sc g i).length) 2 (prs (prS W Hh l sc g i))]) (sc.length) ?_ ?_
    · refine ⟨_, _, _, ⟨0, by omega, rfl, rfl⟩, Abs.byG hbel [.cells false 2 []] rfl [0, 1] (by decide) ?_⟩
      exact absRf @prS.eq_1
    · rintro k0 F Hx ⟨i, hm0, rfl, rfl⟩ J0 hJ0
      have g'4 := (jn @prs_len (jn @prs_one g'3))
      refine runTf g'4 ?_
      refine cond_split (fun h2 => ?_) (fun h2 => ?_)
      · have h2d := bsT h2
        have hlt : i < sc.length := by omega
        have hbi := beaB_iff.1 (hsc.2 _ (List.getElem_mem hlt))
        rw [← pr_eq hlt] at hbi
        have hpi := prS_len W Hh l sc g i
        have hvl := prvL_len W Hh l (g1 sc i) (g2 sc i) g
        have q3 := prs_load (l := sc) (j := i) (by omega)
        have g'5 := (jn @h2 (jn @h2d (jn @q3 g'4)))
        refine runTf g'5 ?_
        refine call_v (by kernel_rfl) (proven_c _ W Hh _ xs _ l (g1 sc i) (g2 sc i) g ⟨_, _, _, rfl, by first | exact hb0pp _ | exact hbpp⟩ ⟨_, _, _, rfl, by first | exact hb0s _ | exact hbs⟩ hV hS hl0 (by omega) (by omega)) ?_
        rcases Nat.eq_zero_or_pos ((prvL W Hh l (g1 sc i) (g2 sc i) g).length) with h4 | h4
        · have h4e : prvL W Hh l (g1 sc i) (g2 sc i) g = [] := List.eq_nil_of_length_eq_zero h4
          rcases Nat.eq_zero_or_pos ((prS W Hh l sc g i).length) with h5 | h5
          · have h5e : prS W Hh l sc g i = [] := List.eq_nil_of_length_eq_zero h5
            have g'6 := (jn @h4 (jn @h5 (jn @capG_0 (jn @ownG_0 g'5))))
            refine runTf g'6 ?_
            refine hJ0 _ _ ⟨k0 - 1, by omega, _, _, _, ⟨i + 1, by omega, rfl, rfl⟩, Abs.byG hbel [] rfl [0, 1] (by decide) ?_⟩
            exact absRf (jn @prS.eq_2 (jn @List.append_nil.{0} (jn @h4e @h5e)))
          · have h5c := capG_p h5
            have h5o := ownG_p h5
            have h5z : ((prS W Hh l sc g i).length == 0) = false := beq_eq_false_iff_ne.2 (by omega)
            have g'7 := (jn @h4 (jn @h5c (jn @h5o (jn @h5z (jn @prs_all g'5)))))
            refine runTf g'7 ?_
            refine hJ0 _ _ ⟨k0 - 1, by omega, _, _, _, ⟨i + 1, by omega, rfl, rfl⟩, Abs.byG hbel [] rfl [0, 4] (by decide) ?_⟩
            exact absRf (jn @prS.eq_2 (jn @List.append_nil.{0} (jn @h4e (jn @h5c (jn @h5o @Nat.add_zero)))))
        · have h4z : decide (0 < (prvL W Hh l (g1 sc i) (g2 sc i) g).length) = true := decide_eq_true h4
          have h4c := capG_p (n := (prS W Hh l sc g i).length + (prvL W Hh l (g1 sc i) (g2 sc i) g).length) (by omega)
          have h4o := ownG_p (n := (prS W Hh l sc g i).length + (prvL W Hh l (g1 sc i) (g2 sc i) g).length) (by omega)
          have g'8 := (jn @h4 (jn @h4z (jn @prs_all g'5)))
          refine runTf g'8 ?_
          refine hJ0 _ _ ⟨k0 - 1, by omega, _, _, _, ⟨i + 1, by omega, rfl, rfl⟩, Abs.byG hbel [] rfl [0, 4] (by decide) ?_⟩
          exact absRf (jn @prS.eq_2 (jn @List.append_nil.{0} (jn @h4c @h4o)))
      · have h2d := bsT h2
        obtain rfl : i = sc.length := by omega
        have g'9 := (jn @h2 (jn @h2d g'4))
        refine runTf g'9 ?_
        refine call_v (by kernel_rfl) (srtk_c _ _ _ (prS W Hh l sc g sc.length) (by first | (rw [get_newk]; rfl) | (rw [get_new0]; rfl) | rfl) (by omega)) ?_
        refine runTf g'9 ?_
        refine call_v (by kernel_rfl) (cptk_c _ _ _ (prS W Hh l sc g sc.length) (by first | (rw [get_newk]; rfl) | (rw [get_new0]; rfl) | rfl) (by omega)) ?_
        refine runTf g'9 ?_
        refine hQ _ _ (end_byG (.inl rfl) hbel (x1 := .sl (some (H.length + 1, 0)) ((cptC (srtC (prS W Hh l sc g sc.length))).length) none) (l2 := [.cells (ownG (prS W Hh l sc g sc.length).length) 2 (prs (cptC (srtC (prS W Hh l sc g sc.length))))]) (.sl (some (H.length, 0)) ((cptC (srtC (prS W Hh l sc g sc.length))).length) none) (resT Tryz.results69) [] rfl [1] (by decide) ⟨by first | (rw [hfinA.1]; done) | (rw [hfinA.1]; rfl) | rfl | (unfold allL; rw [hfinB]; done) | (unfold susL; rw [hfinB]; done) | skip, by first | (rw [hfinA.1, hfinA.2]; rfl) | (unfold allL; rw [hfinB]; rfl) | (unfold allL; rw [hfinB]; done) | skip⟩ ?_)
        exact absWf @prs_padL
open Go.RowKit
theorem ksus_c (H : AHeap) (s : AV) (l : List T6) (m : Int) (r : Int) (g : Int) (hs : Sl H 6 s l.length (r6 l)) (hS : setB l = true) (hr : -1 ≤ r ∧ r ≤ 1024) (hg : 1 ≤ g ∧ g ≤ 32) : ACalls Tryz.prog 74 [s, .agg [.int .i64 m, .int .i64 r], .int .i64 g] H (fun v H' => v = .sl (some (H.length, 0)) ((susL l m r g).length) none ∧ H' = H ++ [.cells (ownG (rowU l m r g).length) 2 (prs (susL l m r g))]) := by
  obtain ⟨bs, os, cs, rfl, hbs⟩ := hs
  have hbls := getElem?_lt hbs
  have hb0s := fun l => get_app (l := l) hbs
  have hda := dirA_len hS m
  have hsl := swS_len (dirA l m) r g (dirA l m).length
  have hpair : ∀ j', j' < (dirA l m).length → bxB (g91 (dirA l m) j') (g92 (dirA l m) j') (g93 (dirA l m) j') (g94 (dirA l m) j') (g95 (dirA l m) j') (g96 (dirA l m) j') = true := fun j' hj' => by
    have k := dirA_ok hS (g9_mem hj')
    unfold pairB at k; rw [Bool.and_eq_true] at k; exact k.1
  refine AcT false Tryz.func74 ?_; intro hbel Q hQ
  have g'1 := (jn @hbs @hb0s)
  refine runTf g'1 ?_
  refine gd_split (fun h1 => ?_) (fun h1 => ?_)
  · have h1d := bsT h1
    have h1n := bnT h1
    have hr1 : ¬ r = -1 := by simpa using h1d
    have g'2 := (jn @h1 (jn @h1n (jn @int_bne (jn @int_beq g'1))))
    refine runTf g'2 ?_
    refine call_v (by kernel_rfl) (ktaught_c _ _ l ⟨_, _, _, rfl, by first | exact hb0s _ | exact hbs⟩ (by assumption)) ?_
    refine runTf g'2 ?_
    refine cond_split (fun h2 => ?_) (fun h2 => ?_)
    · have h2d := bsT h2
      have hfinA := susL_nil (l := l) (m := m) (r := r) (g := g) (.inr h2d)
      have g'3 := (jn @h2 (jn @h2d g'2))
      refine runTf g'3 ?_
      refine hQ _ _ (end_byG (.inl rfl) hbel (x1 := .sl none 0 (some 0)) (l2 := [.cells false 2 []]) (.sl (some (H.length, 0)) 0 none) (resT Tryz.results74) [.cells false 2 []] rfl [1] (by decide) ⟨by first | (rw [hfinA.1]; done) | (rw [hfinA.1]; rfl) | (unfold susL; rw [hfinB]; done) | skip, by first | (rw [hfinA.1, hfinA.2]; rfl) | (unfold susL; rw [hfinB]; rfl) | (unfold susL; rw [hfinB]; done) | skip⟩ ?_)
      exact absWf @prs_padL
    · have h2d := bsT h2
      have htau := h2d
      have hdt := dirA_tau hS htau m
      have hfinB : rowU l m r g = swS (dirA l m) r g (dirA l m).length := by unfold rowU; rw [decide_eq_false hr1, htau]; rfl
      have g'4 := (jn @h2 (jn @h2d g'2))
      refine runTf g'4 ?_
      refine call_v (by kernel_rfl) (directed_c _ _ l m r ⟨_, _, _, rfl, by first | exact hb0s _ | exact hbs⟩ (by assumption)) ?_
      refine runTf g'4 ?_
      refine go_loop try_mixed (by kernel_rfl) (fun k F Hx => ∃ i : Nat, i + k = (dirA l m).length ∧ F = [(2, .int .i64 g), (4, .ptr (some (H.length, 0))), (7, .sl (some (H.length + 2, 0)) ((swS (dirA l m) r g i).length) (capG (swS (dirA l m) r g i).length)), (22, .sl (some (H.length + 1, 0)) ((dirA l m).length) (capG (dirA l m).length)), (23, .int .i64 (((dirA l m).length : Nat) : Int)), (24, .int .i64 ((i : Nat) : Int))] ∧ Hx = H ++ [.cells true 0 [.int .i64 m, .int .i64 r], .cells (ownG (dirA l m).length) 9 (r9 (dirA l m)), .cells (ownG (swS (dirA l m) r g i).length) 2 (prs (swS (dirA l m) r g i))]) ((dirA l m).length) ?_ ?_
      · refine ⟨_, _, _, ⟨0, by omega, rfl, rfl⟩, Abs.byG hbel [.cells false 2 []] rfl [0, 1, 2] (by decide) ?_⟩
        exact absRf (jn @swS.eq_1 (jn @r9_append (jn @r9_cons (jn @r9_nil @mvs_r9))))
      · rintro k0 F Hx ⟨i, hm0, rfl, rfl⟩ J0 hJ0
        have g'5 := (jn @r9_len (jn @r9_one (jn @prs_len (jn @prs_one g'4))))
        refine runTf g'5 ?_
        refine cond_split (fun h3 => ?_) (fun h3 => ?_)
        · have h3d := bsT h3
          have hpi := hpair i (by omega)
          have hsi := swS_len (dirA l m) r g i
          have hvl := sptL_len (g91 (dirA l m) i) (g92 (dirA l m) i) (g93 (dirA l m) i) (g94 (dirA l m) i) (g97 (dirA l m) i) (g98 (dirA l m) i) (g99 (dirA l m) i) (if 0 < r - g then r - g else 0) (r + g)
          have q4 := r9_load (l := dirA l m) (j := i) (by omega)
          have g'6 := (jn @h3 (jn @h3d (jn @q4 g'5)))
          refine runTf g'6 ?_
          refine call_d (by kernel_rfl) (rect_c _ (g91 (dirA l m) i) (g92 (dirA l m) i) (g93 (dirA l m) i) (g94 (dirA l m) i) (g95 (dirA l m) i) (g96 (dirA l m) i) hpi) ?_
          refine runTf g'6 ?_
          refine call_x (by kernel_rfl) (by simp) (swept_c _ (g91 (dirA l m) i) (g92 (dirA l m) i) (g93 (dirA l m) i) (g94 (dirA l m) i) (g97 (dirA l m) i) (g98 (dirA l m) i) (g99 (dirA l m) i) (if 0 < (r - g) then (r - g) else 0) (r + g)) ?_
          rcases Nat.eq_zero_or_pos ((sptL (g91 (dirA l m) i) (g92 (dirA l m) i) (g93 (dirA l m) i) (g94 (dirA l m) i) (g97 (dirA l m) i) (g98 (dirA l m) i) (g99 (dirA l m) i) (if 0 < (r - g) then (r - g) else 0) (r + g)).length) with h5 | h5
          · have h5e : sptL (g91 (dirA l m) i) (g92 (dirA l m) i) (g93 (dirA l m) i) (g94 (dirA l m) i) (g97 (dirA l m) i) (g98 (dirA l m) i) (g99 (dirA l m) i) (if 0 < (r - g) then (r - g) else 0) (r + g) = [] := List.eq_nil_of_length_eq_zero h5
            rcases Nat.eq_zero_or_pos ((swS (dirA l m) r g i).length) with h6 | h6
            · have h6e : swS (dirA l m) r g i = [] := List.eq_nil_of_length_eq_zero h6
              have g'7 := (jn @h5 (jn @h6 (jn @capG_0 (jn @ownG_0 g'6))))
              refine runTf g'7 ?_
              refine hJ0 _ _ ⟨k0 - 1, by omega, _, _, _, ⟨i + 1, by omega, rfl, rfl⟩, Abs.byG hbel [] rfl [0, 1, 2] (by decide) ?_⟩
              exact absRf (jn @swS.eq_2 (jn @List.append_nil.{0} (jn @h5e (jn @h6e (jn @r9_append (jn @r9_cons (jn @r9_nil @mvs_r9)))))))
            · have h6c := capG_p h6
              have h6o := ownG_p h6
              have h6z : ((swS (dirA l m) r g i).length == 0) = false := beq_eq_false_iff_ne.2 (by omega)
              have g'8 := (jn @h5 (jn @h6c (jn @h6o (jn @h6z (jn @prs_all g'6)))))
              refine runTf g'8 ?_
              refine hJ0 _ _ ⟨k0 - 1, by omega, _, _, _, ⟨i + 1, by omega, rfl, rfl⟩, Abs.byG hbel [] rfl [0, 1, 5] (by decide) ?_⟩
              exact absRf (jn @swS.eq_2 (jn @List.append_nil.{0} (jn @h5e (jn @h6c (jn @h6o (jn @Nat.add_zero (jn @r9_append (jn @r9_cons (jn @r9_nil @mvs_r9)))))))))
          · have h5z : decide (0 < (sptL (g91 (dirA l m) i) (g92 (dirA l m) i) (g93 (dirA l m) i) (g94 (dirA l m) i) (g97 (dirA l m) i) (g98 (dirA l m) i) (g99 (dirA l m) i) (if 0 < (r - g) then (r - g) else 0) (r + g)).length) = true := decide_eq_true h5
            have h5c := capG_p (n := (swS (dirA l m) r g i).length + (sptL (g91 (dirA l m) i) (g92 (dirA l m) i) (g93 (dirA l m) i) (g94 (dirA l m) i) (g97 (dirA l m) i) (g98 (dirA l m) i) (g99 (dirA l m) i) (if 0 < (r - g) then (r - g) else 0) (r + g)).length) (by omega)
            have h5o := ownG_p (n := (swS (dirA l m) r g i).length + (sptL (g91 (dirA l m) i) (g92 (dirA l m) i) (g93 (dirA l m) i) (g94 (dirA l m) i) (g97 (dirA l m) i) (g98 (dirA l m) i) (g99 (dirA l m) i) (if 0 < (r - g) then (r - g) else 0) (r + g)).length) (by omega)
            have g'9 := (jn @h5 (jn @h5z (jn @prs_all g'6)))
            refine runTf g'9 ?_
            refine hJ0 _ _ ⟨k0 - 1, by omega, _, _, _, ⟨i + 1, by omega, rfl, rfl⟩, Abs.byG hbel [] rfl [0, 1, 5] (by decide) ?_⟩
            exact absRf (jn @swS.eq_2 (jn @List.append_nil.{0} (jn @h5c (jn @h5o (jn @r9_append (jn @r9_cons (jn @r9_nil @mvs_r9)))))))
        · have h3d := bsT h3
          obtain rfl : i = (dirA l m).length := by omega
          have g'10 := (jn @h3 (jn @h3d g'5))
          refine runTf g'10 ?_
          refine call_v (by kernel_rfl) (srtk_c _ _ _ (swS (dirA l m) r g (dirA l m).length) (by first | (rw [get_newk]; rfl) | (rw [get_new0]; rfl) | rfl) (by omega)) ?_
          refine runTf g'10 ?_
          refine call_v (by kernel_rfl) (cptk_c _ _ _ (swS (dirA l m) r g (dirA l m).length) (by first | (rw [get_newk]; rfl) | (rw [get_new0]; rfl) | rfl) (by omega)) ?_
          refine runTf g'10 ?_
          refine hQ _ _ (end_byG (.inl rfl) hbel (x1 := .sl (some (H.length + 2, 0)) ((cptC (srtC (swS (dirA l m) r g (dirA l m).length))).length) none) (l2 := [.cells (ownG (swS (dirA l m) r g (dirA l m).length).length) 2 (prs (cptC (srtC (swS (dirA l m) r g (dirA l m).length))))]) (.sl (some (H.length, 0)) ((cptC (srtC (swS (dirA l m) r g (dirA l m).length))).length) none) (resT Tryz.results74) [] rfl [2] (by decide) ⟨by first | (rw [hfinA.1]; done) | (rw [hfinA.1]; rfl) | (unfold susL; rw [hfinB]; done) | skip, by first | (rw [hfinA.1, hfinA.2]; rfl) | (unfold susL; rw [hfinB]; rfl) | (unfold susL; rw [hfinB]; done) | skip⟩ ?_)
          exact absWf @prs_padL
  · have h1d := bsT h1
    have h1n := bnT h1
    have hr1 : r = -1 := by simpa using h1d
    have hfinA := susL_nil (l := l) (m := m) (g := g) (.inl hr1)
    have g'11 := (jn @h1 (jn @h1n (jn @int_bne (jn @int_beq g'1))))
    refine runTf g'11 ?_
    refine hQ _ _ (end_byG (.inl rfl) hbel (x1 := .sl none 0 (some 0)) (l2 := [.cells false 2 []]) (.sl (some (H.length, 0)) 0 none) (resT Tryz.results74) [.cells false 2 []] rfl [1] (by decide) ⟨by first | (rw [hfinA.1]; done) | (rw [hfinA.1]; rfl) | (unfold susL; rw [hfinB]; done) | skip, by first | (rw [hfinA.1, hfinA.2]; rfl) | (unfold susL; rw [hfinB]; rfl) | (unfold susL; rw [hfinB]; done) | skip⟩ ?_)
    exact absWf @prs_padL
open Go.RowKit
/-- What Proven and Suspects hand back. -/
def pvE (W Hh : Int) (xs : List Int) (l : List T6) (sc : List (Int × Int)) (g : Int) : Int := if rgtA W Hh xs l sc g = true then 0 else 1
def pvL (W Hh : Int) (xs : List Int) (l : List T6) (sc : List (Int × Int)) (g : Int) : List (Int × Int) := if rgtA W Hh xs l sc g = true then allL W Hh l sc g else []
def pvR (W Hh : Int) (xs : List Int) (l : List T6) (sc : List (Int × Int)) (g : Int) : List (Int × Int) := if rgtA W Hh xs l sc g = true then rowA W Hh l sc g else []
def ssE (W Hh : Int) (xs : List Int) (l : List T6) (m r g : Int) : Int := if rgtA W Hh xs l [(m, r)] g = true then 0 else 1
def ssL (W Hh : Int) (xs : List Int) (l : List T6) (m r g : Int) : List (Int × Int) := if rgtA W Hh xs l [(m, r)] g = true then susL l m r g else []
def ssR (W Hh : Int) (xs : List Int) (l : List T6) (m r g : Int) : List (Int × Int) := if rgtA W Hh xs l [(m, r)] g = true then rowU l m r g else []
theorem pv_t {W Hh : Int} {xs : List Int} {l : List T6} {sc : List (Int × Int)} {g : Int} (h : rgtA W Hh xs l sc g = true) : pvE W Hh xs l sc g = 0 ∧ pvL W Hh xs l sc g = allL W Hh l sc g ∧ pvR W Hh xs l sc g = rowA W Hh l sc g := ⟨if_pos h, if_pos h, if_pos h⟩
theorem pv_f {W Hh : Int} {xs : List Int} {l : List T6} {sc : List (Int × Int)} {g : Int} (h : rgtA W Hh xs l sc g = false) : pvE W Hh xs l sc g = 1 ∧ pvL W Hh xs l sc g = [] ∧ pvR W Hh xs l sc g = [] := ⟨if_neg (by rw [h]; decide), if_neg (by rw [h]; decide), if_neg (by rw [h]; decide)⟩
theorem ss_t {W Hh : Int} {xs : List Int} {l : List T6} {m r g : Int} (h : rgtA W Hh xs l [(m, r)] g = true) : ssE W Hh xs l m r g = 0 ∧ ssL W Hh xs l m r g = susL l m r g ∧ ssR W Hh xs l m r g = rowU l m r g := ⟨if_pos h, if_pos h, if_pos h⟩
theorem ss_f {W Hh : Int} {xs : List Int} {l : List T6} {m r g : Int} (h : rgtA W Hh xs l [(m, r)] g = false) : ssE W Hh xs l m r g = 1 ∧ ssL W Hh xs l m r g = [] ∧ ssR W Hh xs l m r g = [] := ⟨if_neg (by rw [h]; decide), if_neg (by rw [h]; decide), if_neg (by rw [h]; decide)⟩
open Go.RowKit
theorem kProven_c (H : AHeap) (W : Int) (Hh : Int) (pp : AV) (xs : List Int) (s : AV) (l : List T6) (q : AV) (sc : List (Int × Int)) (g : Int) (hpp : Sl H 1 pp xs.length (ints .u8 xs)) (hs : Sl H 6 s l.length (r6 l)) (hq : Sl H 2 q sc.length (prs sc)) (hl : l.length ≤ 1000000000) (hsc : sc.length ≤ 1000000000) : ACalls Tryz.prog 17 [.agg [.int .i64 W, .int .i64 Hh, pp], s, q, .int .i64 g] H (fun v H' => v = .tup [.sl (some (H.length, 0)) ((pvL W Hh xs l sc g).length) none, .int .i64 (pvE W Hh xs l sc g)] ∧ H' = H ++ [.cells (ownG (pvR W Hh xs l sc g).length) 2 (prs (pvL W Hh xs l sc g))]) := by
  obtain ⟨bpp, opp, cpp, rfl, hbpp⟩ := hpp
  have hblpp := getElem?_lt hbpp
  have hb0pp := fun l => get_app (l := l) hbpp
  obtain ⟨bs, os, cs, rfl, hbs⟩ := hs
  have hbls := getElem?_lt hbs
  have hb0s := fun l => get_app (l := l) hbs
  obtain ⟨bq, oq, cq, rfl, hbq⟩ := hq
  have hblq := getElem?_lt hbq
  have hb0q := fun l => get_app (l := l) hbq
  refine AcT true Tryz.func17 ?_; intro hbel Q hQ
  have g'1 := (jn @hbpp (jn @hb0pp (jn @hbs (jn @hb0s (jn @hbq @hb0q)))))
  refine runTf g'1 ?_
  refine call_v (by kernel_rfl) (kright_c _ W Hh _ xs _ l _ sc g ⟨_, _, _, rfl, by first | exact hb0pp _ | exact hbpp⟩ ⟨_, _, _, rfl, by first | exact hb0s _ | exact hbs⟩ ⟨_, _, _, rfl, by first | exact hb0q _ | exact hbq⟩ (by first | omega | simp) (by first | omega | simp)) ?_
  refine runTf g'1 ?_
  refine cond_split (fun h1 => ?_) (fun h1 => ?_)
  · have h1d := bsT h1
    have hfinP := pv_f h1d
    have g'2 := (jn @h1 (jn @h1d g'1))
    refine runTf g'2 ?_
    refine hQ _ _ (end_byG (.inl rfl) hbel (x1 := .tup [.sl none 0 (some 0), .int .i64 1]) (l2 := [.cells false 2 []]) (.tup [.sl (some (H.length, 0)) 0 none, .int .i64 1]) (resT Tryz.results17) [.cells false 2 []] rfl [1] (by decide) ⟨by first | (rw [hfinP.1, hfinP.2.1]; done) | (rw [hfinP.1, hfinP.2.1]; rfl) | skip, by first | (rw [hfinP.2.1, hfinP.2.2]; done) | (rw [hfinP.2.1, hfinP.2.2]; rfl) | skip⟩ ?_)
    exact absW
  · have h1d := bsT h1
    have hR := rgtA_iff.1 h1d
    obtain ⟨hV, hl0, hS, hsB, hg⟩ := id hR
    have hfinP := pv_t h1d
    have g'3 := (jn @h1 (jn @h1d g'1))
    refine runTf g'3 ?_
    refine call_v (by kernel_rfl) (kall_c _ W Hh _ xs _ l _ sc g ⟨_, _, _, rfl, by first | exact hb0pp _ | exact hbpp⟩ ⟨_, _, _, rfl, by first | exact hb0s _ | exact hbs⟩ ⟨_, _, _, rfl, by first | exact hb0q _ | exact hbq⟩ hV hS hl0 hsB (by omega)) ?_
    refine runTf g'3 ?_
    refine hQ _ _ (end_byG (.inl rfl) hbel (x1 := .tup [.sl (some (H.length + 1, 0)) ((allL W Hh l sc g).length) none, .int .i64 0]) (l2 := [.cells (ownG (rowA W Hh l sc g).length) 2 (prs (allL W Hh l sc g))]) (.tup [.sl (some (H.length, 0)) ((allL W Hh l sc g).length) none, .int .i64 0]) (resT Tryz.results17) [] rfl [1] (by decide) ⟨by first | (rw [hfinP.1, hfinP.2.1]; done) | (rw [hfinP.1, hfinP.2.1]; rfl) | skip, by first | (rw [hfinP.2.1, hfinP.2.2]; done) | (rw [hfinP.2.1, hfinP.2.2]; rfl) | skip⟩ ?_)
    exact absW
theorem kSuspects_c (H : AHeap) (W : Int) (Hh : Int) (pp : AV) (xs : List Int) (s : AV) (l : List T6) (m : Int) (r : Int) (g : Int) (hpp : Sl H 1 pp xs.length (ints .u8 xs)) (hs : Sl H 6 s l.length (r6 l)) (hl : l.length ≤ 1000000000) : ACalls Tryz.prog 23 [.agg [.int .i64 W, .int .i64 Hh, pp], s, .agg [.int .i64 m, .int .i64 r], .int .i64 g] H (fun v H' => v = .tup [.sl (some (H.length, 0)) ((ssL W Hh xs l m r g).length) none, .int .i64 (ssE W Hh xs l m r g)] ∧ H' = H ++ [.cells (ownG (ssR W Hh xs l m r g).length) 2 (prs (ssL W Hh xs l m r g))]) := by
  obtain ⟨bpp, opp, cpp, rfl, hbpp⟩ := hpp
  have hblpp := getElem?_lt hbpp
  have hb0pp := fun l => get_app (l := l) hbpp
  obtain ⟨bs, os, cs, rfl, hbs⟩ := hs
  have hbls := getElem?_lt hbs
  have hb0s := fun l => get_app (l := l) hbs
  refine AcT true Tryz.func23 ?_; intro hbel Q hQ
  have g'4 := (jn @hbpp (jn @hb0pp (jn @hbs @hb0s)))
  refine runTf g'4 ?_
  refine call_v (by kernel_rfl) (kright_c _ W Hh _ xs _ l _ [(m, r)] g ⟨_, _, _, rfl, by first | exact hb0pp _ | exact hbpp⟩ ⟨_, _, _, rfl, by first | exact hb0s _ | exact hbs⟩ ⟨_, _, _, by first | rfl | (rw [List.length_append]; done) | (rw [List.length_append]; rfl), by first | rfl | (rw [get_newk]; rfl) | (rw [get_new0]; rfl) | (rw [get_newk, prs_append]; rfl) | (rw [get_new0, prs_append]; rfl)⟩ (by first | omega | simp) (by first | omega | simp)) ?_
  refine runTf g'4 ?_
  refine cond_split (fun h1 => ?_) (fun h1 => ?_)
  · have h1d := bsT h1
    have hfinP := ss_f h1d
    have g'5 := (jn @h1 (jn @h1d g'4))
    refine runTf g'5 ?_
    refine hQ _ _ (end_byG (.inl rfl) hbel (x1 := .tup [.sl none 0 (some 0), .int .i64 1]) (l2 := [.cells false 2 []]) (.tup [.sl (some (H.length, 0)) 0 none, .int .i64 1]) (resT Tryz.results23) [.cells false 2 []] rfl [3] (by decide) ⟨by first | (rw [hfinP.1, hfinP.2.1]; done) | (rw [hfinP.1, hfinP.2.1]; rfl) | skip, by first | (rw [hfinP.2.1, hfinP.2.2]; done) | (rw [hfinP.2.1, hfinP.2.2]; rfl) | skip⟩ ?_)
    exact absW
  · have h1d := bsT h1
    have hR := rgtA_iff.1 h1d
    obtain ⟨hV, hl0, hS, hsB, hg⟩ := id hR
    have hbr := beaB_iff.1 ((scnB_iff.1 hsB).2 (m, r) (List.mem_singleton.2 rfl))
    have hfinP := ss_t h1d
    have g'6 := (jn @h1 (jn @h1d g'4))
    refine runTf g'6 ?_
    refine call_v (by kernel_rfl) (ksus_c _ _ l m r g ⟨_, _, _, rfl, by first | exact hb0s _ | exact hbs⟩ hS (by omega) (by omega)) ?_
    refine runTf g'6 ?_
    refine hQ _ _ (end_byG (.inl rfl) hbel (x1 := .tup [.sl (some (H.length + 3, 0)) ((susL l m r g).length) none, .int .i64 0]) (l2 := [.cells (ownG (rowU l m r g).length) 2 (prs (susL l m r g))]) (.tup [.sl (some (H.length, 0)) ((susL l m r g).length) none, .int .i64 0]) (resT Tryz.results23) [] rfl [3] (by decide) ⟨by first | (rw [hfinP.1, hfinP.2.1]; done) | (rw [hfinP.1, hfinP.2.1]; rfl) | skip, by first | (rw [hfinP.2.1, hfinP.2.2]; done) | (rw [hfinP.2.1, hfinP.2.2]; rfl) | skip⟩ ?_)
    exact absW
open Go.RowKit
/-- A cell's place. -/
def cidx (W : Int) (c : Int × Int) : Nat := (c.2 * W + c.1).toNat
/-- What is learned of the free cells: nothing, if one of them is a wall. -/
def lrnF (W H : Int) : List (Int × Int) → List Int → Option (List Int)
  | [], o => some o
  | c :: l, o => if atI W H o c.1 c.2 = 2 then none else lrnF W H l (o.set (cidx W c) 1)
/-- What is learned of the echoes' suspects. -/
def lrnW (W H : Int) : List (List (Int × Int)) → List Int → Option (List Int)
  | [], o => some o
  | s :: l, o => match s.filter fun c => !(atI W H o c.1 c.2 == 1) with
    | [] => none
    | [c] => lrnW W H l (if inB W H c.1 c.2 = true then o.set (cidx W c) 2 else o)
    | _ => lrnW W H l o
theorem set_le {o : List Int} {i : Nat} {v : Int} (h : ∀ x ∈ o, x ≤ 2) (hv : v ≤ 2) : ∀ x ∈ o.set i v, x ≤ 2 := fun x hx => by
  rcases List.mem_or_eq_of_mem_set hx with k | k
  · exact h x k
  · rw [k]; exact hv
theorem at_in {W H : Int} {xs : List Int} {c : Int × Int} (h : inB W H c.1 c.2 = true) : atI W H xs c.1 c.2 = gi xs (cidx W c) := if_pos h
/-- The echoes' suspects. -/
def echL (l : List T6) (sc : List (Int × Int)) (g : Int) : List (List (Int × Int)) := (sc.filter fun e => !(e.2 == -1)).map fun e => susL l e.1 e.2 g
/-- What is learned, if the arguments are valid. -/
def lnO (W Hh : Int) (xs : List Int) (l : List T6) (sc : List (Int × Int)) (g : Int) : Option (List Int) := if tauB l = true then (lrnF W Hh (allL W Hh l sc g) xs).bind (lrnW W Hh (echL l sc g)) else some xs
def lnE (W Hh : Int) (xs : List Int) (l : List T6) (sc : List (Int × Int)) (g : Int) : Int := if rgtA W Hh xs l sc g = true then (match lnO W Hh xs l sc g with | none => 11 | some _ => 0) else 1
def lnX (W Hh : Int) (xs : List Int) (l : List T6) (sc : List (Int × Int)) (g : Int) : List Int := if rgtA W Hh xs l sc g = true then (lnO W Hh xs l sc g).getD [] else []
def lnZ (W Hh : Int) (xs : List Int) (l : List T6) (sc : List (Int × Int)) (g : Int) (n : Int) : Int := if lnE W Hh xs l sc g = 0 then n else 0
variable {W Hh : Int} {xs : List Int} {l : List T6} {sc : List (Int × Int)} {g : Int}
theorem ln_1 (h : rgtA W Hh xs l sc g = false) : lnE W Hh xs l sc g = 1 ∧ lnX W Hh xs l sc g = [] ∧ lnZ W Hh xs l sc g W = 0 ∧ lnZ W Hh xs l sc g Hh = 0 := by
  have e : lnE W Hh xs l sc g = 1 := if_neg (by rw [h]; decide)
  exact ⟨e, if_neg (by rw [h]; decide), if_neg (by rw [e]; decide), if_neg (by rw [e]; decide)⟩
theorem ln_11 (h : rgtA W Hh xs l sc g = true) (k : lnO W Hh xs l sc g = none) : lnE W Hh xs l sc g = 11 ∧ lnX W Hh xs l sc g = [] ∧ lnZ W Hh xs l sc g W = 0 ∧ lnZ W Hh xs l sc g Hh = 0 := by
  have e : lnE W Hh xs l sc g = 11 := by unfold lnE; rw [if_pos h, k]
  exact ⟨e, by unfold lnX; rw [if_pos h, k]; rfl, if_neg (by rw [e]; decide), if_neg (by rw [e]; decide)⟩
theorem ln_0 {o : List Int} (h : rgtA W Hh xs l sc g = true) (k : lnO W Hh xs l sc g = some o) : lnE W Hh xs l sc g = 0 ∧ lnX W Hh xs l sc g = o ∧ lnZ W Hh xs l sc g W = W ∧ lnZ W Hh xs l sc g Hh = Hh := by
  have e : lnE W Hh xs l sc g = 0 := by unfold lnE; rw [if_pos h, k]
  exact ⟨e, by unfold lnX; rw [if_pos h, k]; rfl, if_pos e, if_pos e⟩
theorem prS_in : ∀ {i : Nat} {c : Int × Int}, c ∈ prS W Hh l sc g i → inB W Hh c.1 c.2 = true
  | 0, _, h => by cases h
  | i + 1, c, h => by
    unfold prS at h
    rcases List.mem_append.1 h with h | h
    · exact prS_in h
    · unfold prvL at h
      split at h
      · cases h
      · have k := (List.mem_filter.1 h).2
        unfold okcB at k
        rw [Bool.and_eq_true, Bool.and_eq_true, btw_iff, btw_iff] at k
        exact inB_iff.2 ⟨by omega, by omega, by omega, by omega⟩
theorem allL_in {c : Int × Int} (h : c ∈ allL W Hh l sc g) : inB W Hh c.1 c.2 = true := by
  unfold allL at h
  have h := (srtC_perm _).mem_iff.1 (cptC_mem.1 h)
  unfold rowA at h
  split at h
  · exact prS_in h
  · cases h
/-- The cells that are set free by the first of a list. -/
def lfS (W : Int) (A : List (Int × Int)) (xs : List Int) : Nat → List Int
  | 0 => xs
  | i + 1 => (lfS W A xs i).set ((g2 A i * W) + g1 A i).toNat 1
theorem vld_set {o : List Int} {i : Nat} {v : Int} (h : vldB W Hh o = true) (hv : v ≤ 2) : vldB W Hh (o.set i v) = true := by
  have q := vld_iff.1 h
  exact vld_iff.2 ⟨q.w0, q.w1, q.h0, q.h1, by rw [List.length_set]; exact q.len, set_le q.le hv⟩
theorem lfS_vld {A : List (Int × Int)} (h : vldB W Hh xs = true) : ∀ i : Nat, vldB W Hh (lfS W A xs i) = true
  | 0 => h
  | i + 1 => vld_set (lfS_vld h i) (by decide)
theorem lrnF_step {A : List (Int × Int)} {o : List Int} {i : Nat} (hi : i < A.length) (hA : ∀ c ∈ A, inB W Hh c.1 c.2 = true) : lrnF W Hh (A.drop i) o = if gi o ((g2 A i * W) + g1 A i).toNat = 2 then none else lrnF W Hh (A.drop (i + 1)) (o.set ((g2 A i * W) + g1 A i).toNat 1) := by
  rw [List.drop_eq_getElem_cons hi]
  have h := hA _ (List.getElem_mem hi)
  have e : cidx W A[i] = ((g2 A i * W) + g1 A i).toNat := by rw [← pr_eq hi]; rfl
  conv => lhs; unfold lrnF
  rw [at_in h, e]
theorem gin_mem {A : List (Int × Int)} {i : Nat} (hi : i < A.length) (hA : ∀ c ∈ A, inB W Hh c.1 c.2 = true) : inB W Hh (g1 A i) (g2 A i) = true := by
  have h := hA _ (List.getElem_mem hi)
  rw [← pr_eq hi] at h; exact h
/-- What an echo makes of a plan, by the suspects that are not free. -/
def frP (W Hh : Int) (o : List Int) (c : Int × Int) : Bool := atI W Hh o c.1 c.2 == 1
def lwU (W Hh : Int) (o : List Int) (d : List (Int × Int)) : List Int := if d.length = 1 ∧ btw (g1 d 0) 0 (W - 1) = true ∧ btw (g2 d 0) 0 (Hh - 1) = true then o.set ((g2 d 0 * W) + g1 d 0).toNat 2 else o
def lwS (W Hh : Int) (l : List T6) (sc : List (Int × Int)) (g : Int) (o : List Int) : Nat → List Int
  | 0 => o
  | i + 1 => if g2 sc i = -1 then lwS W Hh l sc g o i else lwU W Hh (lwS W Hh l sc g o i) (delL (frP W Hh (lwS W Hh l sc g o i)) (susL l (g1 sc i) (g2 sc i) g))
theorem lwU_vld {o : List Int} {d : List (Int × Int)} (h : vldB W Hh o = true) : vldB W Hh (lwU W Hh o d) = true := by
  unfold lwU; split
  · exact vld_set h (by decide)
  · exact h
theorem lwS_vld {o : List Int} (h : vldB W Hh o = true) : ∀ i : Nat, vldB W Hh (lwS W Hh l sc g o i) = true
  | 0 => h
  | i + 1 => by
    unfold lwS; split
    · exact lwS_vld h i
    · exact lwU_vld (lwS_vld h i)
theorem lrnW_step {o : List Int} {i : Nat} (hi : i < sc.length) : lrnW W Hh (echL l (sc.drop i) g) o = if g2 sc i = -1 then lrnW W Hh (echL l (sc.drop (i + 1)) g) o else if (delL (frP W Hh o) (susL l (g1 sc i) (g2 sc i) g)).length = 0 then none else lrnW W Hh (echL l (sc.drop (i + 1)) g) (lwU W Hh o (delL (frP W Hh o) (susL l (g1 sc i) (g2 sc i) g))) := by
  have e : sc[i] = (g1 sc i, g2 sc i) := (pr_eq hi).symm
  unfold echL
  rw [List.drop_eq_getElem_cons hi, List.filter_cons, e]
  by_cases h : g2 sc i = -1
  · rw [if_pos h, if_neg (by simp [h])]
  · rw [if_neg h, if_pos (by simpa using h), List.map_cons]
    conv => lhs; unfold lrnW
    have hd : ∀ s : List (Int × Int), (s.filter fun c => !(atI W Hh o c.1 c.2 == 1)) = delL (frP W Hh o) s := fun _ => rfl
    simp only [hd]
    generalize delL (frP W Hh o) (susL l (g1 sc i) (g2 sc i) g) = d
    match d with
    | [] => simp
    | [c] =>
      simp only [List.length_cons, List.length_nil]
      unfold lwU
      have q : (btw (g1 [c] 0) 0 (W - 1) = true ∧ btw (g2 [c] 0) 0 (Hh - 1) = true) ↔ inB W Hh c.1 c.2 = true := by
        rw [btw_iff, btw_iff, inB_iff]; show ((0 ≤ c.1 ∧ c.1 ≤ W - 1) ∧ 0 ≤ c.2 ∧ c.2 ≤ Hh - 1) ↔ _; omega
      simp only [List.length_cons, List.length_nil, Nat.zero_add, true_and, q, Nat.one_ne_zero, if_false]
      rfl
    | a :: b :: t => simp [lwU]
theorem lwS_skip {o : List Int} {i : Nat} (h : g2 sc i = -1) : lwS W Hh l sc g o (i + 1) = lwS W Hh l sc g o i := by simp only [lwS]; rw [if_pos h]
theorem lwS_same {o : List Int} {i : Nat} (h : ¬ g2 sc i = -1) (k : ¬ ((delL (frP W Hh (lwS W Hh l sc g o i)) (susL l (g1 sc i) (g2 sc i) g)).length = 1 ∧ btw (g1 (delL (frP W Hh (lwS W Hh l sc g o i)) (susL l (g1 sc i) (g2 sc i) g)) 0) 0 (W - 1) = true ∧ btw (g2 (delL (frP W Hh (lwS W Hh l sc g o i)) (susL l (g1 sc i) (g2 sc i) g)) 0) 0 (Hh - 1) = true)) : lwS W Hh l sc g o (i + 1) = lwS W Hh l sc g o i := by simp only [lwS]; rw [if_neg h]; exact if_neg k
theorem lwS_set {o : List Int} {i : Nat} (h : ¬ g2 sc i = -1) (k : (delL (frP W Hh (lwS W Hh l sc g o i)) (susL l (g1 sc i) (g2 sc i) g)).length = 1 ∧ btw (g1 (delL (frP W Hh (lwS W Hh l sc g o i)) (susL l (g1 sc i) (g2 sc i) g)) 0) 0 (W - 1) = true ∧ btw (g2 (delL (frP W Hh (lwS W Hh l sc g o i)) (susL l (g1 sc i) (g2 sc i) g)) 0) 0 (Hh - 1) = true) : lwS W Hh l sc g o (i + 1) = (lwS W Hh l sc g o i).set ((g2 (delL (frP W Hh (lwS W Hh l sc g o i)) (susL l (g1 sc i) (g2 sc i) g)) 0 * W) + g1 (delL (frP W Hh (lwS W Hh l sc g o i)) (susL l (g1 sc i) (g2 sc i) g)) 0).toNat 2 := by simp only [lwS]; rw [if_neg h]; exact if_pos k
/-- One round of the second part. -/
theorem lwS_next {o : List Int} {i : Nat} (hi : i < sc.length) (h : g2 sc i = -1 ∨ ¬ (delL (frP W Hh (lwS W Hh l sc g o i)) (susL l (g1 sc i) (g2 sc i) g)).length = 0) : lrnW W Hh (echL l (sc.drop i) g) (lwS W Hh l sc g o i) = lrnW W Hh (echL l (sc.drop (i + 1)) g) (lwS W Hh l sc g o (i + 1)) := by
  rw [lrnW_step hi]
  simp only [lwS]
  by_cases k : g2 sc i = -1
  · rw [if_pos k, if_pos k]
  · rw [if_neg k, if_neg k, if_neg (by rcases h with h | h; exact absurd h k; exact h)]
theorem lwS_bad {o : List Int} {i : Nat} (hi : i < sc.length) (h : ¬ g2 sc i = -1) (k : (delL (frP W Hh (lwS W Hh l sc g o i)) (susL l (g1 sc i) (g2 sc i) g)).length = 0) : lrnW W Hh (echL l (sc.drop i) g) (lwS W Hh l sc g o i) = none := by
  rw [lrnW_step hi, if_neg h, if_pos k]
theorem vld_pos {o : List Int} (h : vldB W Hh o = true) : 0 < o.length := by
  have q := vld_iff.1 h
  have := (q.idx (show inB W Hh 0 0 = true from inB_iff.2 (by have := q.w0; have := q.h0; omega))).2.2.2.2.1
  omega
theorem pad_len {p : Int × Int → Bool} {l : List (Int × Int)} : (padL l.length (delL p l)).length = l.length := by
  have := delL_le (p := p) (l := l)
  unfold padL; simp; omega
theorem pad_g1 {n : Nat} {d : List (Int × Int)} (h : ¬ d.length = 0) : g1 (padL n d) 0 = g1 d 0 := by
  match d, h with
  | a :: t, _ => rfl
theorem pad_g2 {n : Nat} {d : List (Int × Int)} (h : ¬ d.length = 0) : g2 (padL n d) 0 = g2 d 0 := by
  match d, h with
  | a :: t, _ => rfl
theorem susL_len {m r : Int} (hS : setB l = true) : (susL l m r g).length ≤ 7225 * 4096 := by
  have h1 := swS_len (dirA l m) r g (dirA l m).length
  have h2 := dirA_len hS m
  have h3 : (rowU l m r g).length ≤ 7225 * 4096 := by
    unfold rowU; split
    · simp
    · omega
  unfold susL
  have := cpt_len (srtC (rowU l m r g)); rw [srtC_len] at this; omega
theorem allL_len : (allL W Hh l sc g).length ≤ 7225 * sc.length := by
  have h1 := prS_len W Hh l sc g sc.length
  have h3 : (rowA W Hh l sc g).length ≤ 7225 * sc.length := by
    unfold rowA; split
    · exact h1
    · simp
  unfold allL
  have := cpt_len (srtC (rowA W Hh l sc g)); rw [srtC_len] at this; omega
open Go.RowKit
set_option maxRecDepth 100000 in
theorem cloneb_c (H : AHeap) (s : AV) (xs : List Int) (hs : Sl H 1 s xs.length (ints .u8 xs)) (hl : xs.length ≤ 1000000) (h0 : 0 < xs.length) : ACalls Tryz.prog 78 [s] H (fun v H' => v = .sl (some (H.length, 0)) xs.length none ∧ H' = H ++ [.cells true 1 (ints .u8 xs)]) := by
  obtain ⟨b, own, cap, rfl, hb⟩ := hs
  have hbl := getElem?_lt hb
  have hb0 := fun l => get_app (l := l) hb
  generalize hm : xs.length = m at *
  refine AcT true Tryz.func78 ?_; intro hbel Q hQ
  have htk : List.take m (ints .u8 xs) = ints .u8 xs := List.take_of_length_le (by rw [ints_len]; omega)
  have htk1 : List.take (m * 1) (ints .u8 xs) = ints .u8 xs := List.take_of_length_le (by rw [ints_len]; omega)
  have hm0 : (m == 0) = false := beq_eq_false_iff_ne.2 (by omega)
  have hm1 : (m != 0) = true := bne_iff_ne.2 (by omega)
  simp -implicitDefEqProofs (disch := omega) only [hb, hb0, Option.isNone_some, hm0, h0, htk, htk1, nilKnown, hm1, simprocAttr, amset, tyset, Function.comp_apply, one1, lenV, calleeOf, lateOk, belowV, aop, AV.ofValue, AV.ofCell, AV.cells, AV.flat, AV.one, arep, aBin, aAppend, aConv]
  repeat refine And.intro (by omega) ?_
  refine hQ _ _ (end_by (.inl rfl) hbel (x1 := .sl (some (H.length + 1, 0)) m none) (.sl (some (H.length, 0)) m none) (resT Tryz.results78) [1] (by decide) ⟨rfl, rfl⟩ ?_)
  exact absT
theorem susL_own {l : List T6} {m r g : Int} : ownG (rowU l m r g).length = ownG (susL l m r g).length := by
  unfold susL
  have h := srtC_len (rowU l m r g)
  generalize srtC (rowU l m r g) = s at *
  match s, h with
  | [], h => rw [← h]; rfl
  | a :: t, h =>
    have h2 : a ∈ cptC (a :: t) := cptC_mem.2 (List.mem_cons_self ..)
    rw [ownG_p (by rw [← h]; simp), ownG_p (List.length_pos_of_mem h2)]
theorem ksus2_c (H : AHeap) (s : AV) (l : List T6) (m : Int) (r : Int) (g : Int) (hs : Sl H 6 s l.length (r6 l)) (hS : setB l = true) (hr : -1 ≤ r ∧ r ≤ 1024) (hg : 1 ≤ g ∧ g ≤ 32) : ACalls Tryz.prog 74 [s, .agg [.int .i64 m, .int .i64 r], .int .i64 g] H (fun v H' => v = .sl (some (H.length, 0)) (susL l m r g).length none ∧ H' = H ++ [.cells (ownG (susL l m r g).length) 2 (prs (susL l m r g))]) := by
  have h := ksus_c H s l m r g hs hS hr hg
  rw [susL_own] at h
  exact h
theorem learn1_c (H : AHeap) (c1 : Int) (c2 : Int) (W : Int) (Hh : Int) (pp : AV) (xs : List Int) (bz : Nat) (hpp : Sl H 1 pp xs.length (ints .u8 xs)) (hz : ∃ o, H[bz]? = some (.cells o 0 [.int .i64 W, .int .i64 Hh, pp])) (hV : vldB W Hh xs = true) : ACalls Tryz.prog 81 [.agg [.int .i64 c1, .int .i64 c2], .ptr (some (bz, 0))] H (fun v H' => v = .bool (frP W Hh xs (c1, c2)) ∧ H' = H) := by
  obtain ⟨bpp, opp, cpp, rfl, hbpp⟩ := hpp
  have hblpp := getElem?_lt hbpp
  have hb0pp := fun l => get_app (l := l) hbpp
  obtain ⟨oz, hbz⟩ := hz
  have hblz := getElem?_lt hbz
  have hb0z := fun l => get_app (l := l) hbz
  refine AcT true Tryz.func81 ?_; intro hbel Q hQ
  have g'1 := (jn @hbpp (jn @hb0pp (jn @hbz @hb0z)))
  refine runTf g'1 ?_
  refine call_v (by kernel_rfl) (pat_c _ W Hh _ xs c1 c2 ⟨_, _, _, rfl, by first | exact hb0pp _ | exact hbpp⟩ hV) ?_
  refine runTf g'1 ?_
  exact hQ _ _ (end_plain (.inl rfl) hbel (x := .bool ((atI W Hh xs c1 c2) == 1)) (resT Tryz.results81) rfl ⟨rfl, rfl⟩)
theorem learn_c (H : AHeap) (W : Int) (Hh : Int) (pp : AV) (xs : List Int) (s : AV) (l : List T6) (q : AV) (sc : List (Int × Int)) (g : Int) (hpp : Sl H 1 pp xs.length (ints .u8 xs)) (hs : Sl H 6 s l.length (r6 l)) (hq : Sl H 2 q sc.length (prs sc)) (hl : l.length ≤ 1000000000) (hsc : sc.length ≤ 1000000000) : ACalls Tryz.prog 25 [.agg [.int .i64 W, .int .i64 Hh, pp], s, q, .int .i64 g] H (fun v H' => v = .tup [.agg [.int .i64 (lnZ W Hh xs l sc g W), .int .i64 (lnZ W Hh xs l sc g Hh), .sl (some (H.length, 0)) ((lnX W Hh xs l sc g).length) none], .int .i64 (lnE W Hh xs l sc g)] ∧ H' = H ++ [.cells (ownG (lnX W Hh xs l sc g).length) 1 (ints .u8 (lnX W Hh xs l sc g))]) := by
  obtain ⟨bpp, opp, cpp, rfl, hbpp⟩ := hpp
  have hblpp := getElem?_lt hbpp
  have hb0pp := fun l => get_app (l := l) hbpp
  obtain ⟨bs, os, cs, rfl, hbs⟩ := hs
  have hbls := getElem?_lt hbs
  have hb0s := fun l => get_app (l := l) hbs
  obtain ⟨bq, oq, cq, rfl, hbq⟩ := hq
  have hblq := getElem?_lt hbq
  have hb0q := fun l => get_app (l := l) hbq
  (refine ACalls_pieces Tryz.func25 _ rfl (Nat.le_of_ble_eq_true (by kernel_rfl)) rfl ?_; intro hbel Q hQ hQ' c hc; unfold Tryz.f25 at hc; simp only [Option.some.injEq] at hc; subst hc; clear hQ')
  refine AW_step false try_mixed (by kernel_rfl) (fun F Hx => look F 1 = .sl (some (bs, 0)) l.length cs ∧ look F 2 = .sl (some (bq, 0)) sc.length cq ∧ look F 3 = .int .i64 g ∧ look F 4 = .ptr (some (H.length, 0)) ∧ look F 8 = .ptr (some (H.length + 1, 0)) ∧ look F 9 = .int .i64 0 ∧ Hx = H ++ [.cells true 0 [.int .i64 W, .int .i64 Hh, .sl (some (bpp, 0)) xs.length cpp], .cells true 0 [.int .i64 0, .int .i64 0, .sl none 0 (some 0)]]) ?_ ?_
  · skip
    have g'2 := (jn @hbpp (jn @hb0pp (jn @hbs (jn @hb0s (jn @hbq @hb0q)))))
    refine runTf g'2 ?_
    refine inv_of ?_
    exact absT
  rintro F Hx ⟨f1, f2, f3, f4, f5, f6, rfl⟩
  refine AW_step false try_mixed (by kernel_rfl) (fun F Hx => rgtA W Hh xs l sc g = true ∧ look F 1 = .sl (some (bs, 0)) l.length cs ∧ look F 2 = .sl (some (bq, 0)) sc.length cq ∧ look F 3 = .int .i64 g ∧ look F 4 = .ptr (some (H.length, 0)) ∧ look F 8 = .ptr (some (H.length + 1, 0)) ∧ look F 9 = .int .i64 0 ∧ Hx = H ++ [.cells true 0 [.int .i64 W, .int .i64 Hh, .sl (some (bpp, 0)) xs.length cpp], .cells true 0 [.int .i64 0, .int .i64 0, .sl none 0 (some 0)]]) ?_ ?_
  · skip
    have g'3 := (jn @hbpp (jn @hb0pp (jn @hbs (jn @hb0s (jn @hbq (jn @hb0q (jn @f1 (jn @f2 (jn @f3 (jn @f4 (jn @f5 @f6)))))))))))
    refine runTf g'3 ?_
    refine call_v (by kernel_rfl) (kright_c _ W Hh _ xs _ l _ sc g ⟨_, _, _, rfl, by first | exact hb0pp _ | exact hbpp⟩ ⟨_, _, _, rfl, by first | exact hb0s _ | exact hbs⟩ ⟨_, _, _, rfl, by first | exact hb0q _ | exact hbq⟩ (by first | omega | simp) (by first | omega | simp)) ?_
    refine runTf g'3 ?_
    refine cond_split (fun h7 => ?_) (fun h7 => ?_)
    · have h7d := bsT h7
      have hfinP := ln_1 h7d
      have g'4 := (jn @h7 (jn @h7d g'3))
      refine runTf g'4 ?_
      refine hQ _ _ (end_byG (.inl rfl) hbel (x1 := .tup [.agg [.int .i64 0, .int .i64 0, .sl none 0 (some 0)], .int .i64 1]) (l2 := [.cells false 1 []]) (.tup [.agg [.int .i64 0, .int .i64 0, .sl (some (H.length, 0)) 0 none], .int .i64 1]) (resTf (jn @f1 (jn @f2 (jn @f3 (jn @f4 (jn @f5 @f6))))) Tryz.results25) [.cells false 1 []] rfl [2] (by decide) ⟨by first | (rw [hfinP.1, hfinP.2.1, hfinP.2.2.1, hfinP.2.2.2]; done) | (rw [hfinP.1, hfinP.2.1, hfinP.2.2.1, hfinP.2.2.2]; rfl) | skip, by first | (rw [hfinP.2.1, hfinO]; done) | (rw [hfinP.2.1, hfinO]; rfl) | (rw [hfinP.2.1]; done) | (rw [hfinP.2.1]; rfl) | skip⟩ ?_)
      exact absW
    · have h7d := bsT h7
      have g'5 := (jn @h7 (jn @h7d g'3))
      refine runTf g'5 ?_
      refine inv_of ?_
      exact absTf (jn @f1 (jn @f2 (jn @f3 (jn @f4 (jn @f5 @f6)))))
  rintro F Hx ⟨h8d, f9, f10, f11, f12, f13, f14, rfl⟩
  have hR := h8d
  obtain ⟨hV, hl0, hS, hsB, hg⟩ := rgtA_iff.1 hR
  have hVV := vld_iff.1 hV
  have hpp2 := hVV.pos
  have hWb : 1 ≤ W ∧ W ≤ 64 := ⟨hVV.w0, hVV.w1⟩
  have hHb : 1 ≤ Hh ∧ Hh ≤ 64 := ⟨hVV.h0, hVV.h1⟩
  have hx00 := (hVV.idx (show inB W Hh 0 0 = true from inB_iff.2 (by have := hVV.w0; have := hVV.h0; omega))).2.2.2.2.1
  have hx0 : 0 < xs.length := by omega
  have hx6 : xs.length ≤ 1000000 := by have h4 := hVV.len; have := Int.mul_le_mul hVV.w1 hVV.h1 (by have := hVV.h0; omega) (by decide); omega
  have hsc2 := scnB_iff.1 hsB
  have hAl := allL_len (W := W) (Hh := Hh) (l := l) (sc := sc) (g := g)
  have hA : ∀ c ∈ (allL W Hh l sc g), inB W Hh c.1 c.2 = true := fun c hc => allL_in hc
  refine AW_special false try_mixed [[0, 1, 2, 3, 4, 5, 6, 7, 8, 9], [0, 1, 2, 3, 4, 5, 8, 6, 7, 9]] (by kernel_rfl) (fun F2 H2 => F2 = [(1, .sl (some (bs, 0)) l.length cs), (2, .sl (some (bq, 0)) sc.length cq), (3, .int .i64 g), (4, .ptr (some (H.length, 0))), (8, .ptr (some (H.length + 1, 0))), (9, .int .i64 0), (10, .ptr (some (H.length + 3, 0)))] ∧ H2 = H ++ [.cells true 0 [.int .i64 W, .int .i64 Hh, .sl (some (bpp, 0)) xs.length cpp], .cells true 0 [.int .i64 0, .int .i64 0, .sl none 0 (some 0)], .cells true 1 (ints .u8 xs), .cells true 0 [.int .i64 W, .int .i64 Hh, .sl (some (H.length + 2, 0)) xs.length none]]) ?_ ?_
  · refine reps_cons ?_ (reps_cons ?_ (reps_nil)) <;> intro J hJ
    · skip
      have g'6 := (jn @hbpp (jn @hb0pp (jn @hbs (jn @hb0s (jn @hbq (jn @hb0q (jn @f1 (jn @f2 (jn @f3 (jn @f4 (jn @f5 (jn @f6 (jn @f9 (jn @f10 (jn @f11 (jn @f12 (jn @f13 (jn @f14 @h8d))))))))))))))))))
      refine runDf g'6 ?_
      refine call_x (by kernel_rfl) (by simp) (cloneb_c _ _ xs ⟨_, _, _, rfl, by first | exact hb0pp _ | exact hbpp⟩ hx6 hx0) ?_
      refine runDf g'6 ?_
      refine inv_of (hJ _ _ ⟨_, _, _, ⟨rfl, rfl⟩, Abs.byG hbel [] rfl [0, 1, 2, 3] (by decide) ?_⟩)
      exact absRf (jn @f1 (jn @f2 (jn @f3 (jn @f4 (jn @f5 (jn @f6 (jn @f9 (jn @f10 (jn @f11 (jn @f12 (jn @f13 @f14)))))))))))
    · skip
      have g'7 := (jn @hbpp (jn @hb0pp (jn @hbs (jn @hb0s (jn @hbq (jn @hb0q (jn @f1 (jn @f2 (jn @f3 (jn @f4 (jn @f5 (jn @f6 (jn @f9 (jn @f10 (jn @f11 (jn @f12 (jn @f13 (jn @f14 @h8d))))))))))))))))))
      refine runDf g'7 ?_
      refine call_x (by kernel_rfl) (by simp) (cloneb_c _ _ xs ⟨_, _, _, rfl, by first | exact hb0pp _ | exact hbpp⟩ hx6 hx0) ?_
      refine runDf g'7 ?_
      refine inv_of (hJ _ _ ⟨_, _, _, ⟨rfl, rfl⟩, Abs.byG hbel [] rfl [0, 1, 3, 2] (by decide) ?_⟩)
      exact absRf (jn @f1 (jn @f2 (jn @f3 (jn @f4 (jn @f5 (jn @f6 (jn @f9 (jn @f10 (jn @f11 (jn @f12 (jn @f13 @f14)))))))))))
  rintro F2 H2 ⟨rfl, rfl⟩
  refine AW_fin false try_mixed (by kernel_rfl) ?_
  have g'8 := (jn @hbpp (jn @hb0pp (jn @hbs (jn @hb0s (jn @hbq (jn @hb0q (jn @h8d (jn @ints_len @ints_ones))))))))
  refine runTf g'8 ?_
  refine call_v (by kernel_rfl) (ktaught_c _ _ l ⟨_, _, _, rfl, by first | exact hb0s _ | exact hbs⟩ (by assumption)) ?_
  refine runTf g'8 ?_
  refine cond_split (fun h15 => ?_) (fun h15 => ?_)
  · have h15d := bsT h15
    have hfinP := ln_0 hR (if_neg (by rw [h15d]; decide))
    have hfinO := ownG_p hx0
    have g'9 := (jn @h15 (jn @h15d g'8))
    refine runTf g'9 ?_
    refine hQ _ _ (end_byG (.inl rfl) hbel (x1 := .tup [.agg [.int .i64 W, .int .i64 Hh, .sl (some (H.length + 2, 0)) xs.length none], .int .i64 0]) (l2 := [.cells true 1 (ints .u8 xs)]) (.tup [.agg [.int .i64 W, .int .i64 Hh, .sl (some (H.length, 0)) xs.length none], .int .i64 0]) (resT Tryz.results25) [] rfl [2] (by decide) ⟨by first | (rw [hfinP.1, hfinP.2.1, hfinP.2.2.1, hfinP.2.2.2]; done) | (rw [hfinP.1, hfinP.2.1, hfinP.2.2.1, hfinP.2.2.2]; rfl) | skip, by first | (rw [hfinP.2.1, hfinO]; done) | (rw [hfinP.2.1, hfinO]; rfl) | (rw [hfinP.2.1]; done) | (rw [hfinP.2.1]; rfl) | skip⟩ ?_)
    exact absW
  · have h15d := bsT h15
    have htau := h15d
    have g'10 := (jn @h15 (jn @h15d g'8))
    refine runTf g'10 ?_
    refine call_v (by kernel_rfl) (kall_c _ W Hh _ xs _ l _ sc g ⟨_, _, _, rfl, by first | exact hb0pp _ | exact hbpp⟩ ⟨_, _, _, rfl, by first | exact hb0s _ | exact hbs⟩ ⟨_, _, _, rfl, by first | exact hb0q _ | exact hbq⟩ hV hS hl0 hsB (by omega)) ?_
    refine runTf g'10 ?_
    refine go_loop try_mixed (by kernel_rfl) (fun k F Hx => ∃ i : Nat, i + k = (allL W Hh l sc g).length ∧ lrnF W Hh (allL W Hh l sc g) xs = lrnF W Hh ((allL W Hh l sc g).drop i) (lfS W (allL W Hh l sc g) xs i) ∧ F = [(1, .sl (some (bs, 0)) l.length cs), (2, .sl (some (bq, 0)) sc.length cq), (3, .int .i64 g), (4, .ptr (some (H.length, 0))), (8, .ptr (some (H.length + 1, 0))), (10, .ptr (some (H.length + 3, 0))), (41, .sl (some (H.length + 4, 0)) ((allL W Hh l sc g).length) none), (42, .int .i64 (((allL W Hh l sc g).length : Nat) : Int)), (43, .int .i64 ((i : Nat) : Int))] ∧ Hx = H ++ [.cells true 0 [.int .i64 W, .int .i64 Hh, .sl (some (bpp, 0)) xs.length cpp], .cells true 0 [.int .i64 0, .int .i64 0, .sl none 0 (some 0)], .cells true 1 (ints .u8 (lfS W (allL W Hh l sc g) xs i)), .cells true 0 [.int .i64 W, .int .i64 Hh, .sl (some (H.length + 2, 0)) ((lfS W (allL W Hh l sc g) xs i).length) none], .cells (ownG (rowA W Hh l sc g).length) 2 (prs (allL W Hh l sc g))]) ((allL W Hh l sc g).length) ?_ ?_
    · refine ⟨_, _, _, ⟨0, by omega, rfl, rfl, rfl⟩, Abs.byG hbel [] rfl [0, 1, 2, 3, 4] (by decide) ?_⟩
      exact absRf @lfS.eq_1
    · rintro k0 F Hx ⟨i, hm0, hrem, rfl, rfl⟩ J0 hJ0
      have g'11 := (jn @prs_len (jn @prs_one g'10))
      refine runTf g'11 ?_
      refine cond_split (fun h16 => ?_) (fun h16 => ?_)
      · have h16d := bsT h16
        have hlt : i < (allL W Hh l sc g).length := by omega
        have hfv := lfS_vld (W := W) (A := (allL W Hh l sc g)) hV i
        obtain ⟨j1, j2, j3, j4, j5, -⟩ := (vld_iff.1 hfv).idx (gin_mem hlt hA)
        have q17 := prs_load (l := allL W Hh l sc g) (j := i) (by omega)
        have q18 := ints_get (k := .u8) (xs := lfS W (allL W Hh l sc g) xs i) (j := (((g2 (allL W Hh l sc g) i) * W) + (g1 (allL W Hh l sc g) i)).toNat) (by omega)
        have g'12 := (jn @h16 (jn @h16d (jn @q17 (jn @q18 g'11))))
        refine runTf g'12 ?_
        refine cond_split (fun h19 => ?_) (fun h19 => ?_)
        · have h19d := bsT h19
          have h19n := bnT h19
          have hfinP := ln_11 hR (by unfold lnO; rw [if_pos htau, hrem, lrnF_step hlt hA, if_pos (by simpa using h19d)]; rfl)
          have g'13 := (jn @h19 (jn @h19n (jn @int_bne (jn @int_beq g'12))))
          refine runTf g'13 ?_
          refine hQ _ _ (end_byG (.inl rfl) hbel (x1 := .tup [.agg [.int .i64 0, .int .i64 0, .sl none 0 (some 0)], .int .i64 11]) (l2 := [.cells false 1 []]) (.tup [.agg [.int .i64 0, .int .i64 0, .sl (some (H.length, 0)) 0 none], .int .i64 11]) (resT Tryz.results25) [.cells false 1 []] rfl [6] (by decide) ⟨by first | (rw [hfinP.1, hfinP.2.1, hfinP.2.2.1, hfinP.2.2.2]; done) | (rw [hfinP.1, hfinP.2.1, hfinP.2.2.1, hfinP.2.2.2]; rfl) | skip, by first | (rw [hfinP.2.1, hfinO]; done) | (rw [hfinP.2.1, hfinO]; rfl) | (rw [hfinP.2.1]; done) | (rw [hfinP.2.1]; rfl) | skip⟩ ?_)
          exact absW
        · have h19d := bsT h19
          have h19n := bnT h19
          have hne : ¬ gi (lfS W (allL W Hh l sc g) xs i) (((g2 (allL W Hh l sc g) i) * W) + (g1 (allL W Hh l sc g) i)).toNat = 2 := by simpa using h19d
          have g'14 := (jn @h19 (jn @h19n (jn @int_bne (jn @int_beq (jn @ints_set1 (jn @List.length_set.{0} g'12))))))
          refine runTf g'14 ?_
          refine hJ0 _ _ ⟨k0 - 1, by omega, _, _, _, ⟨i + 1, by omega, hrem.trans ((lrnF_step hlt hA).trans (if_neg hne)), rfl, rfl⟩, Abs.byG hbel [] rfl [0, 1, 2, 3, 4] (by decide) ?_⟩
          exact absRf (jn @lfS.eq_2 @List.length_set.{0})
      · have h16d := bsT h16
        obtain rfl : i = (allL W Hh l sc g).length := by omega
        rw [List.drop_length] at hrem
        have g'15 := (jn @h16 (jn @h16d g'11))
        refine runTf g'15 ?_
        refine go_loop try_mixed (by kernel_rfl) (fun k F Hx => ∃ i : Nat, i + k = sc.length ∧ lnO W Hh xs l sc g = lrnW W Hh (echL l (sc.drop i) g) (lwS W Hh l sc g (lfS W (allL W Hh l sc g) xs (allL W Hh l sc g).length) i) ∧ F = [(1, .sl (some (bs, 0)) l.length cs), (3, .int .i64 g), (4, .ptr (some (H.length, 0))), (8, .ptr (some (H.length + 1, 0))), (10, .ptr (some (H.length + 3, 0))), (66, .sl (some (bq, 0)) sc.length cq), (67, .int .i64 ((sc.length : Nat) : Int)), (68, .int .i64 ((i : Nat) : Int))] ∧ Hx = H ++ [.cells true 0 [.int .i64 W, .int .i64 Hh, .sl (some (bpp, 0)) xs.length cpp], .cells true 0 [.int .i64 0, .int .i64 0, .sl none 0 (some 0)], .cells true 1 (ints .u8 (lwS W Hh l sc g (lfS W (allL W Hh l sc g) xs (allL W Hh l sc g).length) i)), .cells true 0 [.int .i64 W, .int .i64 Hh, .sl (some (H.length + 2, 0)) ((lwS W Hh l sc g (lfS W (allL W Hh l sc g) xs (allL W Hh l sc g).length) i).length) none]]) (sc.length) ?_ ?_
        · refine ⟨_, _, _, ⟨0, by omega, by unfold lnO; rw [if_pos htau, hrem]; rfl, rfl, rfl⟩, Abs.byG hbel [] rfl [0, 1, 2, 3] (by decide) ?_⟩
          exact absRf @lwS.eq_1
        · rintro k1 F Hx ⟨i, hm1, hrem2, rfl, rfl⟩ J1 hJ1
          refine runTf g'15 ?_
          refine cond_split (fun h20 => ?_) (fun h20 => ?_)
          · have h20d := bsT h20
            have hlt : i < sc.length := by omega
            have hbi := beaB_iff.1 (hsc2.2 _ (List.getElem_mem hlt))
            rw [← pr_eq hlt] at hbi
            have hwv := lwS_vld (W := W) (Hh := Hh) (l := l) (sc := sc) (g := g) (lfS_vld (W := W) (A := (allL W Hh l sc g)) hV (allL W Hh l sc g).length) i
            have hsl := susL_len (l := l) (m := g1 sc i) (r := g2 sc i) (g := g) hS
            have q21 := prs_load (l := sc) (j := i) (by omega)
            have g'16 := (jn @h20 (jn @h20d (jn @q21 g'15)))
            refine runTf g'16 ?_
            refine cond_split (fun h22 => ?_) (fun h22 => ?_)
            · have h22d := bsT h22
              have h22n := bnT h22
              have hr1 : g2 sc i = -1 := by simpa using h22d
              have hst := lwS_skip (W := W) (Hh := Hh) (l := l) (g := g) (o := (lfS W (allL W Hh l sc g) xs (allL W Hh l sc g).length)) hr1
              have hnx := lwS_next (W := W) (Hh := Hh) (l := l) (g := g) (o := (lfS W (allL W Hh l sc g) xs (allL W Hh l sc g).length)) hlt (.inl hr1)
              have g'17 := (jn @h22 (jn @h22n (jn @int_bne (jn @int_beq g'16))))
              refine runTf g'17 ?_
              refine hJ1 _ _ ⟨k1 - 1, by omega, _, _, _, ⟨i + 1, by omega, hrem2.trans hnx, rfl, rfl⟩, Abs.byG hbel [] rfl [0, 1, 2, 3] (by decide) ?_⟩
              exact absRf (jn @hst @List.length_set.{0})
            · have h22d := bsT h22
              have h22n := bnT h22
              have hr1 : ¬ g2 sc i = -1 := by simpa using h22d
              have g'18 := (jn @h22 (jn @h22n (jn @int_bne (jn @int_beq g'16))))
              refine runTf g'18 ?_
              refine call_v (by kernel_rfl) (ksus2_c _ _ l (g1 sc i) (g2 sc i) g ⟨_, _, _, rfl, by first | exact hb0s _ | exact hbs⟩ hS (by omega) (by omega)) ?_
              refine runTf g'18 ?_
              refine call_v (by kernel_rfl) (del_cell _ _ _ (susL l (g1 sc i) (g2 sc i) g) (by rw [get_newk]; rfl) (Nat.le_trans (susL_len hS) (by decide)) _ [.ptr (some (H.length + 3, 0))] (by kernel_rfl) (by simp [AV.bels, AV.bel]) (frP W Hh (lwS W Hh l sc g (lfS W (allL W Hh l sc g) xs (allL W Hh l sc g).length) i)) (fun X e L he => learn1_c _ e.1 e.2 W Hh (.sl (some (H.length + 2, 0)) (lwS W Hh l sc g (lfS W (allL W Hh l sc g) xs (allL W Hh l sc g).length) i).length none) (lwS W Hh l sc g (lfS W (allL W Hh l sc g) xs (allL W Hh l sc g).length) i) _ ⟨_, _, _, rfl, by rw [set_newk, List.append_assoc, get_newk]; rfl⟩ ⟨_, by rw [set_newk, List.append_assoc, get_newk]; rfl⟩ (lwS_vld (lfS_vld hV _) _))) ?_
              refine runTf g'18 ?_
              refine cond_split (fun h23 => ?_) (fun h23 => ?_)
              · have h23d := bsT h23
                have h23n := bnT h23
                have hd0 : (delL (frP W Hh (lwS W Hh l sc g (lfS W (allL W Hh l sc g) xs (allL W Hh l sc g).length) i)) (susL l (g1 sc i) (g2 sc i) g)).length = 0 := by have q := h23d; omega
                have hfinP := ln_11 hR (hrem2.trans (lwS_bad hlt hr1 hd0))
                have g'19 := (jn @h23 (jn @h23n g'18))
                refine runTf g'19 ?_
                refine hQ _ _ (end_byG (.inl rfl) hbel (x1 := .tup [.agg [.int .i64 0, .int .i64 0, .sl none 0 (some 0)], .int .i64 11]) (l2 := [.cells false 1 []]) (.tup [.agg [.int .i64 0, .int .i64 0, .sl (some (H.length, 0)) 0 none], .int .i64 11]) (resT Tryz.results25) [.cells false 1 []] rfl [6] (by decide) ⟨by first | (rw [hfinP.1, hfinP.2.1, hfinP.2.2.1, hfinP.2.2.2]; done) | (rw [hfinP.1, hfinP.2.1, hfinP.2.2.1, hfinP.2.2.2]; rfl) | skip, by first | (rw [hfinP.2.1, hfinO]; done) | (rw [hfinP.2.1, hfinO]; rfl) | (rw [hfinP.2.1]; done) | (rw [hfinP.2.1]; rfl) | skip⟩ ?_)
                exact absW
              · have h23d := bsT h23
                have h23n := bnT h23
                have hd0 : ¬ (delL (frP W Hh (lwS W Hh l sc g (lfS W (allL W Hh l sc g) xs (allL W Hh l sc g).length) i)) (susL l (g1 sc i) (g2 sc i) g)).length = 0 := by have q := h23d; first | omega | (rw [beq_eq_false_iff_ne] at q; omega)
                have hp1 : g1 (padL (susL l (g1 sc i) (g2 sc i) g).length (delL (frP W Hh (lwS W Hh l sc g (lfS W (allL W Hh l sc g) xs (allL W Hh l sc g).length) i)) (susL l (g1 sc i) (g2 sc i) g))) 0 = g1 (delL (frP W Hh (lwS W Hh l sc g (lfS W (allL W Hh l sc g) xs (allL W Hh l sc g).length) i)) (susL l (g1 sc i) (g2 sc i) g)) 0 := pad_g1 hd0
                have hp2 : g2 (padL (susL l (g1 sc i) (g2 sc i) g).length (delL (frP W Hh (lwS W Hh l sc g (lfS W (allL W Hh l sc g) xs (allL W Hh l sc g).length) i)) (susL l (g1 sc i) (g2 sc i) g))) 0 = g2 (delL (frP W Hh (lwS W Hh l sc g (lfS W (allL W Hh l sc g) xs (allL W Hh l sc g).length) i)) (susL l (g1 sc i) (g2 sc i) g)) 0 := pad_g2 hd0
                have hsfp := pad_len (p := frP W Hh (lwS W Hh l sc g (lfS W (allL W Hh l sc g) xs (allL W Hh l sc g).length) i)) (l := (susL l (g1 sc i) (g2 sc i) g))
                have hpn := delL_le (p := frP W Hh (lwS W Hh l sc g (lfS W (allL W Hh l sc g) xs (allL W Hh l sc g).length) i)) (l := (susL l (g1 sc i) (g2 sc i) g))
                have hnx := lwS_next (W := W) (Hh := Hh) (l := l) (g := g) (o := (lfS W (allL W Hh l sc g) xs (allL W Hh l sc g).length)) hlt (.inr hd0)
                have q24 := (show List.take 2 (prs (padL (susL l (g1 sc i) (g2 sc i) g).length (delL (frP W Hh (lwS W Hh l sc g (lfS W (allL W Hh l sc g) xs (allL W Hh l sc g).length) i)) (susL l (g1 sc i) (g2 sc i) g)))) = [.int .i64 (g1 (padL (susL l (g1 sc i) (g2 sc i) g).length (delL (frP W Hh (lwS W Hh l sc g (lfS W (allL W Hh l sc g) xs (allL W Hh l sc g).length) i)) (susL l (g1 sc i) (g2 sc i) g))) 0), .int .i64 (g2 (padL (susL l (g1 sc i) (g2 sc i) g).length (delL (frP W Hh (lwS W Hh l sc g (lfS W (allL W Hh l sc g) xs (allL W Hh l sc g).length) i)) (susL l (g1 sc i) (g2 sc i) g))) 0)] from by have q := prs_load (l := padL (susL l (g1 sc i) (g2 sc i) g).length (delL (frP W Hh (lwS W Hh l sc g (lfS W (allL W Hh l sc g) xs (allL W Hh l sc g).length) i)) (susL l (g1 sc i) (g2 sc i) g))) (j := 0) (by omega); rwa [Nat.zero_mul, List.drop_zero] at q)
                have g'20 := (jn @h23 (jn @h23n (jn @hsfp (jn @q24 g'18))))
                refine runTf g'20 ?_
                refine gd_split (fun h25 => ?_) (fun h25 => ?_)
                · have h25d := bsT h25
                  have h25n := bnT h25
                  have hd1 : (delL (frP W Hh (lwS W Hh l sc g (lfS W (allL W Hh l sc g) xs (allL W Hh l sc g).length) i)) (susL l (g1 sc i) (g2 sc i) g)).length = 1 := by have q := h25d; omega
                  have g'21 := (jn @h25 (jn @h25n g'20))
                  refine runTf g'21 ?_
                  refine call_v (by kernel_rfl) (kwithin_c _ (g1 (padL (susL l (g1 sc i) (g2 sc i) g).length (delL (frP W Hh (lwS W Hh l sc g (lfS W (allL W Hh l sc g) xs (allL W Hh l sc g).length) i)) (susL l (g1 sc i) (g2 sc i) g))) 0) 0 (W - 1)) ?_
                  refine runTf g'21 ?_
                  refine gd_split (fun h26 => ?_) (fun h26 => ?_)
                  · have h26d := bsT h26
                    have hd2 := h26d
                    rw [hp1] at hd2
                    have g'22 := (jn @h26 (jn @h26d g'21))
                    refine runTf g'22 ?_
                    refine call_v (by kernel_rfl) (kwithin_c _ (g2 (padL (susL l (g1 sc i) (g2 sc i) g).length (delL (frP W Hh (lwS W Hh l sc g (lfS W (allL W Hh l sc g) xs (allL W Hh l sc g).length) i)) (susL l (g1 sc i) (g2 sc i) g))) 0) 0 (Hh - 1)) ?_
                    refine runTf g'22 ?_
                    refine cond_split (fun h27 => ?_) (fun h27 => ?_)
                    · have h27d := bsT h27
                      have hd3 := h27d
                      rw [hp2] at hd3
                      have hst := lwS_set (W := W) (Hh := Hh) (l := l) (g := g) (o := (lfS W (allL W Hh l sc g) xs (allL W Hh l sc g).length)) hr1 ⟨hd1, hd2, hd3⟩
                      rw [← hp1, ← hp2] at hst
                      obtain ⟨j1, j2, j3, j4, j5, -⟩ := (vld_iff.1 hwv).idx (x := g1 (padL (susL l (g1 sc i) (g2 sc i) g).length (delL (frP W Hh (lwS W Hh l sc g (lfS W (allL W Hh l sc g) xs (allL W Hh l sc g).length) i)) (susL l (g1 sc i) (g2 sc i) g))) 0) (y := g2 (padL (susL l (g1 sc i) (g2 sc i) g).length (delL (frP W Hh (lwS W Hh l sc g (lfS W (allL W Hh l sc g) xs (allL W Hh l sc g).length) i)) (susL l (g1 sc i) (g2 sc i) g))) 0) (inB_iff.2 (by rw [hp1, hp2]; have := btw_iff.1 hd2; have := btw_iff.1 hd3; omega))
                      have g'23 := (jn @h27 (jn @h27d (jn @ints_set1 (jn @List.length_set.{0} g'22))))
                      refine runTf g'23 ?_
                      refine hJ1 _ _ ⟨k1 - 1, by omega, _, _, _, ⟨i + 1, by omega, hrem2.trans hnx, rfl, rfl⟩, Abs.byG hbel [] rfl [0, 1, 2, 3] (by decide) ?_⟩
                      exact absRf (jn @hst @List.length_set.{0})
                    · have h27d := bsT h27
                      have hd3 := h27d
                      rw [hp2] at hd3
                      have hst := lwS_same (W := W) (Hh := Hh) (l := l) (g := g) (o := (lfS W (allL W Hh l sc g) xs (allL W Hh l sc g).length)) hr1 (fun q => by rw [hd3] at q; exact absurd q.2.2 (by decide))
                      have g'24 := (jn @h27 (jn @h27d g'22))
                      refine runTf g'24 ?_
                      refine hJ1 _ _ ⟨k1 - 1, by omega, _, _, _, ⟨i + 1, by omega, hrem2.trans hnx, rfl, rfl⟩, Abs.byG hbel [] rfl [0, 1, 2, 3] (by decide) ?_⟩
                      exact absRf (jn @hst @List.length_set.{0})
                  · have h26d := bsT h26
                    have hd2 := h26d
                    rw [hp1] at hd2
                    have hst := lwS_same (W := W) (Hh := Hh) (l := l) (g := g) (o := (lfS W (allL W Hh l sc g) xs (allL W Hh l sc g).length)) hr1 (fun q => by rw [hd2] at q; exact absurd q.2.1 (by decide))
                    have g'25 := (jn @h26 (jn @h26d g'21))
                    refine runTf g'25 ?_
                    refine hJ1 _ _ ⟨k1 - 1, by omega, _, _, _, ⟨i + 1, by omega, hrem2.trans hnx, rfl, rfl⟩, Abs.byG hbel [] rfl [0, 1, 2, 3] (by decide) ?_⟩
                    exact absRf (jn @hst @List.length_set.{0})
                · have h25d := bsT h25
                  have h25n := bnT h25
                  have hd1 : ¬ (delL (frP W Hh (lwS W Hh l sc g (lfS W (allL W Hh l sc g) xs (allL W Hh l sc g).length) i)) (susL l (g1 sc i) (g2 sc i) g)).length = 1 := by have q := h25d; first | omega | (rw [beq_eq_false_iff_ne] at q; omega)
                  have hst := lwS_same (W := W) (Hh := Hh) (l := l) (g := g) (o := (lfS W (allL W Hh l sc g) xs (allL W Hh l sc g).length)) hr1 (fun q => hd1 q.1)
                  have g'26 := (jn @h25 (jn @h25n g'20))
                  refine runTf g'26 ?_
                  refine hJ1 _ _ ⟨k1 - 1, by omega, _, _, _, ⟨i + 1, by omega, hrem2.trans hnx, rfl, rfl⟩, Abs.byG hbel [] rfl [0, 1, 2, 3] (by decide) ?_⟩
                  exact absRf (jn @hst @List.length_set.{0})
          · have h20d := bsT h20
            obtain rfl : i = sc.length := by omega
            rw [List.drop_length] at hrem2
            have hfinP := ln_0 hR hrem2
            have hfinO : ownG (lwS W Hh l sc g (lfS W (allL W Hh l sc g) xs (allL W Hh l sc g).length) sc.length).length = true := ownG_p (by have := vld_pos (lwS_vld (W := W) (Hh := Hh) (l := l) (sc := sc) (g := g) (lfS_vld (W := W) (A := (allL W Hh l sc g)) hV (allL W Hh l sc g).length) sc.length); omega)
            have g'27 := (jn @h20 (jn @h20d g'15))
            refine runTf g'27 ?_
            refine hQ _ _ (end_byG (.inl rfl) hbel (x1 := .tup [.agg [.int .i64 W, .int .i64 Hh, .sl (some (H.length + 2, 0)) ((lwS W Hh l sc g (lfS W (allL W Hh l sc g) xs (allL W Hh l sc g).length) sc.length).length) none], .int .i64 0]) (l2 := [.cells true 1 (ints .u8 (lwS W Hh l sc g (lfS W (allL W Hh l sc g) xs (allL W Hh l sc g).length) sc.length))]) (.tup [.agg [.int .i64 W, .int .i64 Hh, .sl (some (H.length, 0)) ((lwS W Hh l sc g (lfS W (allL W Hh l sc g) xs (allL W Hh l sc g).length) sc.length).length) none], .int .i64 0]) (resT Tryz.results25) [] rfl [2] (by decide) ⟨by first | (rw [hfinP.1, hfinP.2.1, hfinP.2.2.1, hfinP.2.2.2]; done) | (rw [hfinP.1, hfinP.2.1, hfinP.2.2.1, hfinP.2.2.2]; rfl) | skip, by first | (rw [hfinP.2.1, hfinO]; done) | (rw [hfinP.2.1, hfinO]; rfl) | (rw [hfinP.2.1]; done) | (rw [hfinP.2.1]; rfl) | skip⟩ ?_)
            exact absW
open Go.RowKit
theorem kright0_c (H : AHeap) (W : Int) (Hh : Int) (pp : AV) (xs : List Int)   (g : Int) (hpp : Sl H 1 pp xs.length (ints .u8 xs)) : ACalls Tryz.prog 68 [.agg [.int .i64 W, .int .i64 Hh, pp], .sl none 0 (some 0), .sl none 0 (some 0), .int .i64 g] H (fun v H' => v = .bool false ∧ H' = H) := by
  obtain ⟨bpp, opp, cpp, rfl, hbpp⟩ := hpp
  have hblpp := getElem?_lt hbpp
  have hb0pp := fun l => get_app (l := l) hbpp
  refine AcT true Tryz.func68 ?_; intro hbel Q hQ
  have g'1 := (jn @hbpp @hb0pp)
  refine runTf g'1 ?_
  refine call_v (by kernel_rfl) (valid_a _ W Hh _ xs (.inr ⟨_, _, _, rfl, by first | exact hb0pp _ | exact hbpp⟩)) ?_
  refine runTf g'1 ?_
  refine gd_split (fun h1 => ?_) (fun h1 => ?_)
  · have h1d := bsT h1
    have g'2 := (jn @h1 (jn @h1d g'1))
    refine runTf g'2 ?_
    exact hQ _ _ (end_plain (.inl rfl) hbel (x := .bool false) (resT Tryz.results68) rfl ⟨rfl, rfl⟩)
  · have h1d := bsT h1
    have g'3 := (jn @h1 (jn @h1d g'1))
    refine runTf g'3 ?_
    exact hQ _ _ (end_plain (.inl rfl) hbel (x := .bool false) (resT Tryz.results68) rfl ⟨rfl, rfl⟩)
theorem learn0_c (H : AHeap) (W : Int) (Hh : Int) (pp : AV) (xs : List Int)   (g : Int) (hpp : Sl H 1 pp xs.length (ints .u8 xs)) : ACalls Tryz.prog 25 [.agg [.int .i64 W, .int .i64 Hh, pp], .sl none 0 (some 0), .sl none 0 (some 0), .int .i64 g] H (fun v H' => v = .tup [.agg [.int .i64 0, .int .i64 0, .sl none 0 (some 0)], .int .i64 1] ∧ H' = H) := by
  obtain ⟨bpp, opp, cpp, rfl, hbpp⟩ := hpp
  have hblpp := getElem?_lt hbpp
  have hb0pp := fun l => get_app (l := l) hbpp
  (refine ACalls_pieces Tryz.func25 _ rfl (Nat.le_of_ble_eq_true (by kernel_rfl)) rfl ?_; intro hbel Q hQ hQ' c hc; unfold Tryz.f25 at hc; simp only [Option.some.injEq] at hc; subst hc; clear hQ')
  refine AW_seqQ fun Q1 hn1 hr1 he1 => ?_
  have hQ1 := fun F H' h => hr1 F H' (hQ F H' h)
  refine AW_fin true try_mixed (by kernel_rfl) ?_
  have g'4 := (jn @hbpp @hb0pp)
  refine runTf g'4 ?_
  refine hn1 _ _ ?_
  refine AW_seqQ fun Q2 hn2 hr2 he2 => ?_
  have hQ2 := fun F H' h => hr2 F H' (hQ F H' h)
  refine AW_fin true try_mixed (by kernel_rfl) ?_
  refine runTf g'4 ?_
  refine call_v (by kernel_rfl) (kright0_c _ W Hh _ xs g ⟨_, _, _, rfl, by first | exact hb0pp _ | exact hbpp⟩) ?_
  refine runTf g'4 ?_
  exact hQ2 _ _ (end_plain (.inl rfl) hbel (x := .tup [.agg [.int .i64 0, .int .i64 0, .sl none 0 (some 0)], .int .i64 1]) (resT Tryz.results25) rfl ⟨rfl, rfl⟩)
open Go.RowKit
theorem allL_le {W Hh : Int} {l : List T6} {sc : List (Int × Int)} {g : Int} (h : scnB sc = true) : (allL W Hh l sc g).length ≤ 231200 := by
  have := allL_len (W := W) (Hh := Hh) (l := l) (sc := sc) (g := g)
  have := (scnB_iff.1 h).1
  omega
theorem susL_le {l : List T6} {m r g : Int} (hS : setB l = true) : (susL l m r g).length ≤ 231200 := by
  have h1 := swS_len (dirA l m) r g (dirA l m).length
  have h3 : (rowU l m r g).length ≤ 231200 := by
    unfold rowU; split
    · simp
    · rename_i h
      have ht : tauB l = true := by
        rw [Bool.or_eq_true, not_or] at h
        simpa using h.2
      have := dirA_tau hS ht m
      omega
  unfold susL
  have := cpt_len (srtC (rowU l m r g)); rw [srtC_len] at this; omega
theorem pvL_le {W Hh : Int} {xs : List Int} {l : List T6} {sc : List (Int × Int)} {g : Int} : (pvL W Hh xs l sc g).length ≤ 1000000 := by
  unfold pvL; split
  · rename_i h; have := allL_le (W := W) (Hh := Hh) (l := l) (g := g) (rgtA_iff.1 h).2.2.2.1; omega
  · simp
theorem ssL_le {W Hh : Int} {xs : List Int} {l : List T6} {m r g : Int} : (ssL W Hh xs l m r g).length ≤ 1000000 := by
  unfold ssL; split
  · rename_i h; have := susL_le (m := m) (r := r) (g := g) (rgtA_iff.1 h).2.2.1; omega
  · simp
/-- What the document's example gives. -/
theorem all_put {W Hh : Int} {l : List T6} {sc : List (Int × Int)} {g : Int} : allL W Hh l sc g = (rowA W Hh l sc g).foldl (fun o c => putK c o) [] := cpt_put (srtC_sorted _) fun _ => (srtC_perm _).mem_iff
theorem sus_put {l : List T6} {m r g : Int} : susL l m r g = (rowU l m r g).foldl (fun o c => putK c o) [] := cpt_put (srtC_sorted _) fun _ => (srtC_perm _).mem_iff
theorem aw_all : allL 4 1 [(32, 32, 40, 32, 0, 1)] [(0, 160)] 4 = [(0, 0), (1, 0), (2, 0)] := by rw [all_put]; decide +kernel
theorem aw_sus : susL [(32, 32, 40, 32, 0, 1)] 0 160 4 = [(2, 0), (3, 0)] := by rw [sus_put]; decide +kernel
theorem aw_rgt : rgtA 4 1 (List.replicate 4 0) [(32, 32, 40, 32, 0, 1)] [(0, 160)] 4 = true := by decide +kernel
theorem aw_tau : tauB [(32, 32, 40, 32, 0, 1)] = true := by decide +kernel
theorem aw_ln : lnO 4 1 (List.replicate 4 0) [(32, 32, 40, 32, 0, 1)] [(0, 160)] 4 = some [1, 1, 1, 2] := by
  unfold lnO echL
  rw [if_pos aw_tau, aw_all]
  show Option.bind _ (lrnW 4 1 [susL [(32, 32, 40, 32, 0, 1)] 0 160 4]) = _
  rw [aw_sus]; decide +kernel
open Go.RowKit
theorem g12_eq {l m : List (Int × Int)} {j : Nat} (hj : j < l.length) (hm : j < m.length) (h1 : g1 l j = g1 m j) (h2 : g2 l j = g2 m j) : l[j] = m[j] := by
  rw [← pr_eq hj, ← pr_eq hm, h1, h2]
theorem eq_of_all {l m : List (Int × Int)} (hl : l.length = m.length) (h : ∀ j : Nat, j < l.length → g1 l j = g1 m j ∧ g2 l j = g2 m j) : l = m :=
  List.ext_getElem hl fun j a b => g12_eq a b (h j a).1 (h j a).2
theorem ne_of_some {l m : List (Int × Int)} {j : Nat} (h : ¬ (g1 l j = g1 m j ∧ g2 l j = g2 m j)) : decide (l = m) = false := decide_eq_false fun e => h (by rw [e]; exact ⟨rfl, rfl⟩)
theorem bcells_c (H : AHeap) (s : AV) (l : List (Int × Int)) (t : AV) (m : List (Int × Int)) (hs : Sl H 2 s l.length (prs l)) (ht : Sl H 2 t m.length (prs m)) (hl : l.length ≤ 1000000) (hm : m.length ≤ 1000000) : ACalls Tryz.prog 20 [s, t] H (fun v H' => v = .bool (decide (l = m)) ∧ H' = H) := by
  obtain ⟨bs, os, cs, rfl, hbs⟩ := hs
  have hbls := getElem?_lt hbs
  have hb0s := fun l => get_app (l := l) hbs
  obtain ⟨bt, ot, ct, rfl, hbt⟩ := ht
  have hblt := getElem?_lt hbt
  have hb0t := fun l => get_app (l := l) hbt
  refine AcT true Tryz.func20 ?_; intro hbel Q hQ
  have g'1 := (jn @hbs (jn @hb0s (jn @hbt @hb0t)))
  refine runTf g'1 ?_
  refine cond_split (fun h1 => ?_) (fun h1 => ?_)
  · have h1d := bsT h1
    have h1n := bnT h1
    have hfinR : decide (l = m) = false := decide_eq_false fun e => by first | exact h1d (by rw [e]) | simp [e] at h1d
    have g'2 := (jn @h1 (jn @h1n (jn @int_bne (jn @int_beq g'1))))
    refine runTf g'2 ?_
    exact hQ _ _ (end_plain0 (.inl rfl) hbel (x := .bool false) (resT Tryz.results20) rfl ⟨by rw [hfinR], rfl⟩)
  · have h1d := bsT h1
    have h1n := bnT h1
    have hlen : l.length = m.length := by first | omega | (simp at h1d; omega)
    have g'3 := (jn @h1 (jn @h1n (jn @int_bne (jn @int_beq g'1))))
    refine runTf g'3 ?_
    refine go_loop try_mixed (by kernel_rfl) (fun k F Hx => ∃ i : Nat, i + k = l.length ∧ (∀ j : Nat, j < i → g1 l j = g1 m j ∧ g2 l j = g2 m j) ∧ F = [(0, .sl (some (bs, 0)) l.length cs), (1, .sl (some (bt, 0)) m.length ct), (5, .int .i64 ((i : Nat) : Int))] ∧ H = Hx) (l.length) ?_ ?_
    · refine ⟨_, _, _, ⟨0, by omega, fun j h => by omega, rfl, rfl⟩, Abs.by0 hbel ?_⟩
      exact absW
    · rintro k0 F Hx ⟨i, hm0, hal, rfl, rfl⟩ J0 hJ0
      refine runTf g'3 ?_
      refine cond_split (fun h2 => ?_) (fun h2 => ?_)
      · have h2d := bsT h2
        have q3 := prs_load (l := l) (j := i) (by omega)
        have q4 := prs_load (l := m) (j := i) (by omega)
        have g'4 := (jn @h2 (jn @h2d (jn @q3 (jn @q4 g'3))))
        refine runTf g'4 ?_
        refine cond_split (fun h5 => ?_) (fun h5 => ?_)
        · have h5d := bsT h5
          have h5n := bnT h5
          have hfinR : decide (l = m) = false := ne_of_some (j := i) (by simpa using h5d)
          have g'5 := (jn @h5 (jn @h5n g'4))
          refine runTf g'5 ?_
          exact hQ _ _ (end_plain0 (.inl rfl) hbel (x := .bool false) (resT Tryz.results20) rfl ⟨by rw [hfinR], rfl⟩)
        · have h5d := bsT h5
          have h5n := bnT h5
          have hei : g1 l i = g1 m i ∧ g2 l i = g2 m i := by simpa using h5d
          have g'6 := (jn @h5 (jn @h5n g'4))
          refine runTf g'6 ?_
          refine hJ0 _ _ ⟨k0 - 1, by omega, _, _, _, ⟨i + 1, by omega, fun j hj => by
                      rcases Nat.lt_or_ge j i with h | h
                      · exact hal j h
                      · rw [show j = i by omega]; exact hei, rfl, rfl⟩, Abs.by0 hbel ?_⟩
          exact absW
      · have h2d := bsT h2
        have hfinR : decide (l = m) = true := decide_eq_true (eq_of_all hlen fun j hj => hal j (by omega))
        have g'7 := (jn @h2 (jn @h2d g'3))
        refine runTf g'7 ?_
        exact hQ _ _ (end_plain0 (.inl rfl) hbel (x := .bool true) (resT Tryz.results20) rfl ⟨by rw [hfinR], rfl⟩)
open Go.RowKit
theorem IsI.parts {H : AHeap} {k : IntKind} {s : AV} {l : List Int} (h : IsI H k s l) : ∃ a c, s = .sl a l.length c := by
  rcases h with ⟨rfl, rfl⟩ | ⟨b, own, cap, rfl, hb⟩
  · exact ⟨_, _, rfl⟩
  · exact ⟨_, _, rfl⟩
def bys (xs : List Int) : List UInt8 := xs.map fun n => UInt8.ofNat n.toNat
theorem bys_map : ∀ xs : List Int, (ints .u8 xs).mapM byteOf = some (bys xs)
  | [] => rfl
  | x :: xs => by
    have ih := bys_map xs
    show (AV.int .u8 x :: ints .u8 xs).mapM byteOf = _
    rw [List.mapM_cons, ih]
    rfl
theorem need_pos {p : Prop} [Decidable p] (h : p) : need p = some () := by unfold need; rw [if_pos h]
/-- A slice of bytes, as a text. -/
theorem conv_bytes {H : AHeap} {s : AV} {xs : List Int} (hs : IsI H .u8 s xs) : aConv Tryz.prog 22 9 s H = some (.str (bys xs)) := by
  have h1 := bys_map xs
  have key : ∀ a n c, aElems 1 (.sl a n c) H = some (n, ints .u8 xs) → aConv Tryz.prog 22 9 (.sl a n c) H = some (.str (bys xs)) := fun a n c he => by
    unfold aConv
    simp only [tElem22, Option.bind_some]
    rw [need_pos ⟨tInt5, by kernel_rfl⟩, Option.bind_some, he, Option.bind_some]
    simp only [h1, Option.map_some]
  rcases hs with ⟨rfl, rfl⟩ | ⟨b, own, cap, rfl, hb⟩
  · exact key none 0 (some 0) rfl
  · refine key _ _ _ ?_
    unfold aElems ards
    simp only [hb]
    rw [if_pos (by rw [ints_len]; omega), List.drop_zero, List.take_of_length_le (by rw [ints_len]; omega)]
    rfl
set_option maxRecDepth 100000 in
theorem plans_c (H : AHeap) (W Hh : Int) (xs : List Int) (s1 s2 : AV) (h1 : IsI H .u8 s1 xs) (h2 : IsI H .u8 s2 xs) : ACalls Tryz.prog 27 [.agg [.int .i64 W, .int .i64 Hh, s1], .agg [.int .i64 W, .int .i64 Hh, s2]] H (fun v H' => v = .bool true ∧ H' = H) := by
  have hc1 := fun l => conv_bytes (h1.app l)
  have hc2 := fun l => conv_bytes (h2.app l)
  obtain ⟨a1, c1, rfl⟩ := h1.parts
  obtain ⟨a2, c2, rfl⟩ := h2.parts
  refine AcT true Tryz.func27 ?_; intro hbel Q hQ
  simp -implicitDefEqProofs (disch := omega) only [hc1, hc2, simprocAttr, amset, tyset, Function.comp_apply, one1, lenV, calleeOf, lateOk, belowV, aop, AV.ofValue, AV.ofCell, AV.cells, AV.flat, AV.one, arep, aBin, aAppend]
  exact hQ _ _ (end_plain (.inl rfl) hbel (x := .bool true) (resT Tryz.results27) rfl ⟨rfl, rfl⟩)
/-- Plans that are the same. -/
theorem plans2_c (H : AHeap) (W Hh W2 Hh2 : Int) (xs ys : List Int) (s1 s2 : AV) (h1 : Sl H 1 s1 xs.length (ints .u8 xs)) (h2 : Sl H 1 s2 ys.length (ints .u8 ys)) (e1 : W = W2) (e2 : Hh = Hh2) (e3 : xs = ys) : ACalls Tryz.prog 27 [.agg [.int .i64 W, .int .i64 Hh, s1], .agg [.int .i64 W2, .int .i64 Hh2, s2]] H (fun v H' => v = .bool true ∧ H' = H) := by
  subst e1 e2 e3
  exact plans_c H W Hh xs s1 s2 (.inr h1) (.inr h2)
theorem awake_c (H : AHeap)  : ACalls Tryz.prog 15 [] H (fun v H' => v = .bool true ∧ H' = H) := by
  have apr : rgtA 4 1 (List.replicate 4 0) [(32, 32, 40, 32, 0, 1)] [(0, 160)] 4 = true := aw_rgt
  have ap := pv_t apr
  have asr : rgtA 4 1 (List.replicate 4 0) [(32, 32, 40, 32, 0, 1)] [(0, 160)] 4 = true := aw_rgt
  have asu := ss_t asr
  have aln := ln_0 apr aw_ln
  have hpvL : pvL 4 1 (List.replicate 4 0) [(32, 32, 40, 32, 0, 1)] [(0, 160)] 4 = [(0, 0), (1, 0), (2, 0)] := ap.2.1.trans aw_all
  have hssL : ssL 4 1 (List.replicate 4 0) [(32, 32, 40, 32, 0, 1)] 0 160 4 = [(2, 0), (3, 0)] := asu.2.1.trans aw_sus
  have heX := aln.2.1
  have heW := aln.2.2.1
  have heH := aln.2.2.2
  have hps : prsN [(32, 32, 40, 32, 0, 1)] = 1 := by decide +kernel
  refine AcT true Tryz.func15 ?_; intro hbel Q hQ
  have g'1 := (jn @ints_rep @List.length_replicate.{0})
  refine runTf g'1 ?_
  refine call_v (by kernel_rfl) (kProven_c _ 4 1 _ (List.replicate 4 0) _ [(32, 32, 40, 32, 0, 1)] _ [(0, 160)] 4 ⟨_, _, _, by first | rfl | (rw [List.length_append]; done) | (rw [List.length_append]; rfl), by first | rfl | (rw [get_newk]; rfl) | (rw [get_new0]; rfl) | (rw [get_newk, prs_append]; rfl) | (rw [get_new0, prs_append]; rfl)⟩ ⟨_, _, _, by first | rfl | (rw [List.length_append]; done) | (rw [List.length_append]; rfl), by first | rfl | (rw [get_newk]; rfl) | (rw [get_new0]; rfl) | (rw [get_newk, prs_append]; rfl) | (rw [get_new0, prs_append]; rfl)⟩ ⟨_, _, _, by first | rfl | (rw [List.length_append]; done) | (rw [List.length_append]; rfl), by first | rfl | (rw [get_newk]; rfl) | (rw [get_new0]; rfl) | (rw [get_newk, prs_append]; rfl) | (rw [get_new0, prs_append]; rfl)⟩ (by first | omega | simp) (by first | omega | simp)) ?_
  refine runTf g'1 ?_
  refine call_v (by kernel_rfl) (kSuspects_c _ 4 1 _ (List.replicate 4 0) _ [(32, 32, 40, 32, 0, 1)] 0 160 4 ⟨_, _, _, by first | rfl | (rw [List.length_append]; done) | (rw [List.length_append]; rfl), by first | rfl | (rw [get_newk]; rfl) | (rw [get_new0]; rfl) | (rw [get_newk, prs_append]; rfl) | (rw [get_new0, prs_append]; rfl)⟩ ⟨_, _, _, by first | rfl | (rw [List.length_append]; done) | (rw [List.length_append]; rfl), by first | rfl | (rw [get_newk]; rfl) | (rw [get_new0]; rfl) | (rw [get_newk, prs_append]; rfl) | (rw [get_new0, prs_append]; rfl)⟩ (by first | omega | simp)) ?_
  refine runTf g'1 ?_
  refine call_v (by kernel_rfl) (learn_c _ 4 1 _ (List.replicate 4 0) _ [(32, 32, 40, 32, 0, 1)] _ [(0, 160)] 4 ⟨_, _, _, by first | rfl | (rw [List.length_append]; done) | (rw [List.length_append]; rfl), by first | rfl | (rw [get_newk]; rfl) | (rw [get_new0]; rfl) | (rw [get_newk, prs_append]; rfl) | (rw [get_new0, prs_append]; rfl)⟩ ⟨_, _, _, by first | rfl | (rw [List.length_append]; done) | (rw [List.length_append]; rfl), by first | rfl | (rw [get_newk]; rfl) | (rw [get_new0]; rfl) | (rw [get_newk, prs_append]; rfl) | (rw [get_new0, prs_append]; rfl)⟩ ⟨_, _, _, by first | rfl | (rw [List.length_append]; done) | (rw [List.length_append]; rfl), by first | rfl | (rw [get_newk]; rfl) | (rw [get_new0]; rfl) | (rw [get_newk, prs_append]; rfl) | (rw [get_new0, prs_append]; rfl)⟩ (by first | omega | simp) (by first | omega | simp)) ?_
  refine runTf g'1 ?_
  refine call_v (by kernel_rfl) (learn0_c _ 4 1 _ (List.replicate 4 0) 4 ⟨_, _, _, by first | rfl | (rw [List.length_append]; done) | (rw [List.length_append]; rfl), by first | rfl | (rw [get_newk]; rfl) | (rw [get_new0]; rfl) | (rw [get_newk, prs_append]; rfl) | (rw [get_new0, prs_append]; rfl)⟩) ?_
  refine runTf g'1 ?_
  refine call_v (by kernel_rfl) (bcells_c _ _ (pvL 4 1 (List.replicate 4 0) [(32, 32, 40, 32, 0, 1)] [(0, 160)] 4) _ ([(0, 0), (1, 0), (2, 0)]) ⟨_, _, _, by first | rfl | (rw [List.length_append]; done) | (rw [List.length_append]; rfl), by first | rfl | (rw [get_newk]; rfl) | (rw [get_new0]; rfl) | (rw [get_newk, prs_append]; rfl) | (rw [get_new0, prs_append]; rfl)⟩ ⟨_, _, _, by first | rfl | (rw [List.length_append]; done) | (rw [List.length_append]; rfl), by first | rfl | (rw [get_newk]; rfl) | (rw [get_new0]; rfl) | (rw [get_newk, prs_append]; rfl) | (rw [get_new0, prs_append]; rfl)⟩ (by first | exact pvL_le | exact ssL_le | simp | omega) (by first | exact pvL_le | exact ssL_le | simp | omega)) ?_
  refine runTf g'1 ?_
  refine gd_split (fun h1 => ?_) (fun h1 => ?_)
  · have h1d := bsT h1
    have g'2 := (jn @h1 (jn @h1d g'1))
    refine runTf g'2 ?_
    refine gd_split (fun h2 => ?_) (fun h2 => ?_)
    · have h2d := bsT h2
      have h2n := bnT h2
      have g'3 := (jn @h2 (jn @h2n (jn @int_bne (jn @int_beq g'2))))
      refine runTf g'3 ?_
      refine call_v (by kernel_rfl) (bcells_c _ _ (ssL 4 1 (List.replicate 4 0) [(32, 32, 40, 32, 0, 1)] 0 160 4) _ ([(2, 0), (3, 0)]) ⟨_, _, _, by first | rfl | (rw [List.length_append]; done) | (rw [List.length_append]; rfl), by first | rfl | (rw [get_newk]; rfl) | (rw [get_new0]; rfl) | (rw [get_newk, prs_append]; rfl) | (rw [get_new0, prs_append]; rfl)⟩ ⟨_, _, _, by first | rfl | (rw [List.length_append]; done) | (rw [List.length_append]; rfl), by first | rfl | (rw [get_newk]; rfl) | (rw [get_new0]; rfl) | (rw [get_newk, prs_append]; rfl) | (rw [get_new0, prs_append]; rfl)⟩ (by first | exact pvL_le | exact ssL_le | simp | omega) (by first | exact pvL_le | exact ssL_le | simp | omega)) ?_
      refine runTf g'3 ?_
      refine gd_split (fun h3 => ?_) (fun h3 => ?_)
      · have h3d := bsT h3
        have g'4 := (jn @h3 (jn @h3d g'3))
        refine runTf g'4 ?_
        refine gd_split (fun h4 => ?_) (fun h4 => ?_)
        · have h4d := bsT h4
          have h4n := bnT h4
          have g'5 := (jn @h4 (jn @h4n g'4))
          refine runTf g'5 ?_
          refine call_v (by kernel_rfl) (plans2_c _ (lnZ 4 1 (List.replicate 4 0) [(32, 32, 40, 32, 0, 1)] [(0, 160)] 4 4) (lnZ 4 1 (List.replicate 4 0) [(32, 32, 40, 32, 0, 1)] [(0, 160)] 4 1) 4 1 (lnX 4 1 (List.replicate 4 0) [(32, 32, 40, 32, 0, 1)] [(0, 160)] 4) [1, 1, 1, 2] _ _ ⟨_, _, _, by first | rfl | (rw [List.length_append]; done) | (rw [List.length_append]; rfl), by first | rfl | (rw [get_newk]; rfl) | (rw [get_new0]; rfl) | (rw [get_newk, prs_append]; rfl) | (rw [get_new0, prs_append]; rfl)⟩ ⟨_, _, _, by first | rfl | (rw [List.length_append]; done) | (rw [List.length_append]; rfl), by first | rfl | (rw [get_newk]; rfl) | (rw [get_new0]; rfl) | (rw [get_newk, prs_append]; rfl) | (rw [get_new0, prs_append]; rfl)⟩ heW heH heX) ?_
          refine runTf g'5 ?_
          refine gd_split (fun h5 => ?_) (fun h5 => ?_)
          · have h5d := bsT h5
            have h5n := bnT h5
            have g'6 := (jn @h5 (jn @h5n g'5))
            refine runTf g'6 ?_
            refine call_v (by kernel_rfl) (kPairs_c _ _ [(32, 32, 40, 32, 0, 1)] ⟨_, _, _, by first | rfl | (rw [List.length_append]; done) | (rw [List.length_append]; rfl), by first | rfl | (rw [get_newk]; rfl) | (rw [get_new0]; rfl) | (rw [get_newk, prs_append]; rfl) | (rw [get_new0, prs_append]; rfl)⟩ (by first | omega | simp)) ?_
            refine runTf g'6 ?_
            refine gd_split (fun h6 => ?_) (fun h6 => ?_)
            · have h6d := bsT h6
              have h6n := bnT h6
              have g'7 := (jn @h6 (jn @h6n g'6))
              refine runTf g'7 ?_
              exact hQ _ _ (end_plain (.inl rfl) hbel (x := .bool true) (resT Tryz.results15) rfl ⟨rfl, rfl⟩)
            · have h6d := bsT h6
              have h6n := bnT h6
              first | exact absurd hps h6d | (rw [hps] at h6d; exact absurd h6d (by decide)) | (simp [hps] at h6d)
          · have h5d := bsT h5
            have h5n := bnT h5
            first | exact absurd aln.1 h5d | (rw [aln.1] at h5d; exact absurd h5d (by decide)) | (simp [aln.1] at h5d)
        · have h4d := bsT h4
          have h4n := bnT h4
          first | exact absurd asu.1 h4d | (rw [asu.1] at h4d; exact absurd h4d (by decide)) | (simp [asu.1] at h4d)
      · have h3d := bsT h3
        first | exact absurd hssL h3d | (rw [hssL] at h3d; exact absurd h3d (by decide)) | (simp [hssL] at h3d)
    · have h2d := bsT h2
      have h2n := bnT h2
      first | exact absurd ap.1 h2d | (rw [ap.1] at h2d; exact absurd h2d (by decide)) | (simp [ap.1] at h2d)
  · have h1d := bsT h1
    first | exact absurd hpvL h1d | (rw [hpvL] at h1d; exact absurd h1d (by decide)) | (simp [hpvL] at h1d)
open Go.RowKit
theorem bbeam_c (H : AHeap) (m : Int) (r : Int) : ACalls Tryz.prog 88 [.agg [.int .i64 m, .int .i64 r]] H (fun v H' => v = .bool (beaB m r) ∧ H' = H) := by
  refine AcT true Tryz.func88 ?_; intro hbel Q hQ
  refine runT ?_
  refine gd_split (fun h1 => ?_) (fun h1 => ?_)
  · have h1d := bsT h1
    have g'1 := (jn @h1 @h1d)
    refine runTf g'1 ?_
    refine gd_split (fun h2 => ?_) (fun h2 => ?_)
    · have h2d := bsT h2
      have g'2 := (jn @h2 (jn @h2d g'1))
      refine runTf g'2 ?_
      refine gd_split (fun h3 => ?_) (fun h3 => ?_)
      · have h3d := bsT h3
        have g'3 := (jn @h3 (jn @h3d g'2))
        refine runTf g'3 ?_
        exact hQ _ _ (end_plain (.inl rfl) hbel (x := .bool (decide (r ≤ 1024))) (resT Tryz.results88) rfl ⟨by first | (simp [beaB, btw, h1d, h2d, h3d]; done) | (simp [beaB, btw, h1d, h2d, h3d]; omega), rfl⟩)
      · have h3d := bsT h3
        have g'4 := (jn @h3 (jn @h3d g'2))
        refine runTf g'4 ?_
        exact hQ _ _ (end_plain (.inl rfl) hbel (x := .bool false) (resT Tryz.results88) rfl ⟨by first | (simp [beaB, btw, h1d, h2d, h3d]; done) | (simp [beaB, btw, h1d, h2d, h3d]; omega), rfl⟩)
    · have h2d := bsT h2
      have g'5 := (jn @h2 (jn @h2d g'1))
      refine runTf g'5 ?_
      exact hQ _ _ (end_plain (.inl rfl) hbel (x := .bool false) (resT Tryz.results88) rfl ⟨by first | (simp [beaB, btw, h1d, h2d]; done) | (simp [beaB, btw, h1d, h2d]; omega), rfl⟩)
  · have h1d := bsT h1
    have g'6 := (jn @h1 @h1d)
    refine runTf g'6 ?_
    exact hQ _ _ (end_plain (.inl rfl) hbel (x := .bool false) (resT Tryz.results88) rfl ⟨by first | (simp [beaB, btw, h1d]; done) | (simp [beaB, btw, h1d]; omega), rfl⟩)
theorem bscan_c (H : AHeap) (q : AV) (sc : List (Int × Int)) (hq : Sl H 2 q sc.length (prs sc)) : ACalls Tryz.prog 37 [q] H (fun v H' => v = .bool (scnB sc) ∧ H' = H) := by
  obtain ⟨bq, oq, cq, rfl, hbq⟩ := hq
  have hblq := getElem?_lt hbq
  have hb0q := fun l => get_app (l := l) hbq
  refine AcT true Tryz.func37 ?_; intro hbel Q hQ
  have g'7 := (jn @hbq @hb0q)
  refine runTf g'7 ?_
  refine cond_split (fun h1 => ?_) (fun h1 => ?_)
  · have h1d := bsT h1
    have hfinS : scnB sc = false := by unfold scnB; rw [decide_eq_false (by omega)]; rfl
    have g'8 := (jn @h1 (jn @h1d g'7))
    refine runTf g'8 ?_
    exact hQ _ _ (end_plain0 (.inl rfl) hbel (x := .bool false) (resT Tryz.results37) rfl ⟨by first | (rw [hfinS]; done) | (simp [scnB, h1d, hfinS]; done), rfl⟩)
  · have h1d := bsT h1
    have g'9 := (jn @h1 (jn @h1d g'7))
    refine runTf g'9 ?_
    refine go_loop try_mixed (by kernel_rfl) (fun k F Hx => ∃ i : Nat, i + k = sc.length ∧ (∀ j : Nat, j < i → beaB (g1 sc j) (g2 sc j) = true) ∧ F = [(0, .sl (some (bq, 0)) sc.length cq), (3, .int .i64 ((i : Nat) : Int))] ∧ H = Hx) (sc.length) ?_ ?_
    · refine ⟨_, _, _, ⟨0, by omega, fun j h => by omega, rfl, rfl⟩, Abs.by0 hbel ?_⟩
      exact absW
    · rintro k0 F Hx ⟨i, hm0, hal, rfl, rfl⟩ J0 hJ0
      refine runTf g'9 ?_
      refine cond_split (fun h2 => ?_) (fun h2 => ?_)
      · have h2d := bsT h2
        have hlt : i < sc.length := by omega
        have q3 := prs_load (l := sc) (j := i) (by omega)
        have g'10 := (jn @h2 (jn @h2d (jn @q3 g'9)))
        refine runTf g'10 ?_
        refine call_v (by kernel_rfl) (bbeam_c _ (g1 sc i) (g2 sc i)) ?_
        refine runTf g'10 ?_
        refine cond_split (fun h4 => ?_) (fun h4 => ?_)
        · have h4d := bsT h4
          have hfinS : scnB sc = false := by
            rw [← Bool.not_eq_true, scnB_iff]; intro hh
            have := hh.2 _ (List.getElem_mem hlt)
            rw [← pr_eq hlt] at this
            exact absurd (this.symm.trans h4d) (by decide)
          have g'11 := (jn @h4 (jn @h4d g'10))
          refine runTf g'11 ?_
          exact hQ _ _ (end_plain0 (.inl rfl) hbel (x := .bool false) (resT Tryz.results37) rfl ⟨by first | (rw [hfinS]; done) | (simp [scnB, h1d, h2d, h4d, hfinS]; done), rfl⟩)
        · have h4d := bsT h4
          have hbi : beaB (g1 sc i) (g2 sc i) = true := h4d
          have g'12 := (jn @h4 (jn @h4d g'10))
          refine runTf g'12 ?_
          refine hJ0 _ _ ⟨k0 - 1, by omega, _, _, _, ⟨i + 1, by omega, fun j hj => by
                      rcases Nat.lt_or_ge j i with h | h
                      · exact hal j h
                      · rw [show j = i by omega]; exact hbi, rfl, rfl⟩, Abs.by0 hbel ?_⟩
          exact absW
      · have h2d := bsT h2
        have hfinS : scnB sc = true := scnB_iff.2 ⟨by omega, fun b hb => by
          obtain ⟨j, hj, e⟩ := List.mem_iff_getElem.1 hb
          rw [← e, ← pr_eq hj]; exact hal j (by omega)⟩
        have g'13 := (jn @h2 (jn @h2d g'9))
        refine runTf g'13 ?_
        exact hQ _ _ (end_plain0 (.inl rfl) hbel (x := .bool true) (resT Tryz.results37) rfl ⟨by first | (rw [hfinS]; done) | (simp [scnB, h1d, h2d, hfinS]; done), rfl⟩)
open Go.RowKit
variable {W Hh : Int} {xs : List Int} {sc : List (Int × Int)}
theorem setB_one {b : T6} (h : boxB b = true) : setB [b] = true := setB_iff.2 ⟨by simp, fun e he => by rw [List.mem_singleton.1 he]; exact h⟩
theorem rgt_one {b : T6} {g : Int} (hV : vldB W Hh xs = true) (h : boxB b = true) (hs : scnB sc = true) (hg : 1 ≤ g ∧ g ≤ 32) : rgtA W Hh xs [b] sc g = true := rgtA_iff.2 ⟨hV, by simp, setB_one h, hs, hg⟩
theorem wide_ok {x0 y0 x1 y1 f c : Int} (h : bxB x0 y0 x1 y1 f c = true) (k : x0 ≤ 524288 ∧ -524288 ≤ x0) : boxB (x0, y0, x0 + 65, y1, f, c) = true := by
  have q := bxB_iff.1 h
  show bxB x0 y0 (x0 + 65) y1 f c = true
  exact bxB_iff.2 ⟨by omega, q.2.1, q.2.2⟩
theorem many_ok {x0 y0 x1 y1 f c : Int} (h : bxB x0 y0 x1 y1 f c = true) : boxB (x0, y0, x1, y1, 3, 33) = true := by
  have q := bxB_iff.1 h
  show bxB x0 y0 x1 y1 3 33 = true
  exact bxB_iff.2 ⟨q.1, q.2.1, by decide⟩
theorem wide_tau {x0 y0 y1 f c : Int} : tauB [(x0, y0, x0 + 65, y1, f, c)] = false := by
  unfold tauB
  rw [Bool.and_eq_false_iff]; right
  have : wdeB (x0, y0, x0 + 65, y1, f, c) = true := by unfold wdeB; rw [decide_eq_true (show 64 < (x0, y0, x0 + 65, y1, f, c).2.2.1 - (x0, y0, x0 + 65, y1, f, c).1 by show 64 < x0 + 65 - x0; omega)]; rfl
  simp [this]
theorem many_tau {x0 y0 x1 y1 : Int} : tauB [(x0, y0, x1, y1, 3, 33)] = false := by
  unfold tauB
  rw [Bool.and_eq_false_iff]; left
  rfl
theorem many_prs {x0 y0 x1 y1 : Int} (h : boxB (x0, y0, x1, y1, 3, 33) = true) : prsN [(x0, y0, x1, y1, 3, 33)] = 33 := by
  unfold prsN; rw [if_pos (setB_one h)]; rfl
theorem no_learn {l : List T6} {g : Int} (h : rgtA W Hh xs l sc g = true) (k : tauB l = false) : (lnE W Hh xs l sc g = 0 ∧ xs = lnX W Hh xs l sc g ∧ W = lnZ W Hh xs l sc g W ∧ Hh = lnZ W Hh xs l sc g Hh) ∧ pvE W Hh xs l sc g = 0 ∧ pvL W Hh xs l sc g = [] := by
  have q := ln_0 h (o := xs) (if_neg (by rw [k]; decide))
  have p := pv_t h
  exact ⟨⟨q.1, q.2.1.symm, q.2.2.1.symm, q.2.2.2.symm⟩, p.1, p.2.1.trans (allL_nil k).1⟩
open Go.RowKit
theorem lno_c (H : AHeap) (W : Int) (Hh : Int) (pp : AV) (xs : List Int) (x0 : Int) (y0 : Int) (x1 : Int) (y1 : Int) (f : Int) (c : Int) (q : AV) (sc : List (Int × Int)) (hpp : Sl H 1 pp xs.length (ints .u8 xs)) (hq : Sl H 2 q sc.length (prs sc)) : ACalls Tryz.prog 10 [.agg [.int .i64 W, .int .i64 Hh, pp], .agg [.int .i64 x0, .int .i64 y0, .int .i64 x1, .int .i64 y1, .int .i64 f, .int .i64 c], q] H (fun v H' => v = .bool true ∧ H' = H) := by
  obtain ⟨bpp, opp, cpp, rfl, hbpp⟩ := hpp
  have hblpp := getElem?_lt hbpp
  have hb0pp := fun l => get_app (l := l) hbpp
  obtain ⟨bq, oq, cq, rfl, hbq⟩ := hq
  have hblq := getElem?_lt hbq
  have hb0q := fun l => get_app (l := l) hbq
  refine AcT false Tryz.func10 ?_; intro hbel Q hQ
  have g'1 := (jn @hbpp (jn @hb0pp (jn @hbq @hb0q)))
  refine runTf g'1 ?_
  refine call_v (by kernel_rfl) (awake_c _) ?_
  refine runTf g'1 ?_
  refine call_v (by kernel_rfl) (rplan_a _ W Hh _ xs (.inr ⟨_, _, _, rfl, by first | exact hb0pp _ | exact hbpp⟩)) ?_
  refine runTf g'1 ?_
  refine gd_split (fun h1 => ?_) (fun h1 => ?_)
  · have h1d := bsT h1
    have hV := h1d
    have g'2 := (jn @h1 (jn @h1d g'1))
    refine runTf g'2 ?_
    refine call_v (by kernel_rfl) (bscan_c _ _ sc ⟨_, _, _, rfl, by first | exact hb0q _ | exact hbq⟩) ?_
    refine runTf g'2 ?_
    refine gd_split (fun h2 => ?_) (fun h2 => ?_)
    · have h2d := bsT h2
      have hS := h2d
      have hs32 := (scnB_iff.1 hS).1
      have g'3 := (jn @h2 (jn @h2d g'2))
      refine runTf g'3 ?_
      refine call_v (by kernel_rfl) (bbx_c _ x0 y0 x1 y1 f c) ?_
      refine runTf g'3 ?_
      refine gd_split (fun h3 => ?_) (fun h3 => ?_)
      · have h3d := bsT h3
        have hbx := h3d
        have g'4 := (jn @h3 (jn @h3d g'3))
        refine runTf g'4 ?_
        refine gd_split (fun h4 => ?_) (fun h4 => ?_)
        · have h4d := bsT h4
          have g'5 := (jn @h4 (jn @h4d g'4))
          refine runTf g'5 ?_
          refine cond_split (fun h5 => ?_) (fun h5 => ?_)
          · have h5d := bsT h5
            have g'6 := (jn @h5 (jn @h5d g'5))
            refine runTf g'6 ?_
            refine call_v (by kernel_rfl) (awake_c _) ?_
            refine runTf g'6 ?_
            exact hQ _ _ (end_plain (.inl rfl) hbel (x := .bool true) (resT Tryz.results10) rfl ⟨by first | rfl | (rw [hpr]; rfl) | simp [hpr] | simp, rfl⟩)
          · have h5d := bsT h5
            have hwk := wide_ok hbx (by omega)
            have hmk := many_ok hbx
            obtain ⟨⟨ha1, ha2, ha3, ha4⟩, ha5, ha6⟩ := no_learn (rgt_one (g := 9) hV hwk hS (by omega)) wide_tau
            obtain ⟨⟨hc1, hc2, hc3, hc4⟩, -⟩ := no_learn (rgt_one (g := 9) hV hmk hS (by omega)) many_tau
            have hpr := many_prs hmk
            have hpl : (pvL W Hh xs [(x0, y0, x0 + 65, y1, f, c)] sc 9).length = 0 := by rw [ha6]; rfl
            have g'7 := (jn @h5 (jn @h5d g'5))
            refine runTf g'7 ?_
            refine call_v (by kernel_rfl) (learn_c _ W Hh _ xs _ [(x0, y0, x0 + 65, y1, f, c)] _ sc 9 ⟨_, _, _, rfl, by first | exact hb0pp _ | exact hbpp⟩ ⟨_, _, _, by first | rfl | (rw [List.length_append]; done) | (rw [List.length_append]; rfl), by first | rfl | (rw [get_newk]; rfl) | (rw [get_new0]; rfl) | (rw [get_newk, prs_append]; rfl) | (rw [get_new0, prs_append]; rfl)⟩ ⟨_, _, _, rfl, by first | exact hb0q _ | exact hbq⟩ (by first | omega | simp) (by first | omega | simp)) ?_
            refine runTf g'7 ?_
            refine call_v (by kernel_rfl) (learn_c _ W Hh _ xs _ [(x0, y0, x1, y1, 3, 33)] _ sc 9 ⟨_, _, _, rfl, by first | exact hb0pp _ | exact hbpp⟩ ⟨_, _, _, by first | rfl | (rw [List.length_append]; done) | (rw [List.length_append]; rfl), by first | rfl | (rw [get_newk]; rfl) | (rw [get_new0]; rfl) | (rw [get_newk, prs_append]; rfl) | (rw [get_new0, prs_append]; rfl)⟩ ⟨_, _, _, rfl, by first | exact hb0q _ | exact hbq⟩ (by first | omega | simp) (by first | omega | simp)) ?_
            refine runTf g'7 ?_
            refine call_v (by kernel_rfl) (kProven_c _ W Hh _ xs _ [(x0, y0, x0 + 65, y1, f, c)] _ sc 9 ⟨_, _, _, rfl, by first | exact hb0pp _ | exact hbpp⟩ ⟨_, _, _, by first | rfl | (rw [List.length_append]; done) | (rw [List.length_append]; rfl), by first | rfl | (rw [get_newk]; rfl) | (rw [get_new0]; rfl) | (rw [get_newk, prs_append]; rfl) | (rw [get_new0, prs_append]; rfl)⟩ ⟨_, _, _, rfl, by first | exact hb0q _ | exact hbq⟩ (by first | omega | simp) (by first | omega | simp)) ?_
            refine runTf g'7 ?_
            refine call_v (by kernel_rfl) (plans2_c _ W Hh (lnZ W Hh xs [(x0, y0, x0 + 65, y1, f, c)] sc 9 W) (lnZ W Hh xs [(x0, y0, x0 + 65, y1, f, c)] sc 9 Hh) xs (lnX W Hh xs [(x0, y0, x0 + 65, y1, f, c)] sc 9) _ _ ⟨_, _, _, rfl, by first | exact hb0pp _ | exact hbpp⟩ ⟨_, _, _, by first | rfl | (rw [List.length_append]; done) | (rw [List.length_append]; rfl), by first | rfl | (rw [get_newk]; rfl) | (rw [get_new0]; rfl) | (rw [get_newk, prs_append]; rfl) | (rw [get_new0, prs_append]; rfl)⟩ (by assumption) (by assumption) (by assumption)) ?_
            refine runTf g'7 ?_
            refine gd_split (fun h6 => ?_) (fun h6 => ?_)
            · have h6d := bsT h6
              have h6n := bnT h6
              have g'8 := (jn @h6 (jn @h6n (jn @int_bne (jn @int_beq g'7))))
              refine runTf g'8 ?_
              refine call_v (by kernel_rfl) (plans2_c _ W Hh (lnZ W Hh xs [(x0, y0, x1, y1, 3, 33)] sc 9 W) (lnZ W Hh xs [(x0, y0, x1, y1, 3, 33)] sc 9 Hh) xs (lnX W Hh xs [(x0, y0, x1, y1, 3, 33)] sc 9) _ _ ⟨_, _, _, rfl, by first | exact hb0pp _ | exact hbpp⟩ ⟨_, _, _, by first | rfl | (rw [List.length_append]; done) | (rw [List.length_append]; rfl), by first | rfl | (rw [get_newk]; rfl) | (rw [get_new0]; rfl) | (rw [get_newk, prs_append]; rfl) | (rw [get_new0, prs_append]; rfl)⟩ (by assumption) (by assumption) (by assumption)) ?_
              refine runTf g'8 ?_
              refine gd_split (fun h7 => ?_) (fun h7 => ?_)
              · have h7d := bsT h7
                have h7n := bnT h7
                have g'9 := (jn @h7 (jn @h7n g'8))
                refine runTf g'9 ?_
                refine gd_split (fun h8 => ?_) (fun h8 => ?_)
                · have h8d := bsT h8
                  have h8n := bnT h8
                  have g'10 := (jn @h8 (jn @h8n g'9))
                  refine runTf g'10 ?_
                  refine gd_split (fun h9 => ?_) (fun h9 => ?_)
                  · have h9d := bsT h9
                    have h9n := bnT h9
                    have g'11 := (jn @h9 (jn @h9n g'10))
                    refine runTf g'11 ?_
                    refine call_v (by kernel_rfl) (kPairs_c _ _ [(x0, y0, x1, y1, 3, 33)] ⟨_, _, _, by first | rfl | (rw [List.length_append]; done) | (rw [List.length_append]; rfl), by first | rfl | (rw [get_newk]; rfl) | (rw [get_new0]; rfl) | (rw [get_newk, prs_append]; rfl) | (rw [get_new0, prs_append]; rfl)⟩ (by first | omega | simp)) ?_
                    refine runTf g'11 ?_
                    exact hQ _ _ (end_plain (.inl rfl) hbel (x := .bool ((prsN [(x0, y0, x1, y1, 3, 33)]) == 33)) (resTf (jn @int_beq @int_bne) Tryz.results10) rfl ⟨by first | rfl | (rw [hpr]; rfl) | simp [hpr] | simp, rfl⟩)
                  · have h9d := bsT h9
                    have h9n := bnT h9
                    first | exact absurd ha5 h9d | (rw [ha5] at h9d; exact absurd h9d (by decide)) | (simp [ha5] at h9d)
                · have h8d := bsT h8
                  have h8n := bnT h8
                  first | omega | (rw [hpl] at h8d; exact absurd h8d (by decide)) | (simp [hpl] at h8d)
              · have h7d := bsT h7
                have h7n := bnT h7
                first | exact absurd hc1 h7d | (rw [hc1] at h7d; exact absurd h7d (by decide)) | (simp [hc1] at h7d)
            · have h6d := bsT h6
              have h6n := bnT h6
              first | exact absurd ha1 h6d | (rw [ha1] at h6d; exact absurd h6d (by decide)) | (simp [ha1] at h6d)
        · have h4d := bsT h4
          have g'12 := (jn @h4 (jn @h4d g'4))
          refine runTf g'12 ?_
          refine call_v (by kernel_rfl) (awake_c _) ?_
          refine runTf g'12 ?_
          exact hQ _ _ (end_plain (.inl rfl) hbel (x := .bool true) (resT Tryz.results10) rfl ⟨by first | rfl | (rw [hpr]; rfl) | simp [hpr] | simp, rfl⟩)
      · have h3d := bsT h3
        have g'13 := (jn @h3 (jn @h3d g'3))
        refine runTf g'13 ?_
        refine call_v (by kernel_rfl) (awake_c _) ?_
        refine runTf g'13 ?_
        exact hQ _ _ (end_plain (.inl rfl) hbel (x := .bool true) (resT Tryz.results10) rfl ⟨by first | rfl | (rw [hpr]; rfl) | simp [hpr] | simp, rfl⟩)
    · have h2d := bsT h2
      have g'14 := (jn @h2 (jn @h2d g'2))
      refine runTf g'14 ?_
      refine call_v (by kernel_rfl) (awake_c _) ?_
      refine runTf g'14 ?_
      exact hQ _ _ (end_plain (.inl rfl) hbel (x := .bool true) (resT Tryz.results10) rfl ⟨by first | rfl | (rw [hpr]; rfl) | simp [hpr] | simp, rfl⟩)
  · have h1d := bsT h1
    have g'15 := (jn @h1 (jn @h1d g'1))
    refine runTf g'15 ?_
    refine call_v (by kernel_rfl) (awake_c _) ?_
    refine runTf g'15 ?_
    exact hQ _ _ (end_plain (.inl rfl) hbel (x := .bool true) (resT Tryz.results10) rfl ⟨by first | rfl | (rw [hpr]; rfl) | simp [hpr] | simp, rfl⟩)
open Go.RowKit
set_option maxRecDepth 100000 in
theorem knownNothing_top (H : AHeap) (xs : List AV) (hn : xs.length = 3) (hy : ∀ (j : Nat) (t : TypeId) (x : AV), [24, 58, 26][j]? = some t → xs[j]? = some x → ATy Tryz.prog H 9 t x) : ACalls Tryz.prog 10 xs H (fun v H' => v = .bool true ∧ H' = H) := by
  match xs, hn, hy with
  | [a0, a1, a2], _, hy =>
    obtain ⟨ys0, e0, r0_0⟩ := (hy 0 _ a0 rfl rfl).agg (ls := [3, 3, 22]) (by kernel_rfl) (by kernel_rfl)
    obtain ⟨y0_0, q0_0, rfl, t0_0, r0_1⟩ := r0_0.cons
    obtain ⟨z1, rfl, w1⟩ := t0_0.int (k := .i64) (by kernel_rfl)
    obtain ⟨y0_1, q0_1, rfl, t0_1, r0_2⟩ := r0_1.cons
    obtain ⟨z2, rfl, w2⟩ := t0_1.int (k := .i64) (by kernel_rfl)
    obtain ⟨y0_2, q0_2, rfl, t0_2, r0_3⟩ := r0_2.cons
    obtain ⟨l3, s3, m3, w3⟩ := t0_2.intsU (n := 7) (t := 22) (e := 5) (by kernel_rfl) (by kernel_rfl) (by kernel_rfl)
    obtain rfl := r0_3.nil
    subst e0
    obtain ⟨ys1, e1, r1_0⟩ := (hy 1 _ a1 rfl rfl).agg (ls := [3, 3, 3, 3, 3, 3]) (by kernel_rfl) (by kernel_rfl)
    obtain ⟨y1_0, q1_0, rfl, t1_0, r1_1⟩ := r1_0.cons
    obtain ⟨z4, rfl, w4⟩ := t1_0.int (k := .i64) (by kernel_rfl)
    obtain ⟨y1_1, q1_1, rfl, t1_1, r1_2⟩ := r1_1.cons
    obtain ⟨z5, rfl, w5⟩ := t1_1.int (k := .i64) (by kernel_rfl)
    obtain ⟨y1_2, q1_2, rfl, t1_2, r1_3⟩ := r1_2.cons
    obtain ⟨z6, rfl, w6⟩ := t1_2.int (k := .i64) (by kernel_rfl)
    obtain ⟨y1_3, q1_3, rfl, t1_3, r1_4⟩ := r1_3.cons
    obtain ⟨z7, rfl, w7⟩ := t1_3.int (k := .i64) (by kernel_rfl)
    obtain ⟨y1_4, q1_4, rfl, t1_4, r1_5⟩ := r1_4.cons
    obtain ⟨z8, rfl, w8⟩ := t1_4.int (k := .i64) (by kernel_rfl)
    obtain ⟨y1_5, q1_5, rfl, t1_5, r1_6⟩ := r1_5.cons
    obtain ⟨z9, rfl, w9⟩ := t1_5.int (k := .i64) (by kernel_rfl)
    obtain rfl := r1_6.nil
    subst e1
    have t2 := (hy 2 _ a2 rfl rfl).one (by kernel_rfl) (by kernel_rfl)
    obtain ⟨l10, s10, m10, w10⟩ := t2.pairsU (n := 7) (t := 26) (e := 37) (u := 3) (v := 3) (by kernel_rfl) (by kernel_rfl) (by kernel_rfl) (by kernel_rfl)
    exact lno_c H z1 z2 _ l3 z4 z5 z6 z7 z8 z9 _ l10 s3 s10
section
open Go.ChangeShapes Go.WideShapes Go.ChangeAt Go.RowKit Go.Joins
open Go.ChangeMaps (open_string shut_string)
set_option maxRecDepth 100000 in
theorem knownNothing_lifted (os : Os) (started : os.Started) (H : Type) (enc : TypeId × Value → H) :
    ReturnsInHanded {} Tryz.checked os 10 .any (Rows.knownNothingSpec.pre6 enc Tryz.prog Tryz.f10 Rows.knownNothingRow.domain false) (Rows.knownNothingSpec.post enc Tryz.prog Tryz.f10 false true false false) := by
  refine returnsInHanded_of_change (C := Tryz.checked) own started (by kernel_rfl) Tryz.func10
    (ChangeSpec.witness6 (enc := enc) (C := Tryz.checked) false ⟨#[], #[.agg #[.int .i64 0, .int .i64 0, .slice none 0 0], .agg #[.int .i64 0, .int .i64 0, .int .i64 0, .int .i64 0, .int .i64 0, .int .i64 0], .slice none 0 0], []⟩ 8 (by kernel_rfl) (by kernel_rfl) (by kernel_rfl) (by kernel_rfl)) ?_
  intro W base args ds gs before hval0 hW hcnd _
  have hval : ∀ (j : Nat) t v, Tryz.f10.params[j]? = some t → args[j]? = some v → Value.okWide Tryz.prog W .any base t v := hval0
  have hW' := hW
  obtain ⟨p, q, hA0, hV, rfl, hfz, hnd⟩ := hW
  have hA : DataW.TrodAll enc Tryz.prog W 0 (fun _ => true) true Tryz.f10.params.toList args.toList ds p := hA0
  rw [Tryz.params10] at hA hval
  have hwalk := calls_top (n := 9) (f := 10) hA (fun j t v a b => hval j t v (by simpa using a) (by simpa using b)) (by kernel_rfl) (fun H xs hn hy => knownNothing_top H xs hn hy)
  rw [Array.toArray_toList] at hwalk
  obtain ⟨v0, vs0, d0, ds0, p0, q0, hargs, rfl, rfl, h0, r0⟩ := trodAll_cons hA
  obtain ⟨v1, vs1, d1, ds1, p1, q1, rfl, rfl, rfl, h1, r1⟩ := trodAll_cons r0
  obtain ⟨v2, vs2, d2, ds2, p2, q2, rfl, rfl, rfl, h2, r2⟩ := trodAll_cons r1
  obtain ⟨rfl, rfl, rfl⟩ := trodAll_nil r2
  obtain rfl : args = #[v0, v1, v2] := by cases args; simp_all
  obtain ⟨rfl, rfl⟩ := trodVars_none hV
  have k0 := h0
  have lt0 : ∀ x ∈ p0, x.block < W.heap.size := by obtain ⟨m, hm⟩ := k0; exact DataW.trod_lt m _ _ _ hm
  have k1 := h1
  have lt1 : ∀ x ∈ p1, x.block < W.heap.size := by obtain ⟨m, hm⟩ := k1; exact DataW.trod_lt m _ _ _ hm
  have k2 := h2
  have lt2 : ∀ x ∈ p2, x.block < W.heap.size := by obtain ⟨m, hm⟩ := k2; exact DataW.trod_lt m _ _ _ hm
  clear hA0 hval0
  refine hwalk.mono fun e W' ⟨he, bel⟩ => ?_
  subst he
  exact ⟨_, rfl, _, _, _, [], _, [], hW', trodAll_mk1 (shut_bool Tryz.underlying4 _), (trodAll_cons_mk (Below.trod laidOut (by kernel_rfl) (of_decide_eq_true (by kernel_rfl)) k0 bel lt0) (trodAll_cons_mk (Below.trod laidOut (by kernel_rfl) (of_decide_eq_true (by kernel_rfl)) k1 bel lt1) (trodAll_cons_mk (Below.trod laidOut (by kernel_rfl) (of_decide_eq_true (by kernel_rfl)) k2 bel lt2) trodAll_mk0))), rfl, bel.frame _, fun h => by cases h⟩
theorem and_t {a b : Bool} (h : a = true) (k : b = true) : (a && b) = true := by rw [h, k]; rfl
theorem knownNothing_h0 : laidOutB Tryz.pinned.checked.prog = true := by kernel_rfl
theorem knownNothing_h1 : (Rows.knownNothingRow.inPlace == Tryz.pinned.checked.prog.inPlace 10) = true := by kernel_rfl
theorem knownNothing_h2 : (Rows.knownNothingRow.unfollowed == Tryz.pinned.checked.prog.unfollowed 10) = true := by kernel_rfl
theorem knownNothing_h3 : (Rows.knownNothingRow.recurses == Tryz.pinned.checked.prog.recurses 10) = true := by kernel_rfl
theorem knownNothing_h4 : (Rows.knownNothingRow.named == Tryz.pinned.checked.prog.varsNamed 10) = true := by kernel_rfl
theorem knownNothing_h5 : Tryz.pinned.checked.prog.stopsHeard = true := by kernel_rfl
theorem knownNothing_h6 : Tryz.pinned.checked.prog.mayEnter = true := by kernel_rfl
theorem knownNothing_h7 : (Rows.knownNothingRow.lifted == Tryz.pinned.checked.prog.liftsFinal) = true := by kernel_rfl
theorem knownNothing_closed : joinedFacts Tryz.pinned.checked.prog 10 Tryz.f10 Rows.knownNothingSpec Rows.knownNothingRow = true := by
  unfold joinedFacts
  exact (and_t (and_t (and_t (and_t (and_t (and_t (and_t (and_t (and_t (and_t (and_t (and_t (and_t (and_t (and_t (and_t (and_t (and_t (and_t (and_t (and_t (and_t (and_t (and_t (and_t (and_t (and_t (and_t (and_t (and_t (and_t (by kernel_rfl) knownNothing_h0) (by kernel_rfl)) (by kernel_rfl)) (by kernel_rfl)) (by kernel_rfl)) (by kernel_rfl)) (by kernel_rfl)) (by kernel_rfl)) knownNothing_h1) knownNothing_h2) knownNothing_h3) knownNothing_h4) (by kernel_rfl)) (by kernel_rfl)) (by kernel_rfl)) (by kernel_rfl)) (by kernel_rfl)) (by kernel_rfl)) (by kernel_rfl)) (by kernel_rfl)) (by kernel_rfl)) (by kernel_rfl)) (by kernel_rfl)) knownNothing_h5) knownNothing_h6) knownNothing_h7) (by kernel_rfl)) (by kernel_rfl)) (by kernel_rfl)) (by kernel_rfl)) (by kernel_rfl))
theorem knownNothing_over : Rows.knownNothingRow.holds Tryz.pinned (OpenSpec.ofChange Rows.knownNothingSpec) :=
  OpenClaim.holds_of_wide 10 Tryz.f10 rfl rfl rfl rfl rfl rfl rfl ⟨rfl, rfl, rfl, rfl, rfl⟩ rfl rfl rfl rfl rfl (by kernel_rfl) Tryz.func10 knownNothing_closed
    (of_decide_eq_true (by kernel_rfl)) (by unfold Func.isWrapper; rw [if_neg (by decide +kernel)]; exact ⟨rfl, rfl⟩)
    (fun os started H enc _ => knownNothing_lifted os started H enc)
/-- The given statement. -/
theorem knownNothing_proved : Rows.KnownNothingSaid := knownNothing_over
end
end Go.Proofs.YteieacinbfimlaaGreat
