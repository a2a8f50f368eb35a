/- Parts of the proof: walks and plain facts. Conditions: as each theorem states. -/
import Derived.Test.YtoimakfecmhjkaaGreatG3
namespace Go.Proofs.YtoimakfecmhjkaaGreat
set_option linter.unusedSimpArgs false
set_option linter.unusedVariables false
open Go.RowKit
def putV (H : AHeap) (s : AV) (C : List Pt) (g : Pt) : AV × AHeap := if nrm g = (0, 0) then (s, H) else retP H (putC C (nrm g))
theorem pst_step {C : List Pt} {g : Pt} {i : Nat} (h : i < C.length) : (C.take (i + 1)).foldl (pst g) ([], false) = pst g ((C.take i).foldl (pst g) ([], false)) (gp C i) := by
  rw [List.take_succ_eq_append_getElem h, List.foldl_append, ← gp_eq h]; rfl
theorem pst_len {C : List Pt} {g : Pt} : ∀ i, ((C.take i).foldl (pst g) ([], false)).1.length ≤ 2 * i := fun i => by
  induction i with
  | zero => simp
  | succ i ih =>
    by_cases h : i < C.length
    · rw [pst_step h]
      generalize (C.take i).foldl (pst g) ([], false) = st at *
      unfold pst
      split
      · rw [List.length_append]; simp only [List.length_cons, List.length_nil]; omega
      · split
        · rw [List.length_append]; simp only [List.length_cons, List.length_nil]; omega
        · rw [List.length_append]; simp only [List.length_cons, List.length_nil]; omega
    · rw [List.take_of_length_le (by omega)] at ih ⊢
      omega
set_option maxRecDepth 100000 in
/-- One more generator, none so far. -/
theorem put0_c (H : AHeap) (gx gy : Int) (hgb : -4194304 ≤ gx ∧ gx ≤ 4194304 ∧ -4194304 ≤ gy ∧ gy ≤ 4194304) :
    ACalls Tryz.prog 164 [.sl none 0 (some 0), .agg [.int .i64 gx, .int .i64 gy]] H (fun v H' => v = (putV H (.sl none 0 (some 0)) [] (gx, gy)).1 ∧ H' = (putV H (.sl none 0 (some 0)) [] (gx, gy)).2) := by
  unfold putV
  obtain ⟨u, w, hf⟩ : ∃ u w, nrm (gx, gy) = (u, w) := ⟨_, _, rfl⟩
  have hub : -4194304 ≤ u ∧ u ≤ 4194304 ∧ -4194304 ≤ w ∧ w ≤ 4194304 := by
    have := nrm_bd (M := 4194304) (g := (gx, gy)) hgb
    rw [hf] at this
    exact this
  rw [hf]
  (refine ACalls_pieces Tryz.func164 _ rfl (Nat.le_of_ble_eq_true (by kernel_rfl)) rfl ?_; intro hbel Q hQ hQ' c hc; unfold Tryz.f164 at hc; simp only [Option.some.injEq] at hc; subst hc; clear hQ')
  refine AW_stepA true try_mixed (by kernel_rfl) (fun F2 H2 => F2 = [(0, .sl none 0 (some 0)), (3, .ptr (some (H.length, 0)))] ∧ H2 = H ++ [.cells true 0 [.int .i64 gx, .int .i64 gy]]) ?_ ?_
  · intro J hJ
    simp -implicitDefEqProofs (disch := omega) only [simprocAttr, amset, tyset, Function.comp_apply, one1, lenV, calleeOf, lateOk, belowV, aop, AV.ofValue, AV.ofCell, AV.cells, AV.flat, AV.one, arep, aBin, aAppend, aConv]
    refine hJ _ _ ⟨_, _, _, ⟨rfl, rfl⟩, Abs.by hbel [0] (by decide) ?_⟩
    exact absT
  rintro F2 H2 ⟨rfl, rfl⟩
  refine AW_stepA true try_mixed (by kernel_rfl) (fun F2 H2 => F2 = [(0, .sl none 0 (some 0)), (3, .ptr (some (H.length, 0)))] ∧ H2 = H ++ [.cells true 0 [.int .i64 u, .int .i64 w]]) ?_ ?_
  · intro J hJ
    have neg : (gy < 0 ∨ (gy = 0 ∧ gx < 0)) → u = 0 - gx ∧ w = 0 - gy := fun h => by
      unfold nrm at hf; rw [if_pos h] at hf; simp only [Prod.mk.injEq] at hf; omega
    have pos : ¬ (gy < 0 ∨ (gy = 0 ∧ gx < 0)) → u = gx ∧ w = gy := fun h => by
      unfold nrm at hf; rw [if_neg h] at hf; simp only [Prod.mk.injEq] at hf; omega
    by_cases h1 : gy < 0
    · obtain ⟨rfl, rfl⟩ := neg (.inl h1)
      simp -implicitDefEqProofs (disch := omega) only [h1, simprocAttr, amset, tyset, Function.comp_apply, one1, lenV, calleeOf, lateOk, belowV, aop, AV.ofValue, AV.ofCell, AV.cells, AV.flat, AV.one, arep, aBin, aAppend, aConv]
      refine hJ _ _ ⟨_, _, _, ⟨rfl, rfl⟩, Abs.by hbel [0] (by decide) ?_⟩
      exact absT
    · cases h2 : (gy == 0)
      · have h2' := beq_eq_false_iff_ne.1 h2
        obtain ⟨rfl, rfl⟩ := pos (by omega)
        simp -implicitDefEqProofs (disch := omega) only [h1, h2, simprocAttr, amset, tyset, Function.comp_apply, one1, lenV, calleeOf, lateOk, belowV, aop, AV.ofValue, AV.ofCell, AV.cells, AV.flat, AV.one, arep, aBin, aAppend, aConv]
        refine hJ _ _ ⟨_, _, _, ⟨rfl, rfl⟩, Abs.by hbel [0] (by decide) ?_⟩
        exact absT
      · have h2' := beq_iff_eq.1 h2
        by_cases h3 : gx < 0
        · obtain ⟨rfl, rfl⟩ := neg (.inr ⟨h2', h3⟩)
          simp -implicitDefEqProofs (disch := omega) only [h1, h2, h3, simprocAttr, amset, tyset, Function.comp_apply, one1, lenV, calleeOf, lateOk, belowV, aop, AV.ofValue, AV.ofCell, AV.cells, AV.flat, AV.one, arep, aBin, aAppend, aConv]
          refine hJ _ _ ⟨_, _, _, ⟨rfl, rfl⟩, Abs.by hbel [0] (by decide) ?_⟩
          exact absT
        · obtain ⟨rfl, rfl⟩ := pos (by omega)
          simp -implicitDefEqProofs (disch := omega) only [h1, h2, h3, simprocAttr, amset, tyset, Function.comp_apply, one1, lenV, calleeOf, lateOk, belowV, aop, AV.ofValue, AV.ofCell, AV.cells, AV.flat, AV.one, arep, aBin, aAppend, aConv]
          refine hJ _ _ ⟨_, _, _, ⟨rfl, rfl⟩, Abs.by hbel [0] (by decide) ?_⟩
          exact absT
  rintro F2 H2 ⟨rfl, rfl⟩
  refine AW_fin true try_mixed (by kernel_rfl) ?_
  clear hf hgb
  cases hz1 : (u == 0)
  · rw [if_neg (fun h => by injection h with h _; exact absurd h (beq_eq_false_iff_ne.1 hz1))] at hQ
    simp -implicitDefEqProofs (disch := omega) only [hz1, simprocAttr, amset, tyset, Function.comp_apply, one1, lenV, calleeOf, lateOk, belowV, aop, AV.ofValue, AV.ofCell, AV.cells, AV.flat, AV.one, arep, aBin, aAppend, aConv]
    rw [show putC [] (u, w) = [(u, w)] from rfl, retP_pos (by simp)] at hQ
    refine go_loop try_mixed (by kernel_rfl) (fun k F Hx => F = [(0, .sl none 0 (some 0)), (3, .ptr (some (H.length, 0))), (5, .sl none 0 (some 0)), (6, .bool false), (7, .int .i64 0)] ∧ Hx = H ++ [.cells true 0 [.int .i64 u, .int .i64 w]]) 1 ?_ ?_
    · refine ⟨_, _, _, ⟨rfl, rfl⟩, Abs.by hbel [0] (by decide) ?_⟩
      exact absT
    · rintro k F Hx ⟨rfl, rfl⟩ J hJ
      simp -implicitDefEqProofs (disch := omega) only [Int.lt_irrefl, simprocAttr, amset, tyset, Function.comp_apply, one1, lenV, calleeOf, lateOk, belowV, aop, AV.ofValue, AV.ofCell, AV.cells, AV.flat, AV.one, arep, aBin, aAppend, aConv]
      refine hQ _ _ (end_by (.inl rfl) hbel (x1 := .sl (some (H.length + 2, 0)) 1 none) (.sl (some (H.length, 0)) 1 none) (resT Tryz.results164) [2] (by decide) ⟨rfl, rfl⟩ ?_)
      exact absT
  cases hz2 : (w == 0)
  · rw [if_neg (fun h => by injection h with _ h; exact absurd h (beq_eq_false_iff_ne.1 hz2))] at hQ
    simp -implicitDefEqProofs (disch := omega) only [hz1, hz2, simprocAttr, amset, tyset, Function.comp_apply, one1, lenV, calleeOf, lateOk, belowV, aop, AV.ofValue, AV.ofCell, AV.cells, AV.flat, AV.one, arep, aBin, aAppend, aConv]
    rw [show putC [] (u, w) = [(u, w)] from rfl, retP_pos (by simp)] at hQ
    refine go_loop try_mixed (by kernel_rfl) (fun k F Hx => F = [(0, .sl none 0 (some 0)), (3, .ptr (some (H.length, 0))), (5, .sl none 0 (some 0)), (6, .bool false), (7, .int .i64 0)] ∧ Hx = H ++ [.cells true 0 [.int .i64 u, .int .i64 w]]) 1 ?_ ?_
    · refine ⟨_, _, _, ⟨rfl, rfl⟩, Abs.by hbel [0] (by decide) ?_⟩
      exact absT
    · rintro k F Hx ⟨rfl, rfl⟩ J hJ
      simp -implicitDefEqProofs (disch := omega) only [Int.lt_irrefl, simprocAttr, amset, tyset, Function.comp_apply, one1, lenV, calleeOf, lateOk, belowV, aop, AV.ofValue, AV.ofCell, AV.cells, AV.flat, AV.one, arep, aBin, aAppend, aConv]
      refine hQ _ _ (end_by (.inl rfl) hbel (x1 := .sl (some (H.length + 2, 0)) 1 none) (.sl (some (H.length, 0)) 1 none) (resT Tryz.results164) [2] (by decide) ⟨rfl, rfl⟩ ?_)
      exact absT
  simp -implicitDefEqProofs (disch := omega) only [hz1, hz2, simprocAttr, amset, tyset, Function.comp_apply, one1, lenV, calleeOf, lateOk, belowV, aop, AV.ofValue, AV.ofCell, AV.cells, AV.flat, AV.one, arep, aBin, aAppend, aConv]
  rw [if_pos (by rw [beq_iff_eq.1 hz1, beq_iff_eq.1 hz2])] at hQ
  refine hQ _ _ (end_by (l2 := []) (.inl rfl) hbel (x1 := .sl none 0 (some 0)) (.sl none 0 (some 0)) (resT Tryz.results164) [] (by decide) ⟨rfl, by simp⟩ ?_)
  exact absT
set_option maxHeartbeats 8000000 in
set_option maxRecDepth 100000 in
/-- One more generator. -/
theorem put1_c (H : AHeap) (b : Nat) (own : Bool) (cap : Option Nat) (C : List Pt) (hb : H[b]? = some (.cells own 2 (prs C))) (hl : C.length ≤ 40) (hC : ∀ e ∈ C, Bd 260000000 e) (gx gy : Int) (hgb : -4194304 ≤ gx ∧ gx ≤ 4194304 ∧ -4194304 ≤ gy ∧ gy ≤ 4194304) :
    ACalls Tryz.prog 164 [.sl (some (b, 0)) C.length cap, .agg [.int .i64 gx, .int .i64 gy]] H (fun v H' => v = (putV H (.sl (some (b, 0)) C.length cap) C (gx, gy)).1 ∧ H' = (putV H (.sl (some (b, 0)) C.length cap) C (gx, gy)).2) := by
  unfold putV
  have hbl := getElem?_lt hb
  have hb0 := fun l => get_app (l := l) hb
  generalize hn : C.length = n at *
  obtain ⟨u, w, hf⟩ : ∃ u w, nrm (gx, gy) = (u, w) := ⟨_, _, rfl⟩
  have hub : -4194304 ≤ u ∧ u ≤ 4194304 ∧ -4194304 ≤ w ∧ w ≤ 4194304 := by
    have := nrm_bd (M := 4194304) (g := (gx, gy)) hgb
    rw [hf] at this
    exact this
  rw [hf]
  (refine ACalls_pieces Tryz.func164 _ rfl (Nat.le_of_ble_eq_true (by kernel_rfl)) rfl ?_; intro hbel Q hQ hQ' c hc; unfold Tryz.f164 at hc; simp only [Option.some.injEq] at hc; subst hc; clear hQ')
  refine AW_stepA true try_mixed (by kernel_rfl) (fun F2 H2 => F2 = [(0, .sl (some (b, 0)) n cap), (3, .ptr (some (H.length, 0)))] ∧ H2 = H ++ [.cells true 0 [.int .i64 gx, .int .i64 gy]]) ?_ ?_
  · intro J hJ
    simp -implicitDefEqProofs (disch := omega) only [simprocAttr, amset, tyset, Function.comp_apply, one1, lenV, calleeOf, lateOk, belowV, aop, AV.ofValue, AV.ofCell, AV.cells, AV.flat, AV.one, arep, aBin, aAppend, aConv]
    refine hJ _ _ ⟨_, _, _, ⟨rfl, rfl⟩, Abs.by hbel [0] (by decide) ?_⟩
    exact absT
  rintro F2 H2 ⟨rfl, rfl⟩
  refine AW_stepA true try_mixed (by kernel_rfl) (fun F2 H2 => F2 = [(0, .sl (some (b, 0)) n cap), (3, .ptr (some (H.length, 0)))] ∧ H2 = H ++ [.cells true 0 [.int .i64 u, .int .i64 w]]) ?_ ?_
  · intro J hJ
    have neg : (gy < 0 ∨ (gy = 0 ∧ gx < 0)) → u = 0 - gx ∧ w = 0 - gy := fun h => by
      unfold nrm at hf; rw [if_pos h] at hf; simp only [Prod.mk.injEq] at hf; omega
    have pos : ¬ (gy < 0 ∨ (gy = 0 ∧ gx < 0)) → u = gx ∧ w = gy := fun h => by
      unfold nrm at hf; rw [if_neg h] at hf; simp only [Prod.mk.injEq] at hf; omega
    by_cases h1 : gy < 0
    · obtain ⟨rfl, rfl⟩ := neg (.inl h1)
      simp -implicitDefEqProofs (disch := omega) only [h1, simprocAttr, amset, tyset, Function.comp_apply, one1, lenV, calleeOf, lateOk, belowV, aop, AV.ofValue, AV.ofCell, AV.cells, AV.flat, AV.one, arep, aBin, aAppend, aConv]
      refine hJ _ _ ⟨_, _, _, ⟨rfl, rfl⟩, Abs.by hbel [0] (by decide) ?_⟩
      exact absT
    · cases h2 : (gy == 0)
      · have h2' := beq_eq_false_iff_ne.1 h2
        obtain ⟨rfl, rfl⟩ := pos (by omega)
        simp -implicitDefEqProofs (disch := omega) only [h1, h2, simprocAttr, amset, tyset, Function.comp_apply, one1, lenV, calleeOf, lateOk, belowV, aop, AV.ofValue, AV.ofCell, AV.cells, AV.flat, AV.one, arep, aBin, aAppend, aConv]
        refine hJ _ _ ⟨_, _, _, ⟨rfl, rfl⟩, Abs.by hbel [0] (by decide) ?_⟩
        exact absT
      · have h2' := beq_iff_eq.1 h2
        by_cases h3 : gx < 0
        · obtain ⟨rfl, rfl⟩ := neg (.inr ⟨h2', h3⟩)
          simp -implicitDefEqProofs (disch := omega) only [h1, h2, h3, simprocAttr, amset, tyset, Function.comp_apply, one1, lenV, calleeOf, lateOk, belowV, aop, AV.ofValue, AV.ofCell, AV.cells, AV.flat, AV.one, arep, aBin, aAppend, aConv]
          refine hJ _ _ ⟨_, _, _, ⟨rfl, rfl⟩, Abs.by hbel [0] (by decide) ?_⟩
          exact absT
        · obtain ⟨rfl, rfl⟩ := pos (by omega)
          simp -implicitDefEqProofs (disch := omega) only [h1, h2, h3, simprocAttr, amset, tyset, Function.comp_apply, one1, lenV, calleeOf, lateOk, belowV, aop, AV.ofValue, AV.ofCell, AV.cells, AV.flat, AV.one, arep, aBin, aAppend, aConv]
          refine hJ _ _ ⟨_, _, _, ⟨rfl, rfl⟩, Abs.by hbel [0] (by decide) ?_⟩
          exact absT
  rintro F2 H2 ⟨rfl, rfl⟩
  refine AW_fin true try_mixed (by kernel_rfl) ?_
  clear hf hgb
  cases hz1 : (u == 0)
  · rw [if_neg (fun h => by injection h with h _; exact absurd h (beq_eq_false_iff_ne.1 hz1))] at hQ
    simp -implicitDefEqProofs (disch := omega) only [hz1, simprocAttr, amset, tyset, Function.comp_apply, one1, lenV, calleeOf, lateOk, belowV, aop, AV.ofValue, AV.ofCell, AV.cells, AV.flat, AV.one, arep, aBin, aAppend, aConv]
    refine go_loop try_mixed (by kernel_rfl) (fun k F Hx => ∃ (i : Nat) (s : AV) (X : ABlk), i + k = n ∧ OutP (H.length + 1) s X ((C.take i).foldl (pst (u, w)) ([], false)).1 ∧
      F = [(0, .sl (some (b, 0)) n none), (3, .ptr (some (H.length, 0))), (5, s), (6, .bool ((C.take i).foldl (pst (u, w)) ([], false)).2), (7, .int .i64 (i : Nat))] ∧
      Hx = H ++ [.cells true 0 [.int .i64 u, .int .i64 w], X]) n ?_ ?_
    · refine ⟨_, _, _, ⟨0, _, _, by omega, .inl ⟨rfl, rfl, rfl⟩, rfl, rfl⟩, Abs.by hbel [0, 1] (by decide) ?_⟩
      exact absT
    · rintro k F Hx ⟨i, s, X, hik, hO, rfl, rfl⟩ J hJ
      have hpl := pst_len (C := C) (g := (u, w)) i
      have hps := fun h => pst_step (C := C) (g := (u, w)) (i := i) h
      have fin : ∀ (d' : Bool) (L' : List Pt) (sel : List Nat), sel.Nodup → 0 < L'.length → i < C.length → (C.take (i + 1)).foldl (pst (u, w)) ([], false) = (L', d') → ∀ (F : Fr) (l1 : AHeap),
          (absF (H.length + l1.length) (sig H.length l1.length sel) F [(0, .sl (some (b, 0)) n none), (3, .ptr (some (H.length, 0))), (5, .sl (some (H.length + 1, 0)) L'.length none), (6, .bool d'), (7, .int .i64 ((i + 1 : Nat) : Int))] ∧
            absH (H.length + l1.length) (sig H.length l1.length sel) l1 sel [.cells true 0 [.int .i64 u, .int .i64 w], .cells true 2 (prs L')]) → J F (H ++ l1) := fun d' L' sel hnd hl0 hi hh F l1 ha =>
        hJ _ _ ⟨k - 1, by omega, _, _, _, ⟨i + 1, _, _, by omega, by rw [hh]; exact .inr ⟨hl0, rfl, rfl⟩, by rw [hh], rfl⟩, Abs.by hbel sel hnd ha⟩
      have hend : putC C (u, w) = if ((C.take n).foldl (pst (u, w)) ([], false)).2 = true then ((C.take n).foldl (pst (u, w)) ([], false)).1 else ((C.take n).foldl (pst (u, w)) ([], false)).1 ++ [(u, w)] := by
        rw [List.take_of_length_le (by omega)]; rfl
      by_cases hi : i < C.length
      · have hii : (i : Int) < (n : Int) := by omega
        have q0 := prs_load hi
        have q1 := prs_at0 hi
        have q2 := prs_at1 hi
        have hg : gp C i = C[i] := gp_eq hi
        have heb := hC C[i] (List.getElem_mem hi)
        rw [← hg] at heb
        have heb2 : Bd 268435456 (gp C i) := by unfold Bd at *; omega
        have hebd : -260000000 ≤ g1 C i ∧ g1 C i ≤ 260000000 ∧ -260000000 ≤ g2 C i ∧ g2 C i ≤ 260000000 := heb
        have hgb2 : Bd 268435456 (u, w) := by unfold Bd; simp only; omega
        have hps := hps hi
        generalize (C.take i).foldl (pst (u, w)) ([], false) = st at *
        obtain ⟨L, d⟩ := st
        simp only at hO hpl
        have hLt : List.take (L.length * 2) (prs L) = prs L := List.take_of_length_le (by rw [prs_len]; omega)
        simp -implicitDefEqProofs (disch := omega) only [hii, hb0, q0, simprocAttr, amset, tyset, Function.comp_apply, one1, lenV, calleeOf, lateOk, belowV, aop, AV.ofValue, AV.ofCell, AV.cells, AV.flat, AV.one, arep, aBin, aAppend, aConv]
        repeat refine And.intro (by omega) ?_
        refine call_d (by kernel_rfl) (rcross_c _ (u, w) (gp C i) hgb2 heb2) ?_
        have hLt2 : List.take ((L.length + 1) * 2) (prs (L ++ [(u, w)])) = prs (L ++ [(u, w)]) := List.take_of_length_le (by rw [prs_len, List.length_append]; simp)
        cases hc : (crs (u, w) (gp C i) == 0)
        · have hc' := beq_eq_false_iff_ne.1 hc
          by_cases hp : 0 < crs (u, w) (gp C i)
          · cases d
            · have hst : pst (u, w) (L, false) (gp C i) = (L ++ [(u, w), gp C i], true) := by unfold pst; rw [if_neg hc', if_pos ⟨hp, rfl⟩]
              rw [hst] at hps
              rcases hO with ⟨rfl, rfl, rfl⟩ | ⟨hL1, rfl, rfl⟩
              · simp -implicitDefEqProofs (disch := omega) only [hc, hp, hb0, q0, simprocAttr, amset, tyset, Function.comp_apply, one1, lenV, calleeOf, lateOk, belowV, aop, AV.ofValue, AV.ofCell, AV.cells, AV.flat, AV.one, arep, aBin, aAppend, aConv]
                repeat refine And.intro (by omega) ?_
                refine fin _ _ [0, 5] (by decide) (by simp) hi hps _ _ ?_
                exact absT
              · simp -implicitDefEqProofs (disch := omega) only [hc, hp, hb0, q0, prs_snoc, hLt, hLt2, simprocAttr, amset, tyset, Function.comp_apply, one1, lenV, calleeOf, lateOk, belowV, aop, AV.ofValue, AV.ofCell, AV.cells, AV.flat, AV.one, arep, aBin, aAppend, aConv]
                repeat refine And.intro (by omega) ?_
                refine fin _ _ [0, 5] (by decide) (by simp) hi hps _ _ ?_
                exact absTf (jn @List.append_assoc.{0} (jn @List.length_append.{0} (jn @List.length_cons.{0} @List.length_nil.{0})))
            · have hst : pst (u, w) (L, true) (gp C i) = (L ++ [gp C i], true) := by unfold pst; rw [if_neg hc', if_neg (by simp)]
              rw [hst] at hps
              rcases hO with ⟨rfl, rfl, rfl⟩ | ⟨hL1, rfl, rfl⟩
              · simp -implicitDefEqProofs (disch := omega) only [hc, hp, hb0, q0, simprocAttr, amset, tyset, Function.comp_apply, one1, lenV, calleeOf, lateOk, belowV, aop, AV.ofValue, AV.ofCell, AV.cells, AV.flat, AV.one, arep, aBin, aAppend, aConv]
                repeat refine And.intro (by omega) ?_
                refine fin _ _ [0, 3] (by decide) (by simp) hi hps _ _ ?_
                exact absT
              · simp -implicitDefEqProofs (disch := omega) only [hc, hp, hb0, q0, prs_snoc, hLt, simprocAttr, amset, tyset, Function.comp_apply, one1, lenV, calleeOf, lateOk, belowV, aop, AV.ofValue, AV.ofCell, AV.cells, AV.flat, AV.one, arep, aBin, aAppend, aConv]
                repeat refine And.intro (by omega) ?_
                refine fin _ _ [0, 3] (by decide) (by simp) hi hps _ _ ?_
                exact absTf (jn @List.append_assoc.{0} (jn @List.length_append.{0} (jn @List.length_cons.{0} @List.length_nil.{0})))
          · have hst : pst (u, w) (L, d) (gp C i) = (L ++ [gp C i], d) := by unfold pst; rw [if_neg hc', if_neg (by simp only; omega)]
            rw [hst] at hps
            rcases hO with ⟨rfl, rfl, rfl⟩ | ⟨hL1, rfl, rfl⟩
            · simp -implicitDefEqProofs (disch := omega) only [hc, hp, hb0, q0, simprocAttr, amset, tyset, Function.comp_apply, one1, lenV, calleeOf, lateOk, belowV, aop, AV.ofValue, AV.ofCell, AV.cells, AV.flat, AV.one, arep, aBin, aAppend, aConv]
              repeat refine And.intro (by omega) ?_
              refine fin _ _ [0, 3] (by decide) (by simp) hi hps _ _ ?_
              exact absT
            · simp -implicitDefEqProofs (disch := omega) only [hc, hp, hb0, q0, prs_snoc, hLt, simprocAttr, amset, tyset, Function.comp_apply, one1, lenV, calleeOf, lateOk, belowV, aop, AV.ofValue, AV.ofCell, AV.cells, AV.flat, AV.one, arep, aBin, aAppend, aConv]
              repeat refine And.intro (by omega) ?_
              refine fin _ _ [0, 3] (by decide) (by simp) hi hps _ _ ?_
              exact absTf (jn @List.append_assoc.{0} (jn @List.length_append.{0} (jn @List.length_cons.{0} @List.length_nil.{0})))
        · have hst : pst (u, w) (L, d) (gp C i) = (L ++ [padd (gp C i) (u, w)], true) := by unfold pst; rw [if_pos (beq_iff_eq.1 hc)]
          rw [hst] at hps
          rcases hO with ⟨rfl, rfl, rfl⟩ | ⟨hL1, rfl, rfl⟩
          · simp -implicitDefEqProofs (disch := omega) only [hc, hb0, q1, q2, simprocAttr, amset, tyset, Function.comp_apply, one1, lenV, calleeOf, lateOk, belowV, aop, AV.ofValue, AV.ofCell, AV.cells, AV.flat, AV.one, arep, aBin, aAppend, aConv]
            repeat refine And.intro (by omega) ?_
            refine fin _ _ [0, 3] (by decide) (by simp) hi hps _ _ ?_
            exact absT
          · simp -implicitDefEqProofs (disch := omega) only [hc, hb0, q1, q2, prs_snoc, hLt, simprocAttr, amset, tyset, Function.comp_apply, one1, lenV, calleeOf, lateOk, belowV, aop, AV.ofValue, AV.ofCell, AV.cells, AV.flat, AV.one, arep, aBin, aAppend, aConv]
            repeat refine And.intro (by omega) ?_
            refine fin _ _ [0, 3] (by decide) (by simp) hi hps _ _ ?_
            exact absTf (jn @List.append_assoc.{0} (jn @List.length_append.{0} (jn @List.length_cons.{0} @List.length_nil.{0})))
      · have hnn : ¬ ((i : Int) < (n : Int)) := by omega
        obtain rfl : i = n := by omega
        rw [hend] at hQ
        clear hps hend fin
        generalize (C.take i).foldl (pst (u, w)) ([], false) = st at *
        obtain ⟨L, d⟩ := st
        simp only at hO hpl
        have hLt : List.take (L.length * 2) (prs L) = prs L := List.take_of_length_le (by rw [prs_len]; omega)
        cases d
        · rw [if_neg (by simp), retP_pos (by simp)] at hQ
          rcases hO with ⟨rfl, rfl, rfl⟩ | ⟨hL1, rfl, rfl⟩
          · simp -implicitDefEqProofs (disch := omega) only [hnn, simprocAttr, amset, tyset, Function.comp_apply, one1, lenV, calleeOf, lateOk, belowV, aop, AV.ofValue, AV.ofCell, AV.cells, AV.flat, AV.one, arep, aBin, aAppend, aConv]
            refine hQ _ _ (end_by (.inl rfl) hbel (x1 := .sl (some (H.length + 3, 0)) 1 none) (.sl (some (H.length, 0)) 1 none) (resT Tryz.results164) [3] (by decide) ⟨rfl, rfl⟩ ?_)
            exact absT
          · simp -implicitDefEqProofs (disch := omega) only [hnn, prs_snoc, hLt, simprocAttr, amset, tyset, Function.comp_apply, one1, lenV, calleeOf, lateOk, belowV, aop, AV.ofValue, AV.ofCell, AV.cells, AV.flat, AV.one, arep, aBin, aAppend, aConv]
            repeat refine And.intro (by omega) ?_
            refine hQ _ _ (end_by (.inl rfl) hbel (x1 := .sl (some (H.length + 3, 0)) (L.length + 1) none) (.sl (some (H.length, 0)) (L.length + 1) none) (resT Tryz.results164) [3] (by decide) ⟨by simp, rfl⟩ ?_)
            exact absT
        · rw [if_pos rfl] at hQ
          rcases hO with ⟨rfl, rfl, rfl⟩ | ⟨hL1, rfl, rfl⟩
          · rw [retP_nil] at hQ
            simp -implicitDefEqProofs (disch := omega) only [hnn, simprocAttr, amset, tyset, Function.comp_apply, one1, lenV, calleeOf, lateOk, belowV, aop, AV.ofValue, AV.ofCell, AV.cells, AV.flat, AV.one, arep, aBin, aAppend, aConv]
            exact hQ _ _ (end_plain (.inl rfl) hbel (x := .sl none 0 (some 0)) (resT Tryz.results164) rfl ⟨rfl, rfl⟩)
          · rw [retP_pos hL1] at hQ
            simp -implicitDefEqProofs (disch := omega) only [hnn, simprocAttr, amset, tyset, Function.comp_apply, one1, lenV, calleeOf, lateOk, belowV, aop, AV.ofValue, AV.ofCell, AV.cells, AV.flat, AV.one, arep, aBin, aAppend, aConv]
            refine hQ _ _ (end_by (.inl rfl) hbel (x1 := .sl (some (H.length + 1, 0)) L.length none) (.sl (some (H.length, 0)) L.length none) (resT Tryz.results164) [1] (by decide) ⟨rfl, rfl⟩ ?_)
            exact absT
  cases hz2 : (w == 0)
  · rw [if_neg (fun h => by injection h with _ h; exact absurd h (beq_eq_false_iff_ne.1 hz2))] at hQ
    simp -implicitDefEqProofs (disch := omega) only [hz1, hz2, simprocAttr, amset, tyset, Function.comp_apply, one1, lenV, calleeOf, lateOk, belowV, aop, AV.ofValue, AV.ofCell, AV.cells, AV.flat, AV.one, arep, aBin, aAppend, aConv]
    refine go_loop try_mixed (by kernel_rfl) (fun k F Hx => ∃ (i : Nat) (s : AV) (X : ABlk), i + k = n ∧ OutP (H.length + 1) s X ((C.take i).foldl (pst (u, w)) ([], false)).1 ∧
      F = [(0, .sl (some (b, 0)) n none), (3, .ptr (some (H.length, 0))), (5, s), (6, .bool ((C.take i).foldl (pst (u, w)) ([], false)).2), (7, .int .i64 (i : Nat))] ∧
      Hx = H ++ [.cells true 0 [.int .i64 u, .int .i64 w], X]) n ?_ ?_
    · refine ⟨_, _, _, ⟨0, _, _, by omega, .inl ⟨rfl, rfl, rfl⟩, rfl, rfl⟩, Abs.by hbel [0, 1] (by decide) ?_⟩
      exact absT
    · rintro k F Hx ⟨i, s, X, hik, hO, rfl, rfl⟩ J hJ
      have hpl := pst_len (C := C) (g := (u, w)) i
      have hps := fun h => pst_step (C := C) (g := (u, w)) (i := i) h
      have fin : ∀ (d' : Bool) (L' : List Pt) (sel : List Nat), sel.Nodup → 0 < L'.length → i < C.length → (C.take (i + 1)).foldl (pst (u, w)) ([], false) = (L', d') → ∀ (F : Fr) (l1 : AHeap),
          (absF (H.length + l1.length) (sig H.length l1.length sel) F [(0, .sl (some (b, 0)) n none), (3, .ptr (some (H.length, 0))), (5, .sl (some (H.length + 1, 0)) L'.length none), (6, .bool d'), (7, .int .i64 ((i + 1 : Nat) : Int))] ∧
            absH (H.length + l1.length) (sig H.length l1.length sel) l1 sel [.cells true 0 [.int .i64 u, .int .i64 w], .cells true 2 (prs L')]) → J F (H ++ l1) := fun d' L' sel hnd hl0 hi hh F l1 ha =>
        hJ _ _ ⟨k - 1, by omega, _, _, _, ⟨i + 1, _, _, by omega, by rw [hh]; exact .inr ⟨hl0, rfl, rfl⟩, by rw [hh], rfl⟩, Abs.by hbel sel hnd ha⟩
      have hend : putC C (u, w) = if ((C.take n).foldl (pst (u, w)) ([], false)).2 = true then ((C.take n).foldl (pst (u, w)) ([], false)).1 else ((C.take n).foldl (pst (u, w)) ([], false)).1 ++ [(u, w)] := by
        rw [List.take_of_length_le (by omega)]; rfl
      by_cases hi : i < C.length
      · have hii : (i : Int) < (n : Int) := by omega
        have q0 := prs_load hi
        have q1 := prs_at0 hi
        have q2 := prs_at1 hi
        have hg : gp C i = C[i] := gp_eq hi
        have heb := hC C[i] (List.getElem_mem hi)
        rw [← hg] at heb
        have heb2 : Bd 268435456 (gp C i) := by unfold Bd at *; omega
        have hebd : -260000000 ≤ g1 C i ∧ g1 C i ≤ 260000000 ∧ -260000000 ≤ g2 C i ∧ g2 C i ≤ 260000000 := heb
        have hgb2 : Bd 268435456 (u, w) := by unfold Bd; simp only; omega
        have hps := hps hi
        generalize (C.take i).foldl (pst (u, w)) ([], false) = st at *
        obtain ⟨L, d⟩ := st
        simp only at hO hpl
        have hLt : List.take (L.length * 2) (prs L) = prs L := List.take_of_length_le (by rw [prs_len]; omega)
        simp -implicitDefEqProofs (disch := omega) only [hii, hb0, q0, simprocAttr, amset, tyset, Function.comp_apply, one1, lenV, calleeOf, lateOk, belowV, aop, AV.ofValue, AV.ofCell, AV.cells, AV.flat, AV.one, arep, aBin, aAppend, aConv]
        repeat refine And.intro (by omega) ?_
        refine call_d (by kernel_rfl) (rcross_c _ (u, w) (gp C i) hgb2 heb2) ?_
        have hLt2 : List.take ((L.length + 1) * 2) (prs (L ++ [(u, w)])) = prs (L ++ [(u, w)]) := List.take_of_length_le (by rw [prs_len, List.length_append]; simp)
        cases hc : (crs (u, w) (gp C i) == 0)
        · have hc' := beq_eq_false_iff_ne.1 hc
          by_cases hp : 0 < crs (u, w) (gp C i)
          · cases d
            · have hst : pst (u, w) (L, false) (gp C i) = (L ++ [(u, w), gp C i], true) := by unfold pst; rw [if_neg hc', if_pos ⟨hp, rfl⟩]
              rw [hst] at hps
              rcases hO with ⟨rfl, rfl, rfl⟩ | ⟨hL1, rfl, rfl⟩
              · simp -implicitDefEqProofs (disch := omega) only [hc, hp, hb0, q0, simprocAttr, amset, tyset, Function.comp_apply, one1, lenV, calleeOf, lateOk, belowV, aop, AV.ofValue, AV.ofCell, AV.cells, AV.flat, AV.one, arep, aBin, aAppend, aConv]
                repeat refine And.intro (by omega) ?_
                refine fin _ _ [0, 5] (by decide) (by simp) hi hps _ _ ?_
                exact absT
              · simp -implicitDefEqProofs (disch := omega) only [hc, hp, hb0, q0, prs_snoc, hLt, hLt2, simprocAttr, amset, tyset, Function.comp_apply, one1, lenV, calleeOf, lateOk, belowV, aop, AV.ofValue, AV.ofCell, AV.cells, AV.flat, AV.one, arep, aBin, aAppend, aConv]
                repeat refine And.intro (by omega) ?_
                refine fin _ _ [0, 5] (by decide) (by simp) hi hps _ _ ?_
                exact absTf (jn @List.append_assoc.{0} (jn @List.length_append.{0} (jn @List.length_cons.{0} @List.length_nil.{0})))
            · have hst : pst (u, w) (L, true) (gp C i) = (L ++ [gp C i], true) := by unfold pst; rw [if_neg hc', if_neg (by simp)]
              rw [hst] at hps
              rcases hO with ⟨rfl, rfl, rfl⟩ | ⟨hL1, rfl, rfl⟩
              · simp -implicitDefEqProofs (disch := omega) only [hc, hp, hb0, q0, simprocAttr, amset, tyset, Function.comp_apply, one1, lenV, calleeOf, lateOk, belowV, aop, AV.ofValue, AV.ofCell, AV.cells, AV.flat, AV.one, arep, aBin, aAppend, aConv]
                repeat refine And.intro (by omega) ?_
                refine fin _ _ [0, 3] (by decide) (by simp) hi hps _ _ ?_
                exact absT
              · simp -implicitDefEqProofs (disch := omega) only [hc, hp, hb0, q0, prs_snoc, hLt, simprocAttr, amset, tyset, Function.comp_apply, one1, lenV, calleeOf, lateOk, belowV, aop, AV.ofValue, AV.ofCell, AV.cells, AV.flat, AV.one, arep, aBin, aAppend, aConv]
                repeat refine And.intro (by omega) ?_
                refine fin _ _ [0, 3] (by decide) (by simp) hi hps _ _ ?_
                exact absTf (jn @List.append_assoc.{0} (jn @List.length_append.{0} (jn @List.length_cons.{0} @List.length_nil.{0})))
          · have hst : pst (u, w) (L, d) (gp C i) = (L ++ [gp C i], d) := by unfold pst; rw [if_neg hc', if_neg (by simp only; omega)]
            rw [hst] at hps
            rcases hO with ⟨rfl, rfl, rfl⟩ | ⟨hL1, rfl, rfl⟩
            · simp -implicitDefEqProofs (disch := omega) only [hc, hp, hb0, q0, simprocAttr, amset, tyset, Function.comp_apply, one1, lenV, calleeOf, lateOk, belowV, aop, AV.ofValue, AV.ofCell, AV.cells, AV.flat, AV.one, arep, aBin, aAppend, aConv]
              repeat refine And.intro (by omega) ?_
              refine fin _ _ [0, 3] (by decide) (by simp) hi hps _ _ ?_
              exact absT
            · simp -implicitDefEqProofs (disch := omega) only [hc, hp, hb0, q0, prs_snoc, hLt, simprocAttr, amset, tyset, Function.comp_apply, one1, lenV, calleeOf, lateOk, belowV, aop, AV.ofValue, AV.ofCell, AV.cells, AV.flat, AV.one, arep, aBin, aAppend, aConv]
              repeat refine And.intro (by omega) ?_
              refine fin _ _ [0, 3] (by decide) (by simp) hi hps _ _ ?_
              exact absTf (jn @List.append_assoc.{0} (jn @List.length_append.{0} (jn @List.length_cons.{0} @List.length_nil.{0})))
        · have hst : pst (u, w) (L, d) (gp C i) = (L ++ [padd (gp C i) (u, w)], true) := by unfold pst; rw [if_pos (beq_iff_eq.1 hc)]
          rw [hst] at hps
          rcases hO with ⟨rfl, rfl, rfl⟩ | ⟨hL1, rfl, rfl⟩
          · simp -implicitDefEqProofs (disch := omega) only [hc, hb0, q1, q2, simprocAttr, amset, tyset, Function.comp_apply, one1, lenV, calleeOf, lateOk, belowV, aop, AV.ofValue, AV.ofCell, AV.cells, AV.flat, AV.one, arep, aBin, aAppend, aConv]
            repeat refine And.intro (by omega) ?_
            refine fin _ _ [0, 3] (by decide) (by simp) hi hps _ _ ?_
            exact absT
          · simp -implicitDefEqProofs (disch := omega) only [hc, hb0, q1, q2, prs_snoc, hLt, simprocAttr, amset, tyset, Function.comp_apply, one1, lenV, calleeOf, lateOk, belowV, aop, AV.ofValue, AV.ofCell, AV.cells, AV.flat, AV.one, arep, aBin, aAppend, aConv]
            repeat refine And.intro (by omega) ?_
            refine fin _ _ [0, 3] (by decide) (by simp) hi hps _ _ ?_
            exact absTf (jn @List.append_assoc.{0} (jn @List.length_append.{0} (jn @List.length_cons.{0} @List.length_nil.{0})))
      · have hnn : ¬ ((i : Int) < (n : Int)) := by omega
        obtain rfl : i = n := by omega
        rw [hend] at hQ
        clear hps hend fin
        generalize (C.take i).foldl (pst (u, w)) ([], false) = st at *
        obtain ⟨L, d⟩ := st
        simp only at hO hpl
        have hLt : List.take (L.length * 2) (prs L) = prs L := List.take_of_length_le (by rw [prs_len]; omega)
        cases d
        · rw [if_neg (by simp), retP_pos (by simp)] at hQ
          rcases hO with ⟨rfl, rfl, rfl⟩ | ⟨hL1, rfl, rfl⟩
          · simp -implicitDefEqProofs (disch := omega) only [hnn, simprocAttr, amset, tyset, Function.comp_apply, one1, lenV, calleeOf, lateOk, belowV, aop, AV.ofValue, AV.ofCell, AV.cells, AV.flat, AV.one, arep, aBin, aAppend, aConv]
            refine hQ _ _ (end_by (.inl rfl) hbel (x1 := .sl (some (H.length + 3, 0)) 1 none) (.sl (some (H.length, 0)) 1 none) (resT Tryz.results164) [3] (by decide) ⟨rfl, rfl⟩ ?_)
            exact absT
          · simp -implicitDefEqProofs (disch := omega) only [hnn, prs_snoc, hLt, simprocAttr, amset, tyset, Function.comp_apply, one1, lenV, calleeOf, lateOk, belowV, aop, AV.ofValue, AV.ofCell, AV.cells, AV.flat, AV.one, arep, aBin, aAppend, aConv]
            repeat refine And.intro (by omega) ?_
            refine hQ _ _ (end_by (.inl rfl) hbel (x1 := .sl (some (H.length + 3, 0)) (L.length + 1) none) (.sl (some (H.length, 0)) (L.length + 1) none) (resT Tryz.results164) [3] (by decide) ⟨by simp, rfl⟩ ?_)
            exact absT
        · rw [if_pos rfl] at hQ
          rcases hO with ⟨rfl, rfl, rfl⟩ | ⟨hL1, rfl, rfl⟩
          · rw [retP_nil] at hQ
            simp -implicitDefEqProofs (disch := omega) only [hnn, simprocAttr, amset, tyset, Function.comp_apply, one1, lenV, calleeOf, lateOk, belowV, aop, AV.ofValue, AV.ofCell, AV.cells, AV.flat, AV.one, arep, aBin, aAppend, aConv]
            exact hQ _ _ (end_plain (.inl rfl) hbel (x := .sl none 0 (some 0)) (resT Tryz.results164) rfl ⟨rfl, rfl⟩)
          · rw [retP_pos hL1] at hQ
            simp -implicitDefEqProofs (disch := omega) only [hnn, simprocAttr, amset, tyset, Function.comp_apply, one1, lenV, calleeOf, lateOk, belowV, aop, AV.ofValue, AV.ofCell, AV.cells, AV.flat, AV.one, arep, aBin, aAppend, aConv]
            refine hQ _ _ (end_by (.inl rfl) hbel (x1 := .sl (some (H.length + 1, 0)) L.length none) (.sl (some (H.length, 0)) L.length none) (resT Tryz.results164) [1] (by decide) ⟨rfl, rfl⟩ ?_)
            exact absT
  simp -implicitDefEqProofs (disch := omega) only [hz1, hz2, simprocAttr, amset, tyset, Function.comp_apply, one1, lenV, calleeOf, lateOk, belowV, aop, AV.ofValue, AV.ofCell, AV.cells, AV.flat, AV.one, arep, aBin, aAppend, aConv]
  rw [if_pos (by rw [beq_iff_eq.1 hz1, beq_iff_eq.1 hz2])] at hQ
  refine hQ _ _ (end_by (l2 := []) (.inl rfl) hbel (x1 := .sl (some (b, 0)) n cap) (.sl (some (b, 0)) n cap) (resT Tryz.results164) [] (by decide) ⟨rfl, by simp⟩ ?_)
  exact absT
open Go.RowKit
set_option maxHeartbeats 4000000
set_option maxRecDepth 100000
theorem pst_bd {A B : Int} (hA : 0 ≤ A) (hB : 0 ≤ B) {g x : Pt} {st : List Pt × Bool} (h : ∀ e ∈ st.1, Bd (A + B) e) (hx : Bd A x) (hg : Bd B g) : ∀ e ∈ (pst g st x).1, Bd (A + B) e := by
  have hx' : Bd (A + B) x := by unfold Bd at *; omega
  have hg' : Bd (A + B) g := by unfold Bd at *; omega
  have hp : Bd (A + B) (padd x g) := by unfold Bd padd at *; simp only; omega
  unfold pst
  split
  · intro e he
    simp only [List.mem_append, List.mem_singleton] at he
    rcases he with he | rfl
    · exact h e he
    · exact hp
  · split
    · intro e he
      simp only [List.mem_append, List.mem_cons, List.not_mem_nil, or_false] at he
      rcases he with he | rfl | rfl
      · exact h e he
      · exact hg'
      · exact hx'
    · intro e he
      simp only [List.mem_append, List.mem_singleton] at he
      rcases he with he | rfl
      · exact h e he
      · exact hx'
theorem putC_bd {A B : Int} (hA : 0 ≤ A) (hB : 0 ≤ B) {g : Pt} {C : List Pt} (hC : ∀ e ∈ C, Bd A e) (hg : Bd B g) : ∀ e ∈ putC C g, Bd (A + B) e := by
  have gen : ∀ (D : List Pt) (st : List Pt × Bool), (∀ e ∈ D, Bd A e) → (∀ e ∈ st.1, Bd (A + B) e) → ∀ e ∈ (D.foldl (pst g) st).1, Bd (A + B) e := fun D => by
    induction D with
    | nil => intro st _ h; exact h
    | cons d D ih =>
      intro st hD h
      rw [List.foldl_cons]
      exact ih _ (fun e he => hD e (by simp [he])) (pst_bd hA hB h (hD d (by simp)) hg)
  have h1 := gen C ([], false) hC (by simp)
  have hg' : Bd (A + B) g := by unfold Bd at *; omega
  unfold putC
  simp only
  split
  · exact h1
  · intro e he
    simp only [List.mem_append, List.mem_singleton] at he
    rcases he with he | rfl
    · exact h1 e he
    · exact hg'
theorem canonL_snoc (l : List Pt) (g : Pt) : canonL (l ++ [g]) = putL (canonL l) g := by unfold canonL; rw [List.foldl_append]; rfl
theorem canonL_bd {M : Int} (hM : 0 ≤ M) {l : List Pt} (h : ∀ e ∈ l, Bd M e) : ∀ e ∈ canonL l, Bd (l.length * M) e := by
  revert h
  refine snoc_ind (P := fun l => (∀ e ∈ l, Bd M e) → ∀ e ∈ canonL l, Bd (l.length * M) e) (fun _ => by simp [canonL]) (fun l g ih h => ?_) l
  have ih := ih fun e he => h e (by simp [he])
  have hg := nrm_bd (h g (by simp))
  have e1 : ((l ++ [g]).length : Int) * M = l.length * M + M := by
    rw [List.length_append, Int.natCast_add, Int.add_mul]; simp
  have e2 : 0 ≤ (l.length : Int) * M := Int.mul_nonneg (by omega) hM
  rw [canonL_snoc, e1]
  unfold putL
  split
  · intro e he
    have := ih e he
    unfold Bd at *; omega
  · exact putC_bd e2 hM ih hg
theorem putC_len {C : List Pt} {g : Pt} (hg : up g) (hs : C.Pairwise fun a b => 0 < crs a b) (hu : ∀ e ∈ C, up e) : (putC C g).length ≤ C.length + 1 ∧ 0 < (putC C g).length := by
  rcases split_at hg C hs hu with ⟨A, B, rfl, h1, h2⟩ | ⟨A, e, B, rfl, h1, h0, h2⟩
  · rw [putC_none h1 h2]; simp; omega
  · rw [putC_some h1 h0 h2]; simp; omega
theorem canonL_len (l : List Pt) : (canonL l).length ≤ l.length := by
  refine snoc_ind (P := fun l => (canonL l).length ≤ l.length) (by simp [canonL]) (fun l g h => ?_) l
  rw [canonL_snoc, List.length_append, List.length_singleton]
  unfold putL
  split
  · omega
  · rename_i h0
    have hc := canonL_can l
    have := (putC_len (nrm_up h0) hc.sorted hc.ups).1
    omega
/-- One more generator, to a list that is none yet or a block of its own. -/
theorem put_c (H : AHeap) (s : AV) (C : List Pt) (hs : IsP H s C) (hl : C.length ≤ 40) (hC : ∀ e ∈ C, Bd 260000000 e) (g : Pt) (hg : Bd 4194304 g) :
    ACalls Tryz.prog 164 [s, pv g] H (fun v H' => v = (putV H s C g).1 ∧ H' = (putV H s C g).2) := by
  rcases hs with ⟨rfl, rfl⟩ | ⟨b, own, cap, rfl, hb⟩
  · exact put0_c H g.1 g.2 hg
  · exact put1_c H b own cap C hb hl hC g.1 g.2 hg
theorem putV_zero {H : AHeap} {s : AV} {C : List Pt} {g : Pt} (h : nrm g = (0, 0)) : putV H s C g = (s, H) := by unfold putV; rw [if_pos h]
theorem putV_pos {H : AHeap} {s : AV} {C : List Pt} {g : Pt} (h : nrm g ≠ (0, 0)) (h0 : 0 < (putC C (nrm g)).length) : putV H s C g = (.sl (some (H.length, 0)) (putC C (nrm g)).length none, H ++ [.cells true 2 (prs (putC C (nrm g)))]) := by
  unfold putV; rw [if_neg h, retP_pos h0]
theorem rcanon_c (H : AHeap) (x y : Int) (b : Nat) (own : Bool) (cap : Option Nat) (l : List Pt) (hb : H[b]? = some (.cells own 2 (prs l))) (hl : l.length ≤ 40) (hB : ∀ e ∈ l, Bd 4194304 e) :
    ACalls Tryz.prog 117 [.agg [.int .i64 x, .int .i64 y, .sl (some (b, 0)) l.length cap]] H (fun v H' => v = .agg [.int .i64 x, .int .i64 y, (retP H (canonL l)).1] ∧ H' = (retP H (canonL l)).2) := by
  have hbl := getElem?_lt hb
  have hb0 := fun l => get_app (l := l) hb
  generalize hn : l.length = n at *
  (refine ACalls_run try_mixed Tryz.func117 false _ rfl (Nat.le_of_ble_eq_true (by kernel_rfl)) (by kernel_rfl) ?_; intro hbel Q hQ hQ' c hc; unfold Tryz.f117 at hc; simp only [Option.some.injEq] at hc; subst hc; clear hQ')
  simp -implicitDefEqProofs (disch := omega) only [simprocAttr, amset, tyset, Function.comp_apply, one1, lenV, calleeOf, lateOk, belowV, aop, AV.ofValue, AV.ofCell, AV.cells, AV.flat, AV.one, arep, aBin, aAppend, aConv]
  refine go_loop try_mixed (by kernel_rfl) (fun k F Hx => ∃ (i : Nat) (s : AV) (X : ABlk), i + k = n ∧ OutP (H.length + 3) s X (canonL (l.take i)) ∧
    F = [(1, .ptr (some (H.length, 0))), (2, .ptr (some (H.length + 1, 0))), (3, .ptr (some (H.length + 2, 0))), (4, .int .i64 (i : Nat))] ∧
    Hx = H ++ [.cells true 0 [.int .i64 x, .int .i64 y, .sl (some (b, 0)) n cap], .cells true 0 [.int .i64 0, .int .i64 0, .sl none 0 (some 0)], .cells true 0 [.int .i64 x, .int .i64 y, s], X]) n ?_ ?_
  · refine ⟨_, _, _, ⟨0, _, _, by omega, .inl ⟨rfl, rfl, rfl⟩, rfl, rfl⟩, Abs.by hbel [0, 1, 2, 3] (by decide) ?_⟩
    exact absT
  · rintro k F Hx ⟨i, s, X, hik, hO, rfl, rfl⟩ J hJ
    by_cases hi : i < l.length
    · have hii : (i : Int) < (n : Int) := by omega
      have q0 := prs_load hi
      have hg : gp l i = l[i] := gp_eq hi
      have hgb := hB l[i] (List.getElem_mem hi)
      rw [← hg] at hgb
      have hst : canonL (l.take (i + 1)) = putL (canonL (l.take i)) (gp l i) := by rw [List.take_succ_eq_append_getElem hi, canonL_snoc, hg]
      have hml := canonL_len (l.take i)
      have hmb := canonL_bd (M := 4194304) (by decide) (l := l.take i) (fun e he => hB e (List.mem_of_mem_take he))
      have hcan := canonL_can (l.take i)
      have h40 : ((l.take i).length : Int) * 4194304 ≤ 40 * 4194304 := Int.mul_le_mul_of_nonneg_right (by rw [List.length_take]; omega) (by decide)
      have hmb2 : ∀ e ∈ canonL (l.take i), Bd 260000000 e := fun e he => by have := hmb e he; unfold Bd at *; omega
      rw [List.length_take] at hml
      generalize canonL (l.take i) = L at *
      rcases hO with ⟨rfl, rfl, rfl⟩ | ⟨hL1, rfl, rfl⟩
      · have hput := put_c (H ++ [.cells true 0 [.int .i64 x, .int .i64 y, .sl (some (b, 0)) n cap], .cells true 0 [.int .i64 0, .int .i64 0, .sl none 0 (some 0)], .cells true 0 [.int .i64 x, .int .i64 y, .sl none 0 (some 0)], .dead]) (.sl none 0 (some 0)) [] (.inl ⟨rfl, rfl⟩) (by simp) hmb2 (gp l i) hgb
        by_cases hz : nrm (gp l i) = (0, 0)
        · have hst2 : putL [] (gp l i) = [] := by unfold putL; rw [if_pos hz]
          rw [hst2] at hst
          rw [putV_zero hz] at hput
          simp -implicitDefEqProofs (disch := omega) only [hii, hb0, q0, simprocAttr, amset, tyset, Function.comp_apply, one1, lenV, calleeOf, lateOk, belowV, aop, AV.ofValue, AV.ofCell, AV.cells, AV.flat, AV.one, arep, aBin, aAppend, aConv]
          repeat refine And.intro (by omega) ?_
          refine call_d (by kernel_rfl) hput ?_
          simp -implicitDefEqProofs (disch := omega) only [simprocAttr, amset, tyset, Function.comp_apply, one1, lenV, calleeOf, lateOk, belowV, aop, AV.ofValue, AV.ofCell, AV.cells, AV.flat, AV.one, arep, aBin, aAppend, aConv]
          refine hJ _ _ ⟨k - 1, by omega, _, [(1, .ptr (some (H.length, 0))), (2, .ptr (some (H.length + 1, 0))), (3, .ptr (some (H.length + 2, 0))), (4, .int .i64 ((i + 1 : Nat) : Int))], H ++ [.cells true 0 [.int .i64 x, .int .i64 y, .sl (some (b, 0)) n cap], .cells true 0 [.int .i64 0, .int .i64 0, .sl none 0 (some 0)], .cells true 0 [.int .i64 x, .int .i64 y, .sl none 0 (some 0)], .dead], ⟨i + 1, .sl none 0 (some 0), .dead, by omega, by rw [hst]; exact .inl ⟨rfl, rfl, rfl⟩, rfl, rfl⟩, Abs.by hbel [0, 1, 2, 3] (by decide) ?_⟩
          exact absT
        · have hst2 : putL [] (gp l i) = putC [] (nrm (gp l i)) := by unfold putL; rw [if_neg hz]
          rw [hst2] at hst
          have hpl := (putC_len (nrm_up hz) hcan.sorted hcan.ups).2
          rw [putV_pos hz hpl] at hput
          simp only [List.length_append, List.length_cons, List.length_nil, Nat.zero_add, Nat.reduceAdd] at hput
          generalize putC [] (nrm (gp l i)) = L2 at *
          simp -implicitDefEqProofs (disch := omega) only [hii, hb0, q0, simprocAttr, amset, tyset, Function.comp_apply, one1, lenV, calleeOf, lateOk, belowV, aop, AV.ofValue, AV.ofCell, AV.cells, AV.flat, AV.one, arep, aBin, aAppend, aConv]
          repeat refine And.intro (by omega) ?_
          refine call_x (by kernel_rfl) (by simp) hput ?_
          simp -implicitDefEqProofs (disch := omega) only [simprocAttr, amset, tyset, Function.comp_apply, one1, lenV, calleeOf, lateOk, belowV, aop, AV.ofValue, AV.ofCell, AV.cells, AV.flat, AV.one, arep, aBin, aAppend, aConv]
          refine hJ _ _ ⟨k - 1, by omega, _, [(1, .ptr (some (H.length, 0))), (2, .ptr (some (H.length + 1, 0))), (3, .ptr (some (H.length + 2, 0))), (4, .int .i64 ((i + 1 : Nat) : Int))], H ++ [.cells true 0 [.int .i64 x, .int .i64 y, .sl (some (b, 0)) n cap], .cells true 0 [.int .i64 0, .int .i64 0, .sl none 0 (some 0)], .cells true 0 [.int .i64 x, .int .i64 y, .sl (some (H.length + 3, 0)) L2.length none], .cells true 2 (prs L2)], ⟨i + 1, .sl (some (H.length + 3, 0)) L2.length none, .cells true 2 (prs L2), by omega, by rw [hst]; exact .inr ⟨hpl, rfl, rfl⟩, rfl, rfl⟩, Abs.by hbel [0, 1, 2, 4] (by decide) ?_⟩
          exact absT
      · have hput := put_c (H ++ [.cells true 0 [.int .i64 x, .int .i64 y, .sl (some (b, 0)) n cap], .cells true 0 [.int .i64 0, .int .i64 0, .sl none 0 (some 0)], .cells true 0 [.int .i64 x, .int .i64 y, .sl (some (H.length + 3, 0)) L.length none], .cells true 2 (prs L)]) (.sl (some (H.length + 3, 0)) L.length none) L (.inr ⟨H.length + 3, true, none, rfl, by rw [get_newk]; rfl⟩) (by omega) hmb2 (gp l i) hgb
        by_cases hz : nrm (gp l i) = (0, 0)
        · have hst2 : putL L (gp l i) = L := by unfold putL; rw [if_pos hz]
          rw [hst2] at hst
          rw [putV_zero hz] at hput
          simp -implicitDefEqProofs (disch := omega) only [hii, hb0, q0, simprocAttr, amset, tyset, Function.comp_apply, one1, lenV, calleeOf, lateOk, belowV, aop, AV.ofValue, AV.ofCell, AV.cells, AV.flat, AV.one, arep, aBin, aAppend, aConv]
          repeat refine And.intro (by omega) ?_
          refine call_d (by kernel_rfl) hput ?_
          simp -implicitDefEqProofs (disch := omega) only [simprocAttr, amset, tyset, Function.comp_apply, one1, lenV, calleeOf, lateOk, belowV, aop, AV.ofValue, AV.ofCell, AV.cells, AV.flat, AV.one, arep, aBin, aAppend, aConv]
          refine hJ _ _ ⟨k - 1, by omega, _, [(1, .ptr (some (H.length, 0))), (2, .ptr (some (H.length + 1, 0))), (3, .ptr (some (H.length + 2, 0))), (4, .int .i64 ((i + 1 : Nat) : Int))], H ++ [.cells true 0 [.int .i64 x, .int .i64 y, .sl (some (b, 0)) n cap], .cells true 0 [.int .i64 0, .int .i64 0, .sl none 0 (some 0)], .cells true 0 [.int .i64 x, .int .i64 y, .sl (some (H.length + 3, 0)) L.length none], .cells true 2 (prs L)], ⟨i + 1, .sl (some (H.length + 3, 0)) L.length none, .cells true 2 (prs L), by omega, by rw [hst]; exact .inr ⟨hL1, rfl, rfl⟩, rfl, rfl⟩, Abs.by hbel [0, 1, 2, 3] (by decide) ?_⟩
          exact absT
        · have hst2 : putL L (gp l i) = putC L (nrm (gp l i)) := by unfold putL; rw [if_neg hz]
          rw [hst2] at hst
          have hpl := (putC_len (nrm_up hz) hcan.sorted hcan.ups).2
          rw [putV_pos hz hpl] at hput
          simp only [List.length_append, List.length_cons, List.length_nil, Nat.zero_add, Nat.reduceAdd] at hput
          generalize putC L (nrm (gp l i)) = L2 at *
          simp -implicitDefEqProofs (disch := omega) only [hii, hb0, q0, simprocAttr, amset, tyset, Function.comp_apply, one1, lenV, calleeOf, lateOk, belowV, aop, AV.ofValue, AV.ofCell, AV.cells, AV.flat, AV.one, arep, aBin, aAppend, aConv]
          repeat refine And.intro (by omega) ?_
          refine call_x (by kernel_rfl) (by simp) hput ?_
          simp -implicitDefEqProofs (disch := omega) only [simprocAttr, amset, tyset, Function.comp_apply, one1, lenV, calleeOf, lateOk, belowV, aop, AV.ofValue, AV.ofCell, AV.cells, AV.flat, AV.one, arep, aBin, aAppend, aConv]
          refine hJ _ _ ⟨k - 1, by omega, _, [(1, .ptr (some (H.length, 0))), (2, .ptr (some (H.length + 1, 0))), (3, .ptr (some (H.length + 2, 0))), (4, .int .i64 ((i + 1 : Nat) : Int))], H ++ [.cells true 0 [.int .i64 x, .int .i64 y, .sl (some (b, 0)) n cap], .cells true 0 [.int .i64 0, .int .i64 0, .sl none 0 (some 0)], .cells true 0 [.int .i64 x, .int .i64 y, .sl (some (H.length + 3, 0)) L2.length none], .cells true 2 (prs L2)], ⟨i + 1, .sl (some (H.length + 3, 0)) L2.length none, .cells true 2 (prs L2), by omega, by rw [hst]; exact .inr ⟨hpl, rfl, rfl⟩, rfl, rfl⟩, Abs.by hbel [0, 1, 2, 4] (by decide) ?_⟩
          exact absT
    · have hnn : ¬ ((i : Int) < (n : Int)) := by omega
      rw [List.take_of_length_le (by omega)] at hO
      rcases hO with ⟨h, rfl, rfl⟩ | ⟨h, rfl, rfl⟩
      · rw [h, retP_nil] at hQ
        simp -implicitDefEqProofs (disch := omega) only [hnn, simprocAttr, amset, tyset, Function.comp_apply, one1, lenV, calleeOf, lateOk, belowV, aop, AV.ofValue, AV.ofCell, AV.cells, AV.flat, AV.one, arep, aBin, aAppend, aConv]
        exact hQ _ _ (end_plain (.inl rfl) hbel (x := .agg [.int .i64 x, .int .i64 y, .sl none 0 (some 0)]) (resT Tryz.results117) rfl ⟨rfl, rfl⟩)
      · rw [retP_pos h] at hQ
        simp -implicitDefEqProofs (disch := omega) only [hnn, simprocAttr, amset, tyset, Function.comp_apply, one1, lenV, calleeOf, lateOk, belowV, aop, AV.ofValue, AV.ofCell, AV.cells, AV.flat, AV.one, arep, aBin, aAppend, aConv]
        refine hQ _ _ (end_by (.inl rfl) hbel (x1 := .agg [.int .i64 x, .int .i64 y, .sl (some (H.length + 3, 0)) (canonL l).length none]) (.agg [.int .i64 x, .int .i64 y, .sl (some (H.length, 0)) (canonL l).length none]) (resT Tryz.results117) [3] (by decide) ⟨rfl, rfl⟩ ?_)
        exact absT
open Go.RowKit
open Go.RowKit
theorem within_iff {x m : Int} : within x m = true ↔ -m ≤ x ∧ x ≤ m := by unfold within; simp
def far4 (a b c d : Int) : Bool := within a 2097152 && within b 2097152 && within c 2097152 && within d 2097152
theorem far4_any (a b c d : Int) : (!([a, b, c, d] : List Int).any farB) = far4 a b c d := by
  simp only [List.any_cons, List.any_nil, farB, nearB, far4]
  cases within a 2097152 <;> cases within b 2097152 <;> cases within c 2097152 <;> cases within d 2097152 <;> rfl
theorem far4_bd {a b c d : Int} (h : far4 a b c d = true) : (-2097152 ≤ a ∧ a ≤ 2097152) ∧ (-2097152 ≤ b ∧ b ≤ 2097152) ∧ (-2097152 ≤ c ∧ c ≤ 2097152) ∧ (-2097152 ≤ d ∧ d ≤ 2097152) := by
  unfold far4 at h
  simp only [Bool.and_eq_true, within_iff] at h
  exact ⟨h.1.1.1, h.1.1.2, h.1.2, h.2⟩
/-- The error of OfRect. -/
def rectE (x0 y0 x1 y1 : Int) : Int := if far4 x0 y0 x1 y1 = true ∧ x0 ≤ x1 ∧ y0 ≤ y1 ∧ x1 - x0 ≤ 65536 ∧ y1 - y0 ≤ 65536 then 0 else 1
def segE (x0 y0 x1 y1 : Int) : Int := if far4 x0 y0 x1 y1 = true ∧ within (x0 - x1) 65536 = true ∧ within (y0 - y1) 65536 = true then 0 else 1
theorem rectE_bad {x0 y0 x1 y1 : Int} (h : ¬ (far4 x0 y0 x1 y1 = true ∧ x0 ≤ x1 ∧ y0 ≤ y1 ∧ x1 - x0 ≤ 65536 ∧ y1 - y0 ≤ 65536)) : rectE x0 y0 x1 y1 = 1 := if_neg h
/-- A zonogon handed back. -/
def zR (H : AHeap) (x y : Int) (L : List Pt) : AV × AHeap := (.agg [.int .i64 x, .int .i64 y, (retP H L).1], (retP H L).2)
theorem zR_nil {H : AHeap} {x y : Int} : zR H x y [] = (.agg [.int .i64 x, .int .i64 y, .sl none 0 (some 0)], H) := rfl
theorem zR_pos {H : AHeap} {x y : Int} {L : List Pt} (h : 0 < L.length) : zR H x y L = (.agg [.int .i64 x, .int .i64 y, .sl (some (H.length, 0)) L.length none], H ++ [.cells true 2 (prs L)]) := by unfold zR; rw [retP_pos h]
set_option maxRecDepth 100000 in
theorem canonical0_c (H : AHeap) (x y : Int) : ACalls Tryz.prog 107 [.agg [.int .i64 x, .int .i64 y, .sl none 0 (some 0)]] H (fun v H' => v = .agg [.int .i64 x, .int .i64 y, .sl none 0 (some 0)] ∧ H' = H) := by
  (refine ACalls_run try_mixed Tryz.func107 true _ rfl (Nat.le_of_ble_eq_true (by kernel_rfl)) (by kernel_rfl) ?_; intro hbel Q hQ hQ' c hc; unfold Tryz.f107 at hc; simp only [Option.some.injEq] at hc; subst hc; clear hQ')
  simp -implicitDefEqProofs (disch := omega) only [simprocAttr, amset, tyset, Function.comp_apply, one1, lenV, calleeOf, lateOk, belowV, aop, AV.ofValue, AV.ofCell, AV.cells, AV.flat, AV.one, arep, aBin, aAppend, aConv]
  refine go_loop try_mixed (by kernel_rfl) (fun k F Hx => F = [(1, .ptr (some (H.length, 0))), (2, .ptr (some (H.length + 1, 0))), (3, .sl none 0 (some 0)), (12, .int .i64 0), (13, .int .i64 0)] ∧ Hx = H ++ [.cells true 0 [.int .i64 x, .int .i64 y, .sl none 0 (some 0)], .cells true 0 [.int .i64 0, .int .i64 0, .sl none 0 (some 0)]]) 1 ?_ ?_
  · refine ⟨_, _, _, ⟨rfl, rfl⟩, Abs.by hbel [0, 1] (by decide) ?_⟩
    exact absT
  · rintro k F Hx ⟨rfl, rfl⟩ J hJ
    simp -implicitDefEqProofs (disch := omega) only [Int.lt_irrefl, simprocAttr, amset, tyset, Function.comp_apply, one1, lenV, calleeOf, lateOk, belowV, aop, AV.ofValue, AV.ofCell, AV.cells, AV.flat, AV.one, arep, aBin, aAppend, aConv]
    refine call_v (by kernel_rfl) (sortnil_c _) ?_
    simp -implicitDefEqProofs (disch := omega) only [simprocAttr, amset, tyset, Function.comp_apply, one1, lenV, calleeOf, lateOk, belowV, aop, AV.ofValue, AV.ofCell, AV.cells, AV.flat, AV.one, arep, aBin, aAppend, aConv]
    refine go_loop try_mixed (by kernel_rfl) (fun k F Hx => F = [(2, .ptr (some (H.length, 0))), (6, .ptr (some (H.length + 1, 0))), (53, .int .i64 0), (54, .int .i64 0)] ∧ Hx = H ++ [.cells true 0 [.int .i64 0, .int .i64 0, .sl none 0 (some 0)], .cells true 0 [.int .i64 x, .int .i64 y, .sl none 0 (some 0)]]) 1 ?_ ?_
    · refine ⟨_, _, _, ⟨rfl, rfl⟩, Abs.by hbel [1, 2] (by decide) ?_⟩
      exact absT
    · rintro k F Hx ⟨rfl, rfl⟩ J hJ
      simp -implicitDefEqProofs (disch := omega) only [Int.lt_irrefl, simprocAttr, amset, tyset, Function.comp_apply, one1, lenV, calleeOf, lateOk, belowV, aop, AV.ofValue, AV.ofCell, AV.cells, AV.flat, AV.one, arep, aBin, aAppend, aConv]
      exact hQ _ _ (end_plain (.inl rfl) hbel (x := .agg [.int .i64 x, .int .i64 y, .sl none 0 (some 0)]) (resT Tryz.results107) rfl ⟨rfl, rfl⟩)
theorem rcanon0_c (H : AHeap) (x y : Int) : ACalls Tryz.prog 117 [.agg [.int .i64 x, .int .i64 y, .sl none 0 (some 0)]] H (fun v H' => v = .agg [.int .i64 x, .int .i64 y, .sl none 0 (some 0)] ∧ H' = H) := by
  (refine ACalls_run try_mixed Tryz.func117 false _ rfl (Nat.le_of_ble_eq_true (by kernel_rfl)) (by kernel_rfl) ?_; intro hbel Q hQ hQ' c hc; unfold Tryz.f117 at hc; simp only [Option.some.injEq] at hc; subst hc; clear hQ')
  simp -implicitDefEqProofs (disch := omega) only [simprocAttr, amset, tyset, Function.comp_apply, one1, lenV, calleeOf, lateOk, belowV, aop, AV.ofValue, AV.ofCell, AV.cells, AV.flat, AV.one, arep, aBin, aAppend, aConv]
  refine go_loop try_mixed (by kernel_rfl) (fun k F Hx => F = [(1, .ptr (some (H.length, 0))), (2, .ptr (some (H.length + 1, 0))), (3, .ptr (some (H.length + 2, 0))), (4, .int .i64 0)] ∧ Hx = H ++ [.cells true 0 [.int .i64 x, .int .i64 y, .sl none 0 (some 0)], .cells true 0 [.int .i64 0, .int .i64 0, .sl none 0 (some 0)], .cells true 0 [.int .i64 x, .int .i64 y, .sl none 0 (some 0)]]) 1 ?_ ?_
  · refine ⟨_, _, _, ⟨rfl, rfl⟩, Abs.by hbel [0, 1, 2] (by decide) ?_⟩
    exact absT
  · rintro k F Hx ⟨rfl, rfl⟩ J hJ
    simp -implicitDefEqProofs (disch := omega) only [Int.lt_irrefl, simprocAttr, amset, tyset, Function.comp_apply, one1, lenV, calleeOf, lateOk, belowV, aop, AV.ofValue, AV.ofCell, AV.cells, AV.flat, AV.one, arep, aBin, aAppend, aConv]
    exact hQ _ _ (end_plain (.inl rfl) hbel (x := .agg [.int .i64 x, .int .i64 y, .sl none 0 (some 0)]) (resT Tryz.results117) rfl ⟨rfl, rfl⟩)
theorem canonical_a (H : AHeap) (x y : Int) (s : AV) (l : List Pt) (hs : IsP H s l) (hl : l.length ≤ 40) (hB : ∀ e ∈ l, Bd 4194304 e) :
    ACalls Tryz.prog 107 [.agg [.int .i64 x, .int .i64 y, s]] H (fun v H' => v = (zR H x y (canonL l)).1 ∧ H' = (zR H x y (canonL l)).2) := by
  rcases hs with ⟨rfl, rfl⟩ | ⟨b, own, cap, rfl, hb⟩
  · exact canonical0_c H x y
  · exact canonical_c H x y b own cap l hb hl hB
theorem rcanon_a (H : AHeap) (x y : Int) (s : AV) (l : List Pt) (hs : IsP H s l) (hl : l.length ≤ 40) (hB : ∀ e ∈ l, Bd 4194304 e) :
    ACalls Tryz.prog 117 [.agg [.int .i64 x, .int .i64 y, s]] H (fun v H' => v = (zR H x y (canonL l)).1 ∧ H' = (zR H x y (canonL l)).2) := by
  rcases hs with ⟨rfl, rfl⟩ | ⟨b, own, cap, rfl, hb⟩
  · exact rcanon0_c H x y
  · exact rcanon_c H x y b own cap l hb hl hB
theorem valid_bd {x y : Int} {l : List Pt} (h : validB x y l = true) : l.length ≤ 16 ∧ ∀ e ∈ l, Bd 65536 e := by
  unfold validB at h
  simp only [Bool.and_eq_true, decide_eq_true_eq, Bool.not_eq_true'] at h
  refine ⟨h.1.2, fun e he => ?_⟩
  have := List.any_eq_false.1 h.2 e he
  simp only [wrongB, Bool.not_eq_true', Bool.not_eq_false, Bool.and_eq_true, within_iff] at this
  exact ⟨this.1.1, this.1.2, this.2.1, this.2.2⟩
open Go.RowKit
def dotP (n g : Pt) : Int := n.1 * g.1 + n.2 * g.2
def spr (n : Pt) : List Pt → Int
  | [] => 0
  | g :: l => absI (dotP n g) + spr n l
theorem spr_app (n : Pt) : ∀ l m : List Pt, spr n (l ++ m) = spr n l + spr n m
  | [], m => by simp [spr]
  | g :: l, m => by simp only [List.cons_append, spr, spr_app n l m]; omega
theorem absI_bd {x M : Int} (h : -M ≤ x ∧ x ≤ M) : 0 ≤ absI x ∧ absI x ≤ M := by unfold absI; split <;> omega
theorem dotP_bd {a b : Pt} {A B : Int} (h1 : Bd A a) (h2 : Bd B b) : (-(A * B) ≤ a.1 * b.1 ∧ a.1 * b.1 ≤ A * B) ∧ (-(A * B) ≤ a.2 * b.2 ∧ a.2 * b.2 ≤ A * B) :=
  ⟨mul_bd ⟨h1.1, h1.2.1⟩ ⟨h2.1, h2.2.1⟩, mul_bd ⟨h1.2.2.1, h1.2.2.2⟩ ⟨h2.2.2.1, h2.2.2.2⟩⟩
theorem spr_bd {n : Pt} (hn : Bd 268435456 n) : ∀ l : List Pt, (∀ e ∈ l, Bd 268435456 e) → 0 ≤ spr n l ∧ spr n l ≤ l.length * 144115188075855872
  | [], _ => by simp [spr]
  | g :: l, h => by
    have ih := spr_bd hn l fun e he => h e (by simp [he])
    have hd := dotP_bd hn (h g (by simp))
    have ha := absI_bd (x := dotP n g) (M := 144115188075855872) (by unfold dotP; omega)
    simp only [spr, List.length_cons, Int.natCast_add]
    omega
set_option maxRecDepth 100000 in
theorem spread_c (H : AHeap) (s : AV) (l : List Pt) (n : Pt) (hs : IsP H s l) (hl : l.length ≤ 40) (hB : ∀ e ∈ l, Bd 268435456 e) (hn : Bd 268435456 n) : ACalls Tryz.prog 126 [s, pv n] H (fun v H' => v = .int .i64 (spr n l) ∧ H' = H) := by
  rcases hs with ⟨rfl, rfl⟩ | ⟨b, own, cap, rfl, hb⟩
  · (refine ACalls_run try_mixed Tryz.func126 true _ rfl (Nat.le_of_ble_eq_true (by kernel_rfl)) (by kernel_rfl) ?_; intro hbel Q hQ hQ' c hc; unfold Tryz.f126 at hc; simp only [Option.some.injEq] at hc; subst hc; clear hQ')
    simp -implicitDefEqProofs (disch := omega) only [simprocAttr, amset, tyset, Function.comp_apply, one1, lenV, calleeOf, lateOk, belowV, aop, AV.ofValue, AV.ofCell, AV.cells, AV.flat, AV.one, arep, aBin, aAppend, aConv]
    refine go_loop try_mixed (by kernel_rfl) (fun k F Hx => F = [(5, .int .i64 0), (9, .int .i64 0), (10, .int .i64 0)] ∧ Hx = H) 1 ?_ ?_
    · refine ⟨_, _, _, ⟨rfl, (List.append_nil H).symm ▸ rfl⟩, Abs.by (l2 := []) hbel [] (by decide) ?_⟩
      exact absT
    · rintro k F Hx ⟨rfl, rfl⟩ J hJ
      simp -implicitDefEqProofs (disch := omega) only [Int.lt_irrefl, simprocAttr, amset, tyset, Function.comp_apply, one1, lenV, calleeOf, lateOk, belowV, aop, AV.ofValue, AV.ofCell, AV.cells, AV.flat, AV.one, arep, aBin, aAppend, aConv]
      exact hQ _ _ (end_plain0 (.inl rfl) hbel (x := .int .i64 0) (resT Tryz.results126) rfl ⟨rfl, rfl⟩)
  have hbl := getElem?_lt hb
  have hb0 := fun l => get_app (l := l) hb
  generalize hm : l.length = m at *
  (refine ACalls_run try_mixed Tryz.func126 true _ rfl (Nat.le_of_ble_eq_true (by kernel_rfl)) (by kernel_rfl) ?_; intro hbel Q hQ hQ' c hc; unfold Tryz.f126 at hc; simp only [Option.some.injEq] at hc; subst hc; clear hQ')
  simp -implicitDefEqProofs (disch := omega) only [simprocAttr, amset, tyset, Function.comp_apply, one1, lenV, calleeOf, lateOk, belowV, aop, AV.ofValue, AV.ofCell, AV.cells, AV.flat, AV.one, arep, aBin, aAppend, aConv]
  refine go_loop try_mixed (by kernel_rfl) (fun k F Hx => ∃ i : Nat, i + k = m ∧ F = [(3, .ptr (some (H.length, 0))), (5, .int .i64 (spr n (l.take i))), (8, .sl (some (b, 0)) m none), (9, .int .i64 m), (10, .int .i64 (i : Nat))] ∧ Hx = H ++ [.cells true 0 [.int .i64 n.1, .int .i64 n.2]]) m ?_ ?_
  · refine ⟨_, _, _, ⟨0, by omega, rfl, rfl⟩, Abs.by hbel [0] (by decide) ?_⟩
    exact absT
  · rintro k F Hx ⟨i, hik, rfl, rfl⟩ J hJ
    by_cases hi : i < l.length
    · have hii : (i : Int) < (m : Int) := by omega
      have q0 := prs_load hi
      have hg : gp l i = l[i] := gp_eq hi
      have hgb := hB l[i] (List.getElem_mem hi)
      rw [← hg] at hgb
      have hd := dotP_bd hn hgb
      have hsb := spr_bd hn (l.take i) fun e he => hB e (List.mem_of_mem_take he)
      have hsl : ((l.take i).length : Int) * 144115188075855872 ≤ 39 * 144115188075855872 := Int.mul_le_mul_of_nonneg_right (by rw [List.length_take]; omega) (by decide)
      have ha := absI_bd (x := dotP n (gp l i)) (M := 144115188075855872) (by unfold dotP; omega)
      have hst : spr n (l.take (i + 1)) = spr n (l.take i) + absI (dotP n (gp l i)) := by rw [List.take_succ_eq_append_getElem hi, spr_app, hg]; simp [spr]
      have hdd : n.1 * g1 l i + n.2 * g2 l i = dotP n (gp l i) := rfl
      have hd2 : (-(268435456 * 268435456) ≤ n.1 * g1 l i ∧ n.1 * g1 l i ≤ 268435456 * 268435456) ∧ (-(268435456 * 268435456) ≤ n.2 * g2 l i ∧ n.2 * g2 l i ≤ 268435456 * 268435456) := hd
      simp -implicitDefEqProofs (disch := omega) only [hii, hb0, q0, simprocAttr, amset, tyset, Function.comp_apply, one1, lenV, calleeOf, lateOk, belowV, aop, AV.ofValue, AV.ofCell, AV.cells, AV.flat, AV.one, arep, aBin, aAppend, aConv]
      repeat refine And.intro (by omega) ?_
      refine call_v (by kernel_rfl) (abs_c _ _ (by omega)) ?_
      rw [hdd]
      simp -implicitDefEqProofs (disch := omega) only [simprocAttr, amset, tyset, Function.comp_apply, one1, lenV, calleeOf, lateOk, belowV, aop, AV.ofValue, AV.ofCell, AV.cells, AV.flat, AV.one, arep, aBin, aAppend, aConv]
      repeat refine And.intro (by omega) ?_
      refine hJ _ _ ⟨k - 1, by omega, _, _, _, ⟨i + 1, by omega, rfl, rfl⟩, Abs.by hbel [0] (by decide) ?_⟩
      rw [hst]
      exact absT
    · have hnn : ¬ ((i : Int) < (m : Int)) := by omega
      simp -implicitDefEqProofs (disch := omega) only [hnn, simprocAttr, amset, tyset, Function.comp_apply, one1, lenV, calleeOf, lateOk, belowV, aop, AV.ofValue, AV.ofCell, AV.cells, AV.flat, AV.one, arep, aBin, aAppend, aConv]
      exact hQ _ _ (end_plain (.inl rfl) hbel (x := .int .i64 (spr n (l.take i))) (resT Tryz.results126) rfl ⟨by rw [List.take_of_length_le (by omega)], rfl⟩)
set_option maxRecDepth 100000 in
theorem clone_c (H : AHeap) (s : AV) (l : List Pt) (hs : IsP H s l) (hl : l.length ≤ 1000000) (h0 : 0 < l.length) : ACalls Tryz.prog 124 [s] H (fun v H' => v = .sl (some (H.length, 0)) l.length none ∧ H' = H ++ [.cells true 2 (prs l)]) := by
  obtain ⟨b, own, cap, rfl, hb⟩ := hs.pos h0
  have hbl := getElem?_lt hb
  have hb0 := fun l => get_app (l := l) hb
  generalize hm : l.length = m at *
  (refine ACalls_run try_mixed Tryz.func124 true _ rfl (Nat.le_of_ble_eq_true (by kernel_rfl)) (by kernel_rfl) ?_; intro hbel Q hQ hQ' c hc; unfold Tryz.f124 at hc; simp only [Option.some.injEq] at hc; subst hc; clear hQ')
  have htk : List.take (m * 2) (prs l) = prs l := List.take_of_length_le (by rw [prs_len]; omega)
  have hm0 : (m == 0) = false := beq_eq_false_iff_ne.2 (by omega)
  have hm1 : (m != 0) = true := bne_iff_ne.2 (by omega)
  simp -implicitDefEqProofs (disch := omega) only [hb, hb0, Option.isNone_some, hm0, h0, htk, nilKnown, hm1, simprocAttr, amset, tyset, Function.comp_apply, one1, lenV, calleeOf, lateOk, belowV, aop, AV.ofValue, AV.ofCell, AV.cells, AV.flat, AV.one, arep, aBin, aAppend, aConv]
  repeat refine And.intro (by omega) ?_
  refine hQ _ _ (end_by (.inl rfl) hbel (x1 := .sl (some (H.length + 1, 0)) m none) (.sl (some (H.length, 0)) m none) (resT Tryz.results124) [1] (by decide) ⟨rfl, rfl⟩ ?_)
  exact absT
theorem clonenil_c (H : AHeap) : ACalls Tryz.prog 124 [.sl none 0 (some 0)] H (fun v H' => v = .sl none 0 (some 0) ∧ H' = H) := by
  (refine ACalls_run try_mixed Tryz.func124 true _ rfl (Nat.le_of_ble_eq_true (by kernel_rfl)) (by kernel_rfl) ?_; intro hbel Q hQ hQ' c hc; unfold Tryz.f124 at hc; simp only [Option.some.injEq] at hc; subst hc; clear hQ')
  simp -implicitDefEqProofs (disch := omega) only [Option.isNone_none, nilKnown, simprocAttr, amset, tyset, Function.comp_apply, one1, lenV, calleeOf, lateOk, belowV, aop, AV.ofValue, AV.ofCell, AV.cells, AV.flat, AV.one, arep, aBin, aAppend, aConv]
  exact hQ _ _ (end_plain0 (.inl rfl) hbel (x := .sl none 0 (some 0)) (resT Tryz.results124) rfl ⟨rfl, rfl⟩)
theorem clone0_c (H : AHeap) (b : Nat) (hb : H[b]? = some (.cells false 2 [])) : ACalls Tryz.prog 124 [.sl (some (b, 1)) 0 (some 0)] H (fun v H' => v = .sl (some (H.length, 0)) 0 (some 0) ∧ H' = H ++ [.cells true 2 []]) := by
  have hb0 := fun l => get_app (l := l) hb
  have hbl := getElem?_lt hb
  (refine ACalls_run try_mixed Tryz.func124 true _ rfl (Nat.le_of_ble_eq_true (by kernel_rfl)) (by kernel_rfl) ?_; intro hbel Q hQ hQ' c hc; unfold Tryz.f124 at hc; simp only [Option.some.injEq] at hc; subst hc; clear hQ')
  have hk : nilKnown (some (b, 1)) 0 (some 0) = true := rfl
  simp -implicitDefEqProofs (disch := omega) only [hb, hb0, Option.isNone_some, hk, simprocAttr, amset, tyset, Function.comp_apply, one1, lenV, calleeOf, lateOk, belowV, aop, AV.ofValue, AV.ofCell, AV.cells, AV.flat, AV.one, arep, aBin, aAppend, aConv]
  refine hQ _ _ (end_by (.inl rfl) hbel (x1 := .sl (some (H.length, 0)) 0 (some 0)) (.sl (some (H.length, 0)) 0 (some 0)) (resT Tryz.results124) [0] (by decide) ⟨rfl, rfl⟩ ?_)
  exact absT
theorem cloneempty_c (H : AHeap) (b : Nat) (cap : Option Nat) (own : Bool) (hb : H[b]? = some (.cells own 2 [])) : ACalls Tryz.prog 124 [.sl (some (b, 0)) 0 cap] H (fun v H' => v = .sl (some (H.length, 0)) 0 (some 0) ∧ H' = H ++ [.cells false 2 []]) := by
  have hb0 := fun l => get_app (l := l) hb
  have hbl := getElem?_lt hb
  refine ACalls.nilsplit (es := 2) (x := .sl (some (H.length + 1, 0)) 0 (some 0)) (l1 := [.cells false 2 [], .cells true 2 []]) ?_ (fun c hc => ?_) ?_ [] rfl [1] (by decide) ?_
  · refine (clonenil_c H).weak0 [.cells false 2 []] rfl [0] (by decide) _ _ ?_
    exact absT
  · have hc1 : (c != 0) = true := bne_iff_ne.2 (by omega)
    (refine ACalls_run try_mixed Tryz.func124 true _ rfl (Nat.le_of_ble_eq_true (by kernel_rfl)) (by kernel_rfl) ?_; intro hbel Q hQ hQ' c hc; unfold Tryz.f124 at hc; simp only [Option.some.injEq] at hc; subst hc; clear hQ')
    simp -implicitDefEqProofs (disch := omega) only [hb, hb0, Option.isNone_some, nilKnown, hc1, Nat.reduceBNe, simprocAttr, amset, tyset, Function.comp_apply, one1, lenV, calleeOf, lateOk, belowV, aop, AV.ofValue, AV.ofCell, AV.cells, AV.flat, AV.one, arep, aBin, aAppend, aConv]
    refine hQ _ _ (end_byG (.inl rfl) hbel (x1 := .sl (some (H.length, 0)) 0 (some 0)) (l2 := [.cells false 2 []]) (.sl (some (H.length, 0)) 0 (some 0)) (resT Tryz.results124) [] rfl [0] (by decide) ⟨rfl, rfl⟩ ?_)
    exact absT
  · have hh := clone0_c (H ++ [.cells false 2 []]) H.length (by rw [get_new0]; rfl)
    refine hh.mono fun y H1 ⟨h1, h2⟩ => ⟨by rw [h1]; simp, by rw [h2]; simp⟩
  · exact absT
open Go.RowKit
theorem valid_bd3 {x y : Int} {l : List Pt} (h : validB x y l = true) : (-8388608 ≤ x ∧ x ≤ 8388608) ∧ -8388608 ≤ y ∧ y ≤ 8388608 := by
  unfold validB at h
  simp only [Bool.and_eq_true, within_iff] at h
  exact ⟨h.1.1.1, h.1.1.2⟩
theorem canonical_u (H : AHeap) (x y : Int) (s : AV) (l : List Pt) (hs : IsP H s l) (hl : l.length ≤ 40) (hB : ∀ e ∈ l, Bd 4194304 e) :
    ACalls Tryz.prog 107 [.agg [.int .i64 x, .int .i64 y, s]] H (fun v H' => v = .agg [.int .i64 x, .int .i64 y, .sl (some (H.length, 0)) (canonL l).length (capG (canonL l).length)] ∧ H' = H ++ [.cells (ownG (canonL l).length) 2 (prs (canonL l))]) := by
  have h := canonical_a H x y s l hs hl hB
  rcases Nat.eq_zero_or_pos (canonL l).length with h0 | h0
  · rw [List.eq_nil_of_length_eq_zero h0] at h ⊢
    simp only [zR_nil] at h
    refine ACalls.weak0 h [.cells false 2 []] rfl [0] (by decide) _ _ ?_
    exact absTf (jn @List.length_nil.{0} (jn @capG_0 (jn @ownG_0 @prs_nil)))
  · rw [zR_pos h0] at h
    refine ACalls.weak h [] rfl [0] (by decide) _ _ ?_
    rw [capG_p h0, ownG_p h0]
    generalize canonL l = L
    exact absT
theorem rcanon_u (H : AHeap) (x y : Int) (s : AV) (l : List Pt) (hs : IsP H s l) (hl : l.length ≤ 40) (hB : ∀ e ∈ l, Bd 4194304 e) :
    ACalls Tryz.prog 117 [.agg [.int .i64 x, .int .i64 y, s]] H (fun v H' => v = .agg [.int .i64 x, .int .i64 y, .sl (some (H.length, 0)) (canonL l).length (capG (canonL l).length)] ∧ H' = H ++ [.cells (ownG (canonL l).length) 2 (prs (canonL l))]) := by
  have h := rcanon_a H x y s l hs hl hB
  rcases Nat.eq_zero_or_pos (canonL l).length with h0 | h0
  · rw [List.eq_nil_of_length_eq_zero h0] at h ⊢
    simp only [zR_nil] at h
    refine ACalls.weak0 h [.cells false 2 []] rfl [0] (by decide) _ _ ?_
    exact absTf (jn @List.length_nil.{0} (jn @capG_0 (jn @ownG_0 @prs_nil)))
  · rw [zR_pos h0] at h
    refine ACalls.weak h [] rfl [0] (by decide) _ _ ?_
    rw [capG_p h0, ownG_p h0]
    generalize canonL l = L
    exact absT
theorem bounds_c (H : AHeap) (x : Int) (y : Int) (s : AV) (l : List (Int × Int)) (hs : Sl H 2 s l.length (prs l)) (hv : validB x y l = true) : ACalls Tryz.prog 120 [.agg [.int .i64 x, .int .i64 y, s]] H (fun v H' => v = .agg [.int .i64 (x - spr (1, 0) l), .int .i64 (y - spr (0, 1) l), .int .i64 (x + spr (1, 0) l), .int .i64 (y + spr (0, 1) l)] ∧ H' = H) := by
  obtain ⟨bs, os, cs, rfl, hbs⟩ := hs
  have hbls := getElem?_lt hbs
  have hb0s := fun l => get_app (l := l) hbs
  obtain ⟨hl16, hlB⟩ := valid_bd hv
  have hxy := valid_bd3 hv
  have hB2 : ∀ e ∈ l, Bd 268435456 e := fun e he => by have := hlB e he; unfold Bd at *; omega
  have hB4 : ∀ e ∈ l, Bd 4194304 e := fun e he => by have := hlB e he; unfold Bd at *; omega
  have hs1 := spr_bd (n := (1, 0)) (by unfold Bd; simp) l hB2
  have hs2 := spr_bd (n := (0, 1)) (by unfold Bd; simp) l hB2
  refine AcT true Tryz.func120 ?_; intro hbel Q hQ
  have g'1 := (jn @hbs @hb0s)
  refine runTf g'1 ?_
  refine call_d (by kernel_rfl) (spread_c _ _ l (1, 0) (.inr ⟨_, _, _, rfl, by first | exact hb0s _ | exact hbs⟩) (by omega) (by assumption) (by first | assumption | (unfold Bd; simp only; omega) | (unfold Bd at *; simp only at *; omega) | (unfold Bd; simp; omega) | (unfold Bd; simp))) ?_
  refine runTf g'1 ?_
  refine call_d (by kernel_rfl) (spread_c _ _ l (0, 1) (.inr ⟨_, _, _, rfl, by first | exact hb0s _ | exact hbs⟩) (by omega) (by assumption) (by first | assumption | (unfold Bd; simp only; omega) | (unfold Bd at *; simp only at *; omega) | (unfold Bd; simp; omega) | (unfold Bd; simp))) ?_
  refine runTf g'1 ?_
  exact hQ _ _ (end_plain (.inl rfl) hbel (x := .agg [.int .i64 (x - (spr (1, 0) l)), .int .i64 (y - (spr (0, 1) l)), .int .i64 (x + (spr (1, 0) l)), .int .i64 (y + (spr (0, 1) l))]) (resT Tryz.results120) rfl ⟨by simp [true_and], rfl⟩)
def ifv (b : Bool) (v : Int) : Int := if b = true then v else 0
theorem Bounds_c (H : AHeap) (x : Int) (y : Int) (s : AV) (l : List (Int × Int)) (hs : Sl H 2 s l.length (prs l)) : ACalls Tryz.prog 64 [.agg [.int .i64 x, .int .i64 y, s]] H (fun v H' => v = .tup [.agg [.int .i64 (ifv (validB x y l) (x - spr (1, 0) l)), .int .i64 (ifv (validB x y l) (y - spr (0, 1) l)), .int .i64 (ifv (validB x y l) (x + spr (1, 0) l)), .int .i64 (ifv (validB x y l) (y + spr (0, 1) l))], .int .i64 (if validB x y l = true then 0 else 1)] ∧ H' = H) := by
  obtain ⟨bs, os, cs, rfl, hbs⟩ := hs
  have hbls := getElem?_lt hbs
  have hb0s := fun l => get_app (l := l) hbs
  refine AcT true Tryz.func64 ?_; intro hbel Q hQ
  have g'2 := (jn @hbs @hb0s)
  refine runTf g'2 ?_
  refine call_v (by kernel_rfl) (valid_c _ x y _ l (.inr ⟨_, _, _, rfl, by first | exact hb0s _ | exact hbs⟩)) ?_
  refine runTf g'2 ?_
  refine cond_split (fun h1 => ?_) (fun h1 => ?_)
  · have h1d := h1
    try simp only [Bool.not_eq_true', Bool.not_eq_false', decide_eq_true_eq, decide_eq_false_iff_not, beq_iff_eq, bne_iff_ne, ne_eq, Bool.not_eq_true, Bool.not_eq_false, beq_eq_false_iff_ne, bne_eq_false_iff_eq, Classical.not_not, Bool.and_eq_true, Bool.and_eq_false_imp] at h1d
    have g'3 := (jn @h1 (jn @h1d g'2))
    refine runTf g'3 ?_
    exact hQ _ _ (end_plain (.inl rfl) hbel (x := .tup [.agg [.int .i64 0, .int .i64 0, .int .i64 0, .int .i64 0], .int .i64 1]) (resT Tryz.results64) rfl ⟨by simp [ifv, h1d], rfl⟩)
  · have h1d := h1
    try simp only [Bool.not_eq_true', Bool.not_eq_false', decide_eq_true_eq, decide_eq_false_iff_not, beq_iff_eq, bne_iff_ne, ne_eq, Bool.not_eq_true, Bool.not_eq_false, beq_eq_false_iff_ne, bne_eq_false_iff_eq, Classical.not_not, Bool.and_eq_true, Bool.and_eq_false_imp] at h1d
    have g'4 := (jn @h1 (jn @h1d g'2))
    refine runTf g'4 ?_
    refine call_v (by kernel_rfl) (bounds_c _ x y _ l ⟨_, _, _, rfl, by first | exact hb0s _ | exact hbs⟩ (by assumption)) ?_
    refine runTf g'4 ?_
    exact hQ _ _ (end_plain (.inl rfl) hbel (x := .tup [.agg [.int .i64 (x - spr (1, 0) l), .int .i64 (y - spr (0, 1) l), .int .i64 (x + spr (1, 0) l), .int .i64 (y + spr (0, 1) l)], .int .i64 0]) (resT Tryz.results64) rfl ⟨by simp [ifv, h1d], rfl⟩)
/-- The greatest value in a direction. -/
def supI (x y : Int) (l : List Pt) (nx ny : Int) : Int := if (validB x y l && (within nx 65536 && within ny 65536)) = true then nx * x + ny * y + spr (nx, ny) l else 0
theorem gpb {M : Int} {l : List Pt} (h : ∀ e ∈ l, Bd M e) {i : Nat} (hi : i < l.length) : -M ≤ g1 l i ∧ g1 l i ≤ M ∧ -M ≤ g2 l i ∧ g2 l i ≤ M := by
  have := h l[i] (List.getElem_mem hi)
  rw [← gp_eq hi] at this
  exact this
open Go.RowKit
/-- The directions that are tried. -/
def nrmls (L : List Pt) : List Pt := [(1, 0), (0, 1)] ++ L.flatMap fun g => [(0 - g.2, g.1), g]
/-- A direction in which d is beyond the sum. -/
def beyond (L : List Pt) (d n : Pt) : Bool := decide (spr n L < absI (dotP n d))
def apartB (x y : Int) (l : List Pt) (x0 y0 x1 y1 : Int) : Bool :=
  validB x y l && (far4 x0 y0 x1 y1 && decide (x0 ≤ x1 ∧ y0 ≤ y1) && (nrmls (canonL (l ++ [(x1 - x0, 0), (0, y1 - y0)]))).any (beyond (canonL (l ++ [(x1 - x0, 0), (0, y1 - y0)])) (x0 + x1 - x, y0 + y1 - y)))
theorem nrmls_step {L : List Pt} {i : Nat} (h : i < L.length) : nrmls (L.take (i + 1)) = nrmls (L.take i) ++ [(0 - g2 L i, g1 L i), (g1 L i, g2 L i)] := by
  unfold nrmls
  rw [List.take_succ_eq_append_getElem h, List.flatMap_append, ← gp_eq h, List.append_assoc]
  simp [gp]
theorem nrmls_len (L : List Pt) : (nrmls L).length = 2 + 2 * L.length := by
  unfold nrmls
  rw [List.length_append]
  have : ∀ l : List Pt, (l.flatMap fun g => [(0 - g.2, g.1), g]).length = 2 * l.length := fun l => by
    induction l with
    | nil => rfl
    | cons g l ih => rw [List.flatMap_cons, List.length_append, ih]; simp; omega
  rw [this]; rfl
theorem nrmls_bd {M : Int} (hM : 1 ≤ M) {L : List Pt} (h : ∀ e ∈ L, Bd M e) : ∀ e ∈ nrmls L, Bd M e := fun e he => by
  unfold nrmls at he
  simp only [List.mem_append, List.mem_cons, List.not_mem_nil, or_false, List.mem_flatMap] at he
  rcases he with (rfl | rfl) | ⟨g, hg, rfl | rfl⟩
  · unfold Bd; simp only; omega
  · unfold Bd; simp only; omega
  · have := h g hg; unfold Bd at *; simp only; omega
  · exact h _ hg
theorem any_gp {p : Pt → Bool} {N : List Pt} {j : Nat} (hj : j < N.length) (h : p (gp N j) = true) : N.any p = true := List.any_eq_true.2 ⟨N[j], List.getElem_mem hj, by rw [← gp_eq hj]; exact h⟩
theorem nrmls_nil : nrmls [] = [(1, 0), (0, 1)] := rfl
theorem canon_bd16 {l : List Pt} (hl : l.length ≤ 16) (hB : ∀ e ∈ l, Bd 65536 e) : ∀ e ∈ canonL l, Bd 1048576 e := fun e he => by
  have := canonL_bd (M := 65536) (by decide) hB e he
  have h40 : ((l.length : Nat) : Int) * 65536 ≤ 16 * 65536 := Int.mul_le_mul_of_nonneg_right (by omega) (by decide)
  unfold Bd at *; omega
open Go.RowKit
open Go.RowKit
/-- The first corner. -/
def cor0 (x y : Int) (l : List Pt) : Nat → Pt
  | 0 => (x, y)
  | i + 1 => ((cor0 x y l i).1 - g1 l i, (cor0 x y l i).2 - g2 l i)
/-- The reference's steps. -/
def stp (l : List Pt) (i : Nat) : Pt := if l.length ≤ i then (-g1 l (i % l.length), -g2 l (i % l.length)) else (g1 l (i % l.length), g2 l (i % l.length))
def rcp (l : List Pt) (p : Pt) : Nat → Pt
  | 0 => p
  | i + 1 => ((rcp l p i).1 + 2 * (stp l i).1, (rcp l p i).2 + 2 * (stp l i).2)
def rco (l : List Pt) (p : Pt) : Nat → List Pt
  | 0 => [p]
  | i + 1 => rco l p i ++ [((rcp l p i).1 + 2 * (stp l i).1, (rcp l p i).2 + 2 * (stp l i).2)]
/-- The corners, by the reference. -/
def corR (x y : Int) (l : List Pt) : List Pt := rco l (cor0 x y l l.length) (2 * l.length - 1)
theorem rco_len (l : List Pt) (p : Pt) : ∀ i, (rco l p i).length = i + 1
  | 0 => rfl
  | i + 1 => by simp [rco, rco_len l p i]
theorem cor0_bd {x y M A : Int} {l : List Pt} (hA : -A ≤ x ∧ x ≤ A ∧ -A ≤ y ∧ y ≤ A) (h : ∀ e ∈ l, Bd M e) : ∀ i, i ≤ l.length → Bd (A + i * M) (cor0 x y l i)
  | 0, _ => by unfold Bd cor0; simp only [Int.natCast_zero, Int.zero_mul]; omega
  | i + 1, hi => by
    have ih := cor0_bd hA h i (by omega)
    have hg := gpb h (i := i) (by omega)
    have e : (((i + 1 : Nat) : Int)) * M = i * M + M := by rw [Int.natCast_add, Int.add_mul]; simp
    unfold Bd at *
    simp only [cor0]
    rw [e]; omega
theorem stp_bd {M : Int} {l : List Pt} (h : ∀ e ∈ l, Bd M e) (h0 : 0 < l.length) (i : Nat) : Bd M (stp l i) := by
  have hg := gpb h (i := i % l.length) (Nat.mod_lt _ h0)
  unfold stp Bd
  split <;> (simp only; omega)
theorem rcp_bd {M A : Int} {l : List Pt} {p : Pt} (hA : Bd A p) (h : ∀ e ∈ l, Bd M e) (h0 : 0 < l.length) : ∀ i : Nat, Bd (A + (i : Int) * (2 * M)) (rcp l p i)
  | 0 => by unfold Bd rcp at *; simp only [Int.natCast_zero, Int.zero_mul]; omega
  | i + 1 => by
    have ih := rcp_bd hA h h0 i
    have hg := stp_bd h h0 i
    have e : (((i + 1 : Nat) : Int)) * (2 * M) = i * (2 * M) + 2 * M := by rw [Int.natCast_add, Int.add_mul]; simp
    unfold Bd at *
    simp only [rcp]
    rw [e]; omega
/-- A point passes the test of a side. -/
def inT (l : List Pt) (p : Pt) (i : Nat) : Bool :=
  !decide (crs (g1 l ((i + 1) % l.length) - g1 l i, g2 l ((i + 1) % l.length) - g2 l i) (p.1 - g1 l i, p.2 - g2 l i) < 0) &&
  !(decide ((l.length : Int) ≤ 2) && (crs (g1 l ((i + 1) % l.length) - g1 l i, g2 l ((i + 1) % l.length) - g2 l i) (p.1 - g1 l i, p.2 - g2 l i) != 0 ||
    (decide ((g1 l ((i + 1) % l.length) - g1 l i) * (p.1 - g1 l i) + (g2 l ((i + 1) % l.length) - g2 l i) * (p.2 - g2 l i) < 0) || ((l.length : Int) == 1 && !(p.1 == g1 l i && p.2 == g2 l i)))))
def inR (l : List Pt) (p : Pt) : Nat → Bool
  | 0 => true
  | i + 1 => inR l p i && inT l p i
theorem inR_false {l : List Pt} {p : Pt} {i : Nat} (h : inT l p i = false) : ∀ n, i < n → inR l p n = false
  | 0, hn => by omega
  | n + 1, hn => by
    by_cases e : i = n
    · subst e; simp [inR, h]
    · simp [inR, inR_false h n (by omega)]
/-- The greatest value among the first corners. -/
def supR (n : Pt) (l : List Pt) : Nat → Int
  | 0 => n.1 * g1 l 0 + n.2 * g2 l 0
  | i + 1 => if supR n l i < n.1 * g1 l i + n.2 * g2 l i then n.1 * g1 l i + n.2 * g2 l i else supR n l i
open Go.RowKit
theorem absI_neg (x : Int) : absI (-x) = absI x := by unfold absI; split <;> split <;> omega
theorem absI_le {x M : Int} : absI x ≤ M ↔ -M ≤ x ∧ x ≤ M := by unfold absI; split <;> omega
theorem absI_nn (x : Int) : 0 ≤ absI x := by unfold absI; split <;> omega
theorem absI_of_nn {x : Int} (h : 0 ≤ x) : absI x = x := by unfold absI; split <;> omega
theorem absI_of_np {x : Int} (h : x ≤ 0) : absI x = -x := by unfold absI; split <;> omega
theorem absI_zero : absI 0 = 0 := rfl
theorem crs_zero_r (a : Pt) : crs a (0, 0) = 0 := by unfold crs; simp
theorem dotP_add (n g h : Pt) : dotP n (padd g h) = dotP n g + dotP n h := by unfold dotP padd; simp only [Int.mul_add]; omega
theorem dotP_neg (n g : Pt) : dotP n (-g.1, -g.2) = -dotP n g := by unfold dotP; simp only [Int.mul_neg]; omega
theorem dotP_negl (n g : Pt) : dotP (-n.1, -n.2) g = -dotP n g := by unfold dotP; simp only [Int.neg_mul]; omega
theorem dotP_zero (n : Pt) : dotP n (0, 0) = 0 := by unfold dotP; simp
theorem par_pos {g h : Pt} (hg : up g) (hh : up h) (h0 : crs g h = 0) : ∃ a b : Int, 0 < a ∧ 0 < b ∧ a * h.1 = b * g.1 ∧ a * h.2 = b * g.2 := by
  unfold crs at h0
  have e1 : g.1 * h.2 = g.2 * h.1 := by omega
  rcases Int.lt_or_eq_of_le (up_y hg) with g2 | g2
  · have h2 : 0 < h.2 := by
      rcases Int.lt_or_eq_of_le (up_y hh) with h2 | h2
      · exact h2
      · exfalso
        rw [← h2, Int.mul_zero] at e1
        have : h.1 = 0 := by
          rcases Int.mul_eq_zero.1 e1.symm with h | h
          · omega
          · exact h
        unfold up at hh; omega
    exact ⟨g.2, h.2, g2, h2, by rw [← e1, Int.mul_comm], Int.mul_comm _ _⟩
  · have g1p : 0 < g.1 := by unfold up at hg; omega
    rw [← g2, Int.zero_mul] at e1
    have h2 : h.2 = 0 := by
      rcases Int.mul_eq_zero.1 e1 with h | h
      · omega
      · exact h
    have h1p : 0 < h.1 := by unfold up at hh; omega
    exact ⟨g.1, h.1, g1p, h1p, Int.mul_comm _ _, by rw [h2, ← g2]; simp⟩
theorem abs_par {g h : Pt} (hg : up g) (hh : up h) (h0 : crs g h = 0) (n : Pt) : absI (dotP n (padd g h)) = absI (dotP n g) + absI (dotP n h) := by
  obtain ⟨a, b, ha, hb, e1, e2⟩ := par_pos hg hh h0
  have e : a * dotP n h = b * dotP n g := by
    unfold dotP
    have q1 : a * (n.1 * h.1 + n.2 * h.2) = n.1 * (a * h.1) + n.2 * (a * h.2) := by grind
    have q2 : b * (n.1 * g.1 + n.2 * g.2) = n.1 * (b * g.1) + n.2 * (b * g.2) := by grind
    rw [q1, q2, e1, e2]
  rw [dotP_add]
  rcases Int.le_total 0 (dotP n g) with k | k
  · have h1 : 0 ≤ dotP n h := nonneg_of (a := a) (by rw [e]; exact Int.mul_nonneg (by omega) k) ha
    rw [absI_of_nn k, absI_of_nn h1, absI_of_nn (by omega)]
  · have h1 : 0 ≤ -dotP n h := nonneg_of (a := a) (by rw [Int.mul_neg, e, ← Int.mul_neg]; exact Int.mul_nonneg (by omega) (by omega)) ha
    rw [absI_of_np k, absI_of_np (by omega : dotP n h ≤ 0), absI_of_np (by omega)]; omega
theorem spr_cons (n g : Pt) (l : List Pt) : spr n (g :: l) = absI (dotP n g) + spr n l := rfl
theorem spr_nn (n : Pt) : ∀ l : List Pt, 0 ≤ spr n l
  | [] => by simp [spr]
  | g :: l => by have := spr_nn n l; have := absI_nn (dotP n g); rw [spr_cons]; omega
theorem spr_putC {C : List Pt} {g : Pt} (hg : up g) (hs : C.Pairwise fun a b => 0 < crs a b) (hu : ∀ e ∈ C, up e) (n : Pt) : spr n (putC C g) = spr n C + absI (dotP n g) := by
  rcases split_at hg C hs hu with ⟨A, B, rfl, h1, h2⟩ | ⟨A, e, B, rfl, h1, h0, h2⟩
  · rw [putC_none h1 h2, spr_app, spr_app, spr_cons]; omega
  · rw [putC_some h1 h0 h2, spr_app, spr_app, spr_cons, spr_cons, abs_par (hu e (by simp)) hg (by rw [crs_anti]; omega)]; omega
theorem abs_nrm (n g : Pt) : absI (dotP n (nrm g)) = absI (dotP n g) := by
  unfold nrm; split
  · rw [dotP_neg, absI_neg]
  · rfl
/-- The canonical form reaches as far as the generators. -/
theorem spr_canon (n : Pt) (l : List Pt) : spr n (canonL l) = spr n l := by
  refine snoc_ind (P := fun l => spr n (canonL l) = spr n l) rfl (fun S g ih => ?_) l
  have hc := canonL_can S
  rw [canonL_snoc, spr_app, spr_cons, ← abs_nrm n g]
  show spr n (putL (canonL S) g) = spr n S + (absI (dotP n (nrm g)) + 0)
  unfold putL
  split
  · rename_i h; rw [h, dotP_zero, ih, absI_zero]; omega
  · rename_i h; rw [spr_putC (nrm_up h) hc.sorted hc.ups, ih]; omega
theorem spr_negl (n : Pt) : ∀ l : List Pt, spr (-n.1, -n.2) l = spr n l
  | [] => rfl
  | g :: l => by rw [spr_cons, spr_cons, spr_negl n l, dotP_negl, absI_neg]
/-- d is not beyond the sum of the segments in any direction. -/
def inZ (L : List Pt) (d : Pt) : Prop := ∀ n : Pt, dotP n d ≤ spr n L
theorem inZ.abs {L : List Pt} {d : Pt} (h : inZ L d) (n : Pt) : absI (dotP n d) ≤ spr n L := by
  rw [absI_le]
  have h1 := h n
  have h2 := h (-n.1, -n.2)
  rw [dotP_negl, spr_negl] at h2
  omega
theorem inZ_canon {l : List Pt} {d : Pt} : inZ (canonL l) d ↔ inZ l d := by
  constructor <;> intro h n <;> have := h n <;> rw [spr_canon] at * <;> exact this
/-- The sum of directions. -/
def vsum : List Pt → Pt
  | [] => (0, 0)
  | g :: l => padd g (vsum l)
theorem vsum_app : ∀ l m : List Pt, vsum (l ++ m) = padd (vsum l) (vsum m)
  | [], m => by simp [vsum, padd]
  | g :: l, m => by simp only [List.cons_append, vsum, vsum_app l m, padd_assoc]
def psub (a b : Pt) : Pt := (a.1 - b.1, a.2 - b.2)
theorem dotP_sub (n g h : Pt) : dotP n (psub g h) = dotP n g - dotP n h := by unfold dotP psub; simp only [Int.mul_sub]; omega
theorem dot_le_spr (n : Pt) : ∀ l : List Pt, dotP n (vsum l) ≤ spr n l ∧ -spr n l ≤ dotP n (vsum l)
  | [] => by simp [vsum, dotP_zero, spr]
  | g :: l => by
    have ih := dot_le_spr n l
    have h := absI_le.1 (Int.le_refl (absI (dotP n g)))
    rw [spr_cons]
    show dotP n (padd g (vsum l)) ≤ _ ∧ _ ≤ dotP n (padd g (vsum l))
    rw [dotP_add]; omega
theorem dot_eq_spr (n : Pt) : ∀ l : List Pt, (∀ g ∈ l, 0 ≤ dotP n g) → dotP n (vsum l) = spr n l
  | [], _ => by simp [vsum, dotP_zero, spr]
  | g :: l, h => by
    have ih := dot_eq_spr n l fun e he => h e (by simp [he])
    rw [spr_cons, absI_of_nn (h g (by simp)), ← ih]
    show dotP n (padd g (vsum l)) = _
    rw [dotP_add]
theorem dot_eq_nspr (n : Pt) : ∀ l : List Pt, (∀ g ∈ l, dotP n g ≤ 0) → dotP n (vsum l) = -spr n l
  | [], _ => by simp [vsum, dotP_zero, spr]
  | g :: l, h => by
    have ih := dot_eq_nspr n l fun e he => h e (by simp [he])
    rw [spr_cons, absI_of_np (h g (by simp))]
    show dotP n (padd g (vsum l)) = _
    rw [dotP_add]; omega
/-- A sum of some and the opposite of the others is in. -/
theorem inZ_split (A B : List Pt) : inZ (A ++ B) (psub (vsum A) (vsum B)) := fun n => by
  rw [dotP_sub, spr_app]
  have h1 := dot_le_spr n A
  have h2 := dot_le_spr n B
  omega
/-- Between two directions on one side of a line there is none on the other. -/
theorem mid_pos {g a b n : Pt} (h1 : 0 < crs g a) (h2 : 0 < crs a b) (h3 : 0 < crs g b) (k1 : 0 < dotP n g) (k2 : 0 < dotP n b) : 0 < dotP n a := by
  have e : crs g b * dotP n a = crs a b * dotP n g + crs g a * dotP n b := by unfold crs dotP; grind
  have q1 := Int.mul_pos h2 k1
  have q2 := Int.mul_pos h1 k2
  exact pos_of (a := crs g b) (by omega) h3
theorem sign_split (n : Pt) : ∀ L : List Pt, L.Pairwise (fun a b => 0 < crs a b) →
    ∃ A B, L = A ++ B ∧ (((∀ a ∈ A, 0 ≤ dotP n a) ∧ ∀ b ∈ B, dotP n b ≤ 0) ∨ ((∀ a ∈ A, dotP n a ≤ 0) ∧ ∀ b ∈ B, 0 ≤ dotP n b))
  | [], _ => ⟨[], [], rfl, .inl ⟨by simp, by simp⟩⟩
  | g :: L, hs => by
    rw [List.pairwise_cons] at hs
    obtain ⟨A, B, rfl, h⟩ := sign_split n L hs.2
    have hs2 := List.pairwise_append.1 hs.2
    have hm : ∀ m : Pt, (∀ x : Pt, dotP m x = dotP n x) ∨ (∀ x : Pt, dotP m x = -dotP n x) → 0 < dotP m g → ∀ b ∈ B, 0 < dotP m b → ∀ a ∈ A, 0 < dotP m a := fun m _ kg b hb kb a ha =>
      mid_pos (hs.1 a (by simp [ha])) (hs2.2.2 a ha b hb) (hs.1 b (by simp [hb])) kg kb
    rcases Int.lt_trichotomy (dotP n g) 0 with k | k | k
    · rcases h with ⟨hA, hB⟩ | ⟨hA, hB⟩
      · by_cases hall : ∀ b ∈ B, 0 ≤ dotP n b
        · refine ⟨[g], A ++ B, rfl, .inr ⟨by simpa using Int.le_of_lt k, fun b hb => ?_⟩⟩
          rcases List.mem_append.1 hb with hb | hb
          · exact hA b hb
          · exact hall b hb
        · have : ∃ b ∈ B, dotP n b < 0 := by
            apply Classical.byContradiction
            intro hno
            exact hall fun b hb => Int.not_lt.1 fun hlt => hno ⟨b, hb, hlt⟩
          obtain ⟨b, hb, kb⟩ := this
          have hA0 : A = [] := by
            cases A with
            | nil => rfl
            | cons a A =>
              have := hm (-n.1, -n.2) (.inr fun x => dotP_negl n x) (by rw [dotP_negl]; omega) b hb (by rw [dotP_negl]; omega) a (by simp)
              rw [dotP_negl] at this
              have := hA a (by simp)
              omega
          subst hA0
          refine ⟨g :: B, [], by simp, .inr ⟨fun a ha => ?_, by simp⟩⟩
          rcases List.mem_cons.1 ha with rfl | ha
          · omega
          · exact hB a ha
      · refine ⟨g :: A, B, rfl, .inr ⟨fun a ha => ?_, hB⟩⟩
        rcases List.mem_cons.1 ha with rfl | ha
        · omega
        · exact hA a ha
    · rcases h with ⟨hA, hB⟩ | ⟨hA, hB⟩
      · refine ⟨g :: A, B, rfl, .inl ⟨fun a ha => ?_, hB⟩⟩
        rcases List.mem_cons.1 ha with rfl | ha
        · omega
        · exact hA a ha
      · refine ⟨g :: A, B, rfl, .inr ⟨fun a ha => ?_, hB⟩⟩
        rcases List.mem_cons.1 ha with rfl | ha
        · omega
        · exact hA a ha
    · rcases h with ⟨hA, hB⟩ | ⟨hA, hB⟩
      · refine ⟨g :: A, B, rfl, .inl ⟨fun a ha => ?_, hB⟩⟩
        rcases List.mem_cons.1 ha with rfl | ha
        · omega
        · exact hA a ha
      · by_cases hall : ∀ b ∈ B, dotP n b ≤ 0
        · refine ⟨[g], A ++ B, rfl, .inl ⟨by simpa using Int.le_of_lt k, fun b hb => ?_⟩⟩
          rcases List.mem_append.1 hb with hb | hb
          · exact hA b hb
          · exact hall b hb
        · have : ∃ b ∈ B, 0 < dotP n b := by
            apply Classical.byContradiction
            intro hno
            exact hall fun b hb => Int.not_lt.1 fun hlt => hno ⟨b, hb, hlt⟩
          obtain ⟨b, hb, kb⟩ := this
          have hA0 : A = [] := by
            cases A with
            | nil => rfl
            | cons a A =>
              have := hm n (.inl fun x => rfl) k b hb kb a (by simp)
              have := hA a (by simp)
              omega
          subst hA0
          refine ⟨g :: B, [], by simp, .inl ⟨fun a ha => ?_, by simp⟩⟩
          rcases List.mem_cons.1 ha with rfl | ha
          · omega
          · exact hB a ha
/-- How far the sum reaches to the sides of a generator. -/
def wid (g : Pt) (L : List Pt) : Int := spr (0 - g.2, g.1) L
theorem dotP_perp (g h : Pt) : dotP (0 - g.2, g.1) h = crs g h := by unfold dotP crs; simp only [Int.sub_mul, Int.zero_mul]; omega
theorem crs_vsum (g : Pt) (L : List Pt) : crs g (vsum L) = dotP (0 - g.2, g.1) (vsum L) := (dotP_perp g _).symm
theorem wid_at {P Q : List Pt} {g : Pt} (hs : (P ++ g :: Q).Pairwise fun a b => 0 < crs a b) : wid g (P ++ g :: Q) = crs g (vsum Q) - crs g (vsum P) := by
  rw [List.pairwise_append, List.pairwise_cons] at hs
  obtain ⟨-, ⟨h1, -⟩, h2⟩ := hs
  unfold wid
  rw [spr_app, spr_cons, dotP_perp, crs_self, crs_vsum, crs_vsum, dot_eq_spr _ Q (fun q hq => by rw [dotP_perp]; exact Int.le_of_lt (h1 q hq)), dot_eq_nspr _ P (fun p hp => by rw [dotP_perp, crs_anti]; have := h2 p hp g (by simp); omega), absI_zero]
  omega
theorem two_sides {ei eo w n : Pt} (h : 0 < crs ei eo) (h1 : 0 ≤ crs ei w) (h2 : 0 ≤ crs eo w) (k1 : 0 ≤ dotP n ei) (k2 : dotP n eo ≤ 0) : dotP n w ≤ 0 := by
  have e : crs ei eo * dotP n w = crs ei w * dotP n eo - crs eo w * dotP n ei := by unfold crs dotP; grind
  have q1 := Int.mul_nonneg h1 (by omega : 0 ≤ -dotP n eo)
  have q2 := Int.mul_nonneg h2 k1
  rw [Int.mul_neg] at q1
  have : 0 ≤ crs ei eo * -dotP n w := by rw [Int.mul_neg]; omega
  have := nonneg_of this h
  omega
/-- By the sides of at least two generators: not beyond in any direction. -/
theorem inZ_sides {L : List Pt} (hs : L.Pairwise fun a b => 0 < crs a b) (h2 : 2 ≤ L.length) {d : Pt} (hd : ∀ g ∈ L, absI (crs g d) ≤ wid g L) : inZ L d := by
  have key : ∀ (n d : Pt) (A B : List Pt), L = A ++ B → (∀ g ∈ L, absI (crs g d) ≤ wid g L) → (∀ a ∈ A, 0 ≤ dotP n a) → (∀ b ∈ B, dotP n b ≤ 0) → dotP n d ≤ spr n L := by
    intro n d A B hL hd hA hB
    subst hL
    have hv : dotP n (psub (vsum A) (vsum B)) = spr n (A ++ B) := by rw [dotP_sub, dot_eq_spr n A hA, dot_eq_nspr n B hB, spr_app]; omega
    rw [← hv]
    suffices h : dotP n (psub d (psub (vsum A) (vsum B))) ≤ 0 by rw [dotP_sub] at h; omega
    -- the corner's two sides
    rcases List.eq_nil_or_concat A with rfl | ⟨A1, a, rfl⟩
    · cases B with
      | nil => simp at h2
      | cons b B1 =>
        rcases List.eq_nil_or_concat B1 with rfl | ⟨B2, z, rfl⟩
        · simp at h2
        · rw [List.concat_eq_append] at *
          simp only [List.nil_append] at *
          have w1 := wid_at (P := []) (Q := B2 ++ [z]) (g := b) hs
          have w2 := wid_at (P := b :: B2) (Q := []) (g := z) (by simpa using hs)
          simp only [List.nil_append] at w1
          have hbz : 0 < crs b z := (List.pairwise_cons.1 hs).1 z (by simp)
          have d1 := absI_le.1 (hd b (by simp))
          have d2 := absI_le.1 (hd z (by simp))
          have e2 : b :: B2 ++ [z] = b :: (B2 ++ [z]) := rfl
          rw [e2] at w2
          refine two_sides (ei := (-z.1, -z.2)) (eo := b) ?_ ?_ ?_ ?_ (hB b (by simp))
          · have : crs (-z.1, -z.2) b = crs b z := by unfold crs; grind
            omega
          · have e : crs (-z.1, -z.2) (psub d (psub (vsum []) (vsum (b :: (B2 ++ [z]))))) = -(crs z d) - crs z (vsum (b :: B2)) := by
              rw [← e2, vsum_app]; simp only [vsum]; unfold crs psub padd; grind
            rw [e]
            simp only [vsum, crs_zero_r] at w2 ⊢
            omega
          · have e : crs b (psub d (psub (vsum []) (vsum (b :: (B2 ++ [z]))))) = crs b d + crs b (vsum (B2 ++ [z])) := by
              simp only [vsum]; unfold crs psub padd; grind
            rw [e]
            simp only [vsum, crs_zero_r] at w1
            omega
          · rw [dotP_neg]; have := hB z (by simp); omega
    · rw [List.concat_eq_append] at *
      cases B with
      | cons b B1 =>
        have hs' : (A1 ++ a :: (b :: B1)).Pairwise fun a b => 0 < crs a b := by simpa using hs
        have w1 := wid_at (P := A1) (Q := b :: B1) (g := a) hs'
        have w2 := wid_at (P := A1 ++ [a]) (Q := B1) (g := b) hs
        have e1 : A1 ++ a :: (b :: B1) = A1 ++ [a] ++ b :: B1 := by simp
        rw [e1] at w1
        have hab : 0 < crs a b := (List.pairwise_cons.1 (List.pairwise_append.1 hs').2.1).1 b (by simp)
        have d1 := absI_le.1 (hd a (by simp))
        have d2 := absI_le.1 (hd b (by simp))
        refine two_sides (ei := a) (eo := b) hab ?_ ?_ (hA a (by simp)) (hB b (by simp))
        · have e : crs a (psub d (psub (vsum (A1 ++ [a])) (vsum (b :: B1)))) = crs a d - crs a (vsum A1) + crs a (vsum (b :: B1)) := by
            rw [vsum_app]; simp only [vsum]; unfold crs psub padd; grind
          rw [e]; omega
        · have e : crs b (psub d (psub (vsum (A1 ++ [a])) (vsum (b :: B1)))) = crs b d - crs b (vsum (A1 ++ [a])) + crs b (vsum B1) := by
            simp only [vsum]; unfold crs psub padd; grind
          rw [e]; omega
      | nil =>
        rw [List.append_nil] at *
        cases A1 with
        | nil => simp at h2
        | cons f A2 =>
          have w1 := wid_at (P := []) (Q := A2 ++ [a]) (g := f) (by simpa using hs)
          have w2 := wid_at (P := f :: A2) (Q := []) (g := a) hs
          simp only [List.nil_append] at w1
          have e1 : f :: (A2 ++ [a]) = f :: A2 ++ [a] := rfl
          rw [e1] at w1
          have hfa : 0 < crs f a := (List.pairwise_cons.1 (show (f :: (A2 ++ [a])).Pairwise (fun a b => 0 < crs a b) from hs)).1 a (by simp)
          have d1 := absI_le.1 (hd f (by simp))
          have d2 := absI_le.1 (hd a (by simp))
          refine two_sides (ei := a) (eo := (-f.1, -f.2)) ?_ ?_ ?_ (hA a (by simp)) ?_
          · have : crs a (-f.1, -f.2) = crs f a := by unfold crs; grind
            omega
          · have e : crs a (psub d (psub (vsum (f :: A2 ++ [a])) (vsum []))) = crs a d - crs a (vsum (f :: A2)) := by
              rw [vsum_app]; simp only [vsum]; unfold crs psub padd; grind
            rw [e]
            simp only [vsum, crs_zero_r] at w2 ⊢
            omega
          · have e : crs (-f.1, -f.2) (psub d (psub (vsum (f :: A2 ++ [a])) (vsum []))) = -(crs f d) + crs f (vsum (A2 ++ [a])) := by
              rw [← e1]; simp only [vsum]; unfold crs psub padd; grind
            rw [e]
            simp only [vsum, crs_zero_r] at w1
            omega
          · rw [dotP_neg]; have := hA f (by simp); omega
  intro n
  obtain ⟨A, B, hL, h⟩ := sign_split n L hs
  rcases h with ⟨hA, hB⟩ | ⟨hA, hB⟩
  · exact key n d A B hL hd hA hB
  · have := key (-n.1, -n.2) (-d.1, -d.2) A B hL (fun g hg => by
      have : crs g (-d.1, -d.2) = -crs g d := by unfold crs; grind
      rw [this, absI_neg]; exact hd g hg) (fun a ha => by rw [dotP_negl]; have := hA a ha; omega) (fun b hb => by rw [dotP_negl]; have := hB b hb; omega)
    rw [dotP_negl, dotP_neg, spr_negl] at this
    omega
theorem dot_self_pos {g : Pt} (hg : up g) : 0 < dotP g g := by
  unfold dotP
  have h1 : 0 ≤ g.1 * g.1 := by rcases Int.le_total 0 g.1 with h | h; exact Int.mul_nonneg h h; have := Int.mul_nonneg (by omega : 0 ≤ -g.1) (by omega : 0 ≤ -g.1); rwa [Int.neg_mul_neg] at this
  have h2 : 0 ≤ g.2 * g.2 := Int.mul_nonneg (up_y hg) (up_y hg)
  unfold up at hg
  rcases hg with h | h
  · have := Int.mul_pos h h; omega
  · have := Int.mul_pos h.2 h.2; omega
theorem inZ_one {g d : Pt} (hg : up g) (h1 : crs g d = 0) (h2 : absI (dotP g d) ≤ dotP g g) : inZ [g] d := fun n => by
  have e : dotP g g * dotP n d = dotP g d * dotP n g + crs g d * (g.1 * n.2 - g.2 * n.1) := by unfold dotP crs; grind
  rw [h1, Int.zero_mul, Int.add_zero] at e
  have hp := dot_self_pos hg
  show dotP n d ≤ absI (dotP n g) + 0
  rw [Int.add_zero]
  have hb := mul_bd (a := dotP g d) (b := dotP n g) (A := dotP g g) (B := absI (dotP n g)) (absI_le.1 h2) (absI_le.1 (Int.le_refl _))
  rw [← e] at hb
  exact Int.le_of_mul_le_mul_left hb.2 hp
theorem inZ_nil {d : Pt} : inZ [] d ↔ d = (0, 0) := by
  constructor
  · intro h
    have h1 := h (1, 0); have h2 := h (-1, 0); have h3 := h (0, 1); have h4 := h (0, -1)
    simp only [dotP, spr] at h1 h2 h3 h4
    exact Prod.ext (by omega) (by omega)
  · rintro rfl n
    rw [dotP_zero]; exact Int.le_refl 0
/-- By the directions that the program tries. -/
theorem beyond_iff {L : List Pt} (hs : L.Pairwise fun a b => 0 < crs a b) (hu : ∀ e ∈ L, up e) (d : Pt) : (nrmls L).any (beyond L d) = false ↔ inZ L d := by
  constructor
  · intro h
    have hall : ∀ m ∈ nrmls L, absI (dotP m d) ≤ spr m L := fun m hm => by
      have := List.any_eq_false.1 h m hm
      simp only [beyond, decide_eq_true_eq] at this
      omega
    have hside : ∀ g ∈ L, absI (crs g d) ≤ wid g L := fun g hg => by
      have := hall (0 - g.2, g.1) (by unfold nrmls; simp only [List.mem_append, List.mem_flatMap]; exact .inr ⟨g, hg, by simp⟩)
      rw [dotP_perp] at this
      exact this
    have hown : ∀ g ∈ L, absI (dotP g d) ≤ spr g L := fun g hg => hall g (by unfold nrmls; simp only [List.mem_append, List.mem_flatMap]; exact .inr ⟨g, hg, by simp⟩)
    match L, hs, hu, hall, hside, hown with
    | [], _, _, hall, _, _ =>
      have h1 := absI_le.1 (hall (1, 0) (by simp [nrmls]))
      have h2 := absI_le.1 (hall (0, 1) (by simp [nrmls]))
      simp only [dotP, spr] at h1 h2
      exact inZ_nil.2 (Prod.ext (by omega) (by omega))
    | [g], _, hu, _, hside, hown =>
      have h1 := absI_le.1 (hside g (by simp))
      have h2 := hown g (by simp)
      have e : wid g [g] = 0 := by unfold wid; rw [spr_cons, dotP_perp, crs_self]; rfl
      rw [e] at h1
      have e2 : spr g [g] = dotP g g := by rw [spr_cons, absI_of_nn (Int.le_of_lt (dot_self_pos (hu g (by simp))))]; simp [spr]
      rw [e2] at h2
      exact inZ_one (hu g (by simp)) (by omega) h2
    | g :: g' :: L, hs, _, _, hside, _ => exact inZ_sides hs (by simp) hside
  · intro h
    refine List.any_eq_false.2 fun m _ => ?_
    simp only [beyond, decide_eq_true_eq]
    have := h.abs m
    omega
open Go.RowKit
theorem take_snoc' {l : List Pt} {i : Nat} (h : i < l.length) : l.take (i + 1) = l.take i ++ [gp l i] := by rw [List.take_succ_eq_append_getElem h, gp_eq h]
theorem vsum_take {l : List Pt} {i : Nat} (h : i < l.length) : vsum (l.take (i + 1)) = ((vsum (l.take i)).1 + g1 l i, (vsum (l.take i)).2 + g2 l i) := by
  rw [take_snoc' h, vsum_app]; simp [vsum, padd, gp]
theorem cor0_eq (x y : Int) (l : List Pt) : ∀ i, i ≤ l.length → cor0 x y l i = (x - (vsum (l.take i)).1, y - (vsum (l.take i)).2)
  | 0, _ => by simp [cor0, vsum]
  | i + 1, h => by
    rw [cor0, cor0_eq x y l i (by omega), vsum_take (by omega)]
    exact Prod.ext (by simp only; omega) (by simp only; omega)
theorem stp_lo {l : List Pt} {i : Nat} (h : i < l.length) : stp l i = (g1 l i, g2 l i) := by unfold stp; rw [if_neg (by omega), Nat.mod_eq_of_lt h]
theorem stp_hi {l : List Pt} {k : Nat} (h : k < l.length) : stp l (l.length + k) = (-g1 l k, -g2 l k) := by unfold stp; rw [if_pos (by omega), Nat.add_mod_left, Nat.mod_eq_of_lt h]
theorem rcp_lo (l : List Pt) (p : Pt) : ∀ i, i ≤ l.length → rcp l p i = (p.1 + 2 * (vsum (l.take i)).1, p.2 + 2 * (vsum (l.take i)).2)
  | 0, _ => by simp [rcp, vsum]
  | i + 1, h => by
    rw [rcp, rcp_lo l p i (by omega), vsum_take (by omega), stp_lo (by omega)]
    exact Prod.ext (by simp only; omega) (by simp only; omega)
theorem rcp_hi (l : List Pt) (p : Pt) : ∀ k, k ≤ l.length → rcp l p (l.length + k) = (p.1 + 2 * (vsum l).1 - 2 * (vsum (l.take k)).1, p.2 + 2 * (vsum l).2 - 2 * (vsum (l.take k)).2)
  | 0, _ => by rw [Nat.add_zero, rcp_lo l p _ (Nat.le_refl _), List.take_length]; simp [vsum]
  | k + 1, h => by
    rw [← Nat.add_assoc, rcp, rcp_hi l p k (by omega), vsum_take (by omega), stp_hi (by omega)]
    exact Prod.ext (by simp only; omega) (by simp only; omega)
theorem rcp_round (l : List Pt) (p : Pt) : rcp l p (2 * l.length) = p := by
  rw [show 2 * l.length = l.length + l.length by omega, rcp_hi l p _ (Nat.le_refl _), List.take_length]
  exact Prod.ext (by simp only; omega) (by simp only; omega)
theorem rco_eq (l : List Pt) (p : Pt) : ∀ j, rco l p j = p :: (List.range j).map fun i => rcp l p (i + 1)
  | 0 => by simp [rco]
  | j + 1 => by rw [rco, rco_eq l p j, List.range_succ, List.map_append]; rfl
theorem rco_gp (l : List Pt) (p : Pt) : ∀ m i, i ≤ m → gp (rco l p m) i = rcp l p i
  | m, 0, _ => by
    rw [gp_eq (by rw [rco_len]; omega)]
    simp only [rco_eq]; rfl
  | m, i + 1, h => by
    rw [gp_eq (by rw [rco_len]; omega)]
    simp only [rco_eq]
    simp
theorem corR_len (x y : Int) (l : List Pt) : (corR x y l).length = 2 * l.length - 1 + 1 := rco_len _ _ _
theorem corR_gp (x y : Int) (l : List Pt) {i : Nat} (h : i ≤ 2 * l.length - 1) : gp (corR x y l) i = rcp l (cor0 x y l l.length) i := rco_gp _ _ _ _ h
/-- A corner is a sum of some and the opposite of the others. -/
theorem cor_lo (x y : Int) (l : List Pt) {i : Nat} (h : i ≤ l.length) : rcp l (cor0 x y l l.length) i = padd (x, y) (psub (vsum (l.take i)) (vsum (l.drop i))) := by
  rw [rcp_lo _ _ _ h, cor0_eq _ _ _ _ (Nat.le_refl _), List.take_length]
  have e : vsum l = padd (vsum (l.take i)) (vsum (l.drop i)) := by rw [← vsum_app, List.take_append_drop]
  rw [e]; unfold padd psub
  exact Prod.ext (by simp only; omega) (by simp only; omega)
theorem cor_hi (x y : Int) (l : List Pt) {k : Nat} (h : k ≤ l.length) : rcp l (cor0 x y l l.length) (l.length + k) = padd (x, y) (psub (vsum (l.drop k)) (vsum (l.take k))) := by
  rw [rcp_hi _ _ _ h, cor0_eq _ _ _ _ (Nat.le_refl _), List.take_length]
  have e : vsum l = padd (vsum (l.take k)) (vsum (l.drop k)) := by rw [← vsum_app, List.take_append_drop]
  rw [e]; unfold padd psub
  exact Prod.ext (by simp only; omega) (by simp only; omega)
theorem inR_iff {C : List Pt} {p : Pt} : ∀ n, inR C p n = true ↔ ∀ i, i < n → inT C p i = true
  | 0 => by simp [inR]
  | n + 1 => by
    rw [inR, Bool.and_eq_true, inR_iff n]
    constructor
    · rintro ⟨h1, h2⟩ i hi
      by_cases e : i = n
      · subst e; exact h2
      · exact h1 i (by omega)
    · exact fun h => ⟨fun i hi => h i (by omega), h n (by omega)⟩
theorem swap_in {A B : List Pt} {d : Pt} (h : inZ (A ++ B) d) : inZ (B ++ A) d := fun n => by have := h n; rw [spr_app] at *; omega
/-- Each corner is in. -/
theorem cor_in (x y : Int) (l : List Pt) {i : Nat} (h : i < 2 * l.length - 1 + 1) : inZ l (psub (gp (corR x y l) i) (x, y)) := by
  rw [corR_gp x y l (by omega)]
  rcases Nat.lt_or_ge i (l.length + 1) with hk | hk
  · rw [cor_lo x y l (by omega)]
    have := inZ_split (l.take i) (l.drop i)
    rw [List.take_append_drop] at this
    have e : psub (padd (x, y) (psub (vsum (l.take i)) (vsum (l.drop i)))) (x, y) = psub (vsum (l.take i)) (vsum (l.drop i)) := by unfold psub padd; exact Prod.ext (by simp only; omega) (by simp only; omega)
    rw [e]; exact this
  · obtain ⟨k, rfl⟩ : ∃ k, i = l.length + k := ⟨i - l.length, by omega⟩
    rw [cor_hi x y l (by omega)]
    have := swap_in (inZ_split (l.drop k) (l.take k))
    rw [List.take_append_drop] at this
    have e : psub (padd (x, y) (psub (vsum (l.drop k)) (vsum (l.take k)))) (x, y) = psub (vsum (l.drop k)) (vsum (l.take k)) := by unfold psub padd; exact Prod.ext (by simp only; omega) (by simp only; omega)
    rw [e]; exact this
theorem mem_split {L : List Pt} {g : Pt} (h : g ∈ L) : ∃ k, k < L.length ∧ gp L k = g ∧ L = L.take k ++ g :: L.drop (k + 1) := by
  obtain ⟨k, hk, rfl⟩ := List.getElem_of_mem h
  exact ⟨k, hk, gp_eq hk, by rw [List.getElem_cons_drop, List.take_append_drop]⟩
theorem rcp_next (l : List Pt) (p : Pt) {i : Nat} (h : i < 2 * l.length) : rcp l p ((i + 1) % (2 * l.length - 1 + 1)) = rcp l p (i + 1) := by
  rcases Nat.lt_or_ge (i + 1) (2 * l.length) with k | k
  · rw [Nat.mod_eq_of_lt (by omega)]
  · have e : i + 1 = 2 * l.length := by omega
    rw [e, show 2 * l.length - 1 + 1 = 2 * l.length by omega, Nat.mod_self, rcp_round]
    rfl
/-- With at least two generators: the test of a side. -/
theorem inT_side {x y : Int} {l : List Pt} (h2 : 2 ≤ l.length) (p : Pt) {i : Nat} (h : i < 2 * l.length) :
    inT (corR x y l) p i = true ↔ 0 ≤ crs (stp l i) (psub p (rcp l (cor0 x y l l.length) i)) := by
  have e1 : (g1 (corR x y l) i, g2 (corR x y l) i) = rcp l (cor0 x y l l.length) i := corR_gp x y l (by omega)
  have hm : (i + 1) % (corR x y l).length ≤ 2 * l.length - 1 := by
    have := Nat.mod_lt (i + 1) (show 0 < (corR x y l).length by rw [corR_len]; omega)
    rw [corR_len] at this ⊢; omega
  have e2 : (g1 (corR x y l) ((i + 1) % (corR x y l).length), g2 (corR x y l) ((i + 1) % (corR x y l).length)) = rcp l (cor0 x y l l.length) (i + 1) := by
    have := corR_gp x y l hm
    rw [corR_len, rcp_next l _ h] at this
    rw [corR_len]; exact this
  have a1 : g1 (corR x y l) i = (rcp l (cor0 x y l l.length) i).1 := congrArg Prod.fst e1
  have a2 : g2 (corR x y l) i = (rcp l (cor0 x y l l.length) i).2 := congrArg Prod.snd e1
  have b1 : g1 (corR x y l) ((i + 1) % (corR x y l).length) = (rcp l (cor0 x y l l.length) (i + 1)).1 := congrArg Prod.fst e2
  have b2 : g2 (corR x y l) ((i + 1) % (corR x y l).length) = (rcp l (cor0 x y l l.length) (i + 1)).2 := congrArg Prod.snd e2
  have hlen : decide ((((corR x y l).length : Nat) : Int) ≤ 2) = false := decide_eq_false (by rw [corR_len]; omega)
  unfold inT
  rw [a1, a2, b1, b2, hlen, rcp]
  have e : crs ((rcp l (cor0 x y l l.length) i).1 + 2 * (stp l i).1 - (rcp l (cor0 x y l l.length) i).1, (rcp l (cor0 x y l l.length) i).2 + 2 * (stp l i).2 - (rcp l (cor0 x y l l.length) i).2) (p.1 - (rcp l (cor0 x y l l.length) i).1, p.2 - (rcp l (cor0 x y l l.length) i).2) = 2 * crs (stp l i) (psub p (rcp l (cor0 x y l l.length) i)) := by
    generalize rcp l (cor0 x y l l.length) i = v
    generalize stp l i = s
    unfold crs psub; grind
  simp only [e, Bool.false_and, Bool.not_false, Bool.and_true, Bool.not_eq_true', decide_eq_false_iff_not]
  omega
theorem side_lo {x y : Int} {L : List Pt} (hs : L.Pairwise fun a b => 0 < crs a b) (p : Pt) {k : Nat} (h : k < L.length) :
    crs (stp L k) (psub p (rcp L (cor0 x y L L.length) k)) = crs (gp L k) (psub p (x, y)) + wid (gp L k) L := by
  have hL : L = L.take k ++ gp L k :: L.drop (k + 1) := by rw [gp_eq h, List.getElem_cons_drop, List.take_append_drop]
  have hd : L.drop k = gp L k :: L.drop (k + 1) := by rw [gp_eq h, List.getElem_cons_drop]
  have w : wid (gp L k) L = crs (gp L k) (vsum (L.drop (k + 1))) - crs (gp L k) (vsum (L.take k)) := by
    have := wid_at (P := L.take k) (Q := L.drop (k + 1)) (g := gp L k) (by rw [← hL]; exact hs)
    rwa [← hL] at this
  rw [stp_lo h, cor_lo x y L (by omega), hd, w]
  show crs (gp L k) _ = _
  simp only [vsum]
  generalize gp L k = g
  generalize vsum (L.take k) = A
  generalize vsum (L.drop (k + 1)) = B
  unfold crs psub padd; grind
theorem side_hi {x y : Int} {L : List Pt} (hs : L.Pairwise fun a b => 0 < crs a b) (p : Pt) {k : Nat} (h : k < L.length) :
    crs (stp L (L.length + k)) (psub p (rcp L (cor0 x y L L.length) (L.length + k))) = wid (gp L k) L - crs (gp L k) (psub p (x, y)) := by
  have hL : L = L.take k ++ gp L k :: L.drop (k + 1) := by rw [gp_eq h, List.getElem_cons_drop, List.take_append_drop]
  have hd : L.drop k = gp L k :: L.drop (k + 1) := by rw [gp_eq h, List.getElem_cons_drop]
  have w : wid (gp L k) L = crs (gp L k) (vsum (L.drop (k + 1))) - crs (gp L k) (vsum (L.take k)) := by
    have := wid_at (P := L.take k) (Q := L.drop (k + 1)) (g := gp L k) (by rw [← hL]; exact hs)
    rwa [← hL] at this
  rw [stp_hi h, cor_hi x y L (by omega), hd, w]
  have e : (-g1 L k, -g2 L k) = (-(gp L k).1, -(gp L k).2) := rfl
  rw [e]
  simp only [vsum]
  generalize gp L k = g
  generalize vsum (L.take k) = A
  generalize vsum (L.drop (k + 1)) = B
  unfold crs psub padd; grind
/-- Being in by the sides between the corners is being beyond in no direction. -/
theorem in_iff {x y : Int} {L : List Pt} (hs : L.Pairwise fun a b => 0 < crs a b) (hu : ∀ e ∈ L, up e) (p : Pt) : inR (corR x y L) p (corR x y L).length = true ↔ inZ L (psub p (x, y)) := by
  rw [inR_iff]
  match L, hs, hu with
  | [], _, _ =>
    rw [inZ_nil]
    have hC : corR x y [] = [(x, y)] := rfl
    rw [hC]
    simp only [List.length_cons, List.length_nil, Nat.zero_add]
    have e : inT [(x, y)] p 0 = (decide (p = (x, y))) := by
      unfold inT g1 g2 crs
      simp
      rw [Bool.eq_iff_iff]; simp [Prod.ext_iff]
    constructor
    · intro h
      have := h 0 (by omega)
      rw [e, decide_eq_true_eq] at this
      rw [this]; unfold psub; simp
    · intro h i hi
      obtain rfl : i = 0 := by omega
      rw [e, decide_eq_true_eq]
      unfold psub at h
      simp only [Prod.mk.injEq] at h
      exact Prod.ext (by simp only; omega) (by simp only; omega)
  | [g], _, hu =>
    have hC : corR x y [g] = [(x - g.1, y - g.2), (x - g.1 + 2 * g.1, y - g.2 + 2 * g.2)] := rfl
    have hd : ∀ q : Prop, q ↔ q := fun _ => Iff.rfl
    have t0 : inT [(x - g.1, y - g.2), (x - g.1 + 2 * g.1, y - g.2 + 2 * g.2)] p 0 = true ↔ (crs g (psub p (x, y)) = 0 ∧ 0 ≤ dotP g (psub p (x, y)) + dotP g g) := by
      have e1 : crs (x - g.1 + 2 * g.1 - (x - g.1), y - g.2 + 2 * g.2 - (y - g.2)) (p.1 - (x - g.1), p.2 - (y - g.2)) = 2 * crs g (psub p (x, y)) := by unfold crs psub; grind
      have e2 : (x - g.1 + 2 * g.1 - (x - g.1)) * (p.1 - (x - g.1)) + (y - g.2 + 2 * g.2 - (y - g.2)) * (p.2 - (y - g.2)) = 2 * (dotP g (psub p (x, y)) + dotP g g) := by unfold dotP psub; grind
      unfold inT
      show (!decide (crs (x - g.1 + 2 * g.1 - (x - g.1), y - g.2 + 2 * g.2 - (y - g.2)) (p.1 - (x - g.1), p.2 - (y - g.2)) < 0) && !(decide ((((2 : Nat) : Int)) ≤ 2) && (crs (x - g.1 + 2 * g.1 - (x - g.1), y - g.2 + 2 * g.2 - (y - g.2)) (p.1 - (x - g.1), p.2 - (y - g.2)) != 0 || (decide ((x - g.1 + 2 * g.1 - (x - g.1)) * (p.1 - (x - g.1)) + (y - g.2 + 2 * g.2 - (y - g.2)) * (p.2 - (y - g.2)) < 0) || ((((2 : Nat) : Int)) == 1 && !(p.1 == x - g.1 && p.2 == y - g.2)))))) = true ↔ _
      rw [e1, e2]
      generalize crs g (psub p (x, y)) = a
      generalize dotP g (psub p (x, y)) + dotP g g = b
      simp
      omega
    have t1 : inT [(x - g.1, y - g.2), (x - g.1 + 2 * g.1, y - g.2 + 2 * g.2)] p 1 = true ↔ (crs g (psub p (x, y)) = 0 ∧ 0 ≤ dotP g g - dotP g (psub p (x, y))) := by
      have e1 : crs (x - g.1 - (x - g.1 + 2 * g.1), y - g.2 - (y - g.2 + 2 * g.2)) (p.1 - (x - g.1 + 2 * g.1), p.2 - (y - g.2 + 2 * g.2)) = -(2 * crs g (psub p (x, y))) := by unfold crs psub; grind
      have e2 : (x - g.1 - (x - g.1 + 2 * g.1)) * (p.1 - (x - g.1 + 2 * g.1)) + (y - g.2 - (y - g.2 + 2 * g.2)) * (p.2 - (y - g.2 + 2 * g.2)) = 2 * (dotP g g - dotP g (psub p (x, y))) := by unfold dotP psub; grind
      have m1 : (1 + 1) % [(x - g.1, y - g.2), (x - g.1 + 2 * g.1, y - g.2 + 2 * g.2)].length = 0 := by simp
      unfold inT
      rw [m1]
      show (!decide (crs (x - g.1 - (x - g.1 + 2 * g.1), y - g.2 - (y - g.2 + 2 * g.2)) (p.1 - (x - g.1 + 2 * g.1), p.2 - (y - g.2 + 2 * g.2)) < 0) && !(decide ((((2 : Nat) : Int)) ≤ 2) && (crs (x - g.1 - (x - g.1 + 2 * g.1), y - g.2 - (y - g.2 + 2 * g.2)) (p.1 - (x - g.1 + 2 * g.1), p.2 - (y - g.2 + 2 * g.2)) != 0 || (decide ((x - g.1 - (x - g.1 + 2 * g.1)) * (p.1 - (x - g.1 + 2 * g.1)) + (y - g.2 - (y - g.2 + 2 * g.2)) * (p.2 - (y - g.2 + 2 * g.2)) < 0) || ((((2 : Nat) : Int)) == 1 && !(p.1 == x - g.1 + 2 * g.1 && p.2 == y - g.2 + 2 * g.2)))))) = true ↔ _
      rw [e1, e2]
      generalize crs g (psub p (x, y)) = a
      generalize dotP g g - dotP g (psub p (x, y)) = b
      simp
      omega
    rw [hC]
    constructor
    · intro h
      have h0 := t0.1 (h 0 (by simp))
      have h1 := t1.1 (h 1 (by simp))
      exact inZ_one (hu g (by simp)) h0.1 (absI_le.2 ⟨by omega, by omega⟩)
    · intro h
      have hp := h.abs (0 - g.2, g.1)
      rw [dotP_perp, spr_cons, dotP_perp, crs_self] at hp
      have hp' := absI_le.1 hp
      have hq := h.abs g
      rw [spr_cons, absI_of_nn (Int.le_of_lt (dot_self_pos (hu g (by simp))))] at hq
      have hq' := absI_le.1 hq
      simp only [spr, absI_zero] at hp' hq'
      intro i hi
      simp only [List.length_cons, List.length_nil] at hi
      rcases (by omega : i = 0 ∨ i = 1) with rfl | rfl
      · exact t0.2 ⟨by omega, by omega⟩
      · exact t1.2 ⟨by omega, by omega⟩
  | g :: g' :: R, hs, _ =>
    generalize hL : g :: g' :: R = L at hs
    have h2 : 2 ≤ L.length := by rw [← hL]; simp
    rw [corR_len]
    constructor
    · intro h
      refine inZ_sides hs h2 fun e he => ?_
      obtain ⟨k, hk, rfl, -⟩ := mem_split he
      have h1 := (inT_side h2 p (by omega)).1 (h k (by omega))
      have h3 := (inT_side h2 p (by omega)).1 (h (L.length + k) (by omega))
      rw [side_lo hs p hk] at h1
      rw [side_hi hs p hk] at h3
      exact absI_le.2 ⟨by omega, by omega⟩
    · intro h i hi
      refine (inT_side h2 p (by omega)).2 ?_
      rcases Nat.lt_or_ge i L.length with hk | hk
      · rw [side_lo hs p hk]
        have := absI_le.1 (h.abs (0 - (gp L i).2, (gp L i).1))
        rw [dotP_perp] at this
        unfold wid; omega
      · obtain ⟨k, rfl⟩ : ∃ k, i = L.length + k := ⟨i - L.length, by omega⟩
        rw [side_hi hs p (by omega)]
        have := absI_le.1 (h.abs (0 - (gp L k).2, (gp L k).1))
        rw [dotP_perp] at this
        unfold wid; omega
theorem supR_le (n : Pt) (C : List Pt) {M : Int} : ∀ k, (n.1 * g1 C 0 + n.2 * g2 C 0 ≤ M) → (∀ i, i < k → n.1 * g1 C i + n.2 * g2 C i ≤ M) → supR n C k ≤ M
  | 0, h, _ => h
  | k + 1, h, hk => by
    have := supR_le n C k h fun i hi => hk i (by omega)
    rw [supR]; split
    · exact hk k (by omega)
    · exact this
theorem le_supR (n : Pt) (C : List Pt) {i : Nat} : ∀ k, i < k → n.1 * g1 C i + n.2 * g2 C i ≤ supR n C k
  | 0, h => by omega
  | k + 1, h => by
    rw [supR]
    by_cases e : i = k
    · subst e; split <;> omega
    · have := le_supR n C (i := i) k (by omega)
      split <;> omega
/-- The greatest value among the corners. -/
theorem sup_eq {x y : Int} {L : List Pt} (hs : L.Pairwise fun a b => 0 < crs a b) (n : Pt) : supR n (corR x y L) (corR x y L).length = n.1 * x + n.2 * y + spr n L := by
  have hle : ∀ i, i < 2 * L.length - 1 + 1 → n.1 * g1 (corR x y L) i + n.2 * g2 (corR x y L) i ≤ n.1 * x + n.2 * y + spr n L := fun i hi => by
    have := cor_in x y L hi n
    rw [dotP_sub] at this
    have e : dotP n (gp (corR x y L) i) = n.1 * g1 (corR x y L) i + n.2 * g2 (corR x y L) i := rfl
    have e2 : dotP n (x, y) = n.1 * x + n.2 * y := rfl
    omega
  have hup := supR_le n (corR x y L) (M := n.1 * x + n.2 * y + spr n L) (corR x y L).length (hle 0 (by omega)) fun i hi => hle i (by rw [corR_len] at hi; exact hi)
  suffices hex : ∃ i, i < 2 * L.length - 1 + 1 ∧ n.1 * g1 (corR x y L) i + n.2 * g2 (corR x y L) i = n.1 * x + n.2 * y + spr n L by
    obtain ⟨i, hi, he⟩ := hex
    have := le_supR n (corR x y L) (i := i) (corR x y L).length (by rw [corR_len]; exact hi)
    omega
  have val : ∀ i, i ≤ 2 * L.length - 1 → n.1 * g1 (corR x y L) i + n.2 * g2 (corR x y L) i = dotP n (rcp L (cor0 x y L L.length) i) := fun i hi => by
    have := corR_gp x y L hi
    rw [← this]; rfl
  have zero : dotP n (rcp L (cor0 x y L L.length) (2 * L.length)) = dotP n (rcp L (cor0 x y L L.length) 0) := by rw [rcp_round]; rfl
  obtain ⟨A, B, hAB, h⟩ := sign_split n L hs
  have hA : L.take A.length = A := by rw [hAB, List.take_append_of_le_length (Nat.le_refl _), List.take_length]
  have hB : L.drop A.length = B := by rw [hAB, List.drop_append_of_le_length (Nat.le_refl _), List.drop_length, List.nil_append]
  have hlen : A.length ≤ L.length := by rw [hAB]; simp
  have hsp : spr n L = spr n A + spr n B := by rw [hAB, spr_app]
  have fin : ∀ i, i ≤ 2 * L.length → dotP n (rcp L (cor0 x y L L.length) i) = n.1 * x + n.2 * y + spr n L → ∃ i, i < 2 * L.length - 1 + 1 ∧ n.1 * g1 (corR x y L) i + n.2 * g2 (corR x y L) i = n.1 * x + n.2 * y + spr n L := fun i hi he => by
    rcases Nat.lt_or_ge i (2 * L.length - 1 + 1) with k | k
    · exact ⟨i, k, by rw [val i (by omega), he]⟩
    · have e2 : i = 2 * L.length := by omega
      refine ⟨0, by omega, ?_⟩
      rw [val 0 (by omega), ← zero, ← e2, he]
  rcases h with ⟨h1, h2⟩ | ⟨h1, h2⟩
  · refine fin A.length (by omega) ?_
    rw [cor_lo x y L hlen, hA, hB, dotP_add, dotP_sub, dot_eq_spr n A h1, dot_eq_nspr n B h2, hsp]
    have e2 : dotP n (x, y) = n.1 * x + n.2 * y := rfl
    omega
  · refine fin (L.length + A.length) (by omega) ?_
    rw [cor_hi x y L hlen, hA, hB, dotP_add, dotP_sub, dot_eq_spr n B h2, dot_eq_nspr n A h1, hsp]
    have e2 : dotP n (x, y) = n.1 * x + n.2 * y := rfl
    omega
open Go.RowKit
theorem rcorners_c (H : AHeap) (x : Int) (y : Int) (s : AV) (l : List (Int × Int)) (hs : Sl H 2 s l.length (prs l)) (hl : l.length ≤ 40) (hB : ∀ e ∈ l, Bd 134217728 e) (hxy : -1099511627776 ≤ x ∧ x ≤ 1099511627776 ∧ -1099511627776 ≤ y ∧ y ≤ 1099511627776) : ACalls Tryz.prog 131 [.agg [.int .i64 x, .int .i64 y, s]] H (fun v H' => v = .sl (some (H.length, 0)) ((corR x y l).length) (capG (corR x y l).length) ∧ H' = H ++ [.cells (ownG (corR x y l).length) 2 (prs (corR x y l))]) := by
  obtain ⟨bs, os, cs, rfl, hbs⟩ := hs
  have hbls := getElem?_lt hbs
  have hb0s := fun l => get_app (l := l) hbs
  have hp0 : Bd 1200000000000 (cor0 x y l l.length) := by
      have h1 := cor0_bd (A := 1099511627776) (M := 134217728) hxy hB l.length (Nat.le_refl _)
      have h2 : ((l.length : Nat) : Int) * 134217728 ≤ 40 * 134217728 := by omega
      unfold Bd at *; omega
  refine AcT true Tryz.func131 ?_; intro hbel Q hQ
  have g'1 := (jn @hbs (jn @hb0s (jn @rem_nat @rem_nat1)))
  refine runTf g'1 ?_
  refine go_loop try_mixed (by kernel_rfl) (fun k F Hx => ∃ i : Nat, i + k = l.length ∧ F = [(1, .ptr (some (H.length, 0))), (3, .ptr (some (H.length + 1, 0))), (4, .int .i64 ((i : Nat) : Int))] ∧ Hx = H ++ [.cells true 0 [.int .i64 x, .int .i64 y, .sl (some (bs, 0)) l.length cs], .cells true 0 [.int .i64 ((cor0 x y l i).1), .int .i64 ((cor0 x y l i).2)]]) (l.length) ?_ ?_
  · refine ⟨_, _, _, ⟨0, by omega, rfl, rfl⟩, Abs.byG hbel [] rfl [0, 1] (by decide) ?_⟩
    exact absWf @cor0.eq_1
  · rintro k0 F Hx ⟨i, hm0, rfl, rfl⟩ J0 hJ0
    refine runTf g'1 ?_
    refine cond_split (fun h1 => ?_) (fun h1 => ?_)
    · have h1d := h1
      try simp only [Bool.not_eq_true', Bool.not_eq_false', decide_eq_true_eq, decide_eq_false_iff_not, beq_iff_eq, bne_iff_ne, ne_eq, Bool.not_eq_true, Bool.not_eq_false, beq_eq_false_iff_ne, bne_eq_false_iff_eq, Classical.not_not, Bool.and_eq_true, Bool.and_eq_false_imp] at h1d
      have hgi := gpb (i := i) hB (by omega)
      have hcb0 := cor0_bd (A := 1099511627776) (M := 134217728) hxy hB i (by omega)
      unfold Bd at hcb0
      have q2 := prs_at0 (l := l) (j := i) (by omega)
      have q3 := prs_at1 (l := l) (j := i) (by omega)
      have g'2 := (jn @h1 (jn @h1d (jn @q2 (jn @q3 g'1))))
      refine runTf g'2 ?_
      refine hJ0 _ _ ⟨k0 - 1, by omega, _, _, _, ⟨i + 1, by omega, rfl, rfl⟩, Abs.byG hbel [] rfl [0, 1] (by decide) ?_⟩
      exact absWf @cor0.eq_2
    · have h1d := h1
      try simp only [Bool.not_eq_true', Bool.not_eq_false', decide_eq_true_eq, decide_eq_false_iff_not, beq_iff_eq, bne_iff_ne, ne_eq, Bool.not_eq_true, Bool.not_eq_false, beq_eq_false_iff_ne, bne_eq_false_iff_eq, Classical.not_not, Bool.and_eq_true, Bool.and_eq_false_imp] at h1d
      have hIl : i = l.length := by omega
      subst hIl
      have g'3 := (jn @h1 (jn @h1d g'1))
      refine runTf g'3 ?_
      refine go_loop try_mixed (by kernel_rfl) (fun k F Hx => ∃ i : Nat, i + k = 2 * l.length - 1 ∧ F = [(1, .ptr (some (H.length, 0))), (3, .ptr (some (H.length + 1, 0))), (5, .sl (some (H.length + 2, 0)) ((rco l (cor0 x y l l.length) i).length) (capG (rco l (cor0 x y l l.length) i).length)), (6, .int .i64 ((i : Nat) : Int))] ∧ Hx = H ++ [.cells true 0 [.int .i64 x, .int .i64 y, .sl (some (bs, 0)) l.length cs], .cells true 0 [.int .i64 ((rcp l (cor0 x y l l.length) i).1), .int .i64 ((rcp l (cor0 x y l l.length) i).2)], .cells (ownG (rco l (cor0 x y l l.length) i).length) 2 (prs (rco l (cor0 x y l l.length) i))]) (2 * l.length - 1) ?_ ?_
      · refine ⟨_, _, _, ⟨0, by omega, rfl, rfl⟩, Abs.byG hbel [] rfl [0, 1, 2] (by decide) ?_⟩
        exact absRf (jn @rco.eq_1 @rcp.eq_1)
      · rintro k1 F Hx ⟨i, hm1, rfl, rfl⟩ J1 hJ1
        have g'4 := (jn @prs_len (jn @prs_one g'3))
        refine runTf g'4 ?_
        refine cond_split (fun h4 => ?_) (fun h4 => ?_)
        · have h4d := h4
          try simp only [Bool.not_eq_true', Bool.not_eq_false', decide_eq_true_eq, decide_eq_false_iff_not, beq_iff_eq, bne_iff_ne, ne_eq, Bool.not_eq_true, Bool.not_eq_false, beq_eq_false_iff_ne, bne_eq_false_iff_eq, Classical.not_not, Bool.and_eq_true, Bool.and_eq_false_imp] at h4d
          have hmod : i % l.length < l.length := Nat.mod_lt _ (by omega)
          have hgm := gpb (i := i % l.length) hB hmod
          have hrb := rcp_bd hp0 hB (by omega) i
          have hrl := rco_len l (cor0 x y l l.length) i
          unfold Bd at hrb
          have q5 := prs_load (l := l) (j := i % l.length) (by omega)
          have g'5 := (jn @h4 (jn @h4d (jn @q5 g'4)))
          refine runTf g'5 ?_
          refine cond_split (fun h6 => ?_) (fun h6 => ?_)
          · have h6d := h6
            try simp only [Bool.not_eq_true', Bool.not_eq_false', decide_eq_true_eq, decide_eq_false_iff_not, beq_iff_eq, bne_iff_ne, ne_eq, Bool.not_eq_true, Bool.not_eq_false, beq_eq_false_iff_ne, bne_eq_false_iff_eq, Classical.not_not, Bool.and_eq_true, Bool.and_eq_false_imp] at h6d
            have hst : stp l i = (-g1 l (i % l.length), -g2 l (i % l.length)) := if_pos (by omega)
            have g'6 := (jn @h6 (jn @h6d (jn @capG_s g'5)))
            refine runTf g'6 ?_
            refine hJ1 _ _ ⟨k1 - 1, by omega, _, _, _, ⟨i + 1, by omega, rfl, rfl⟩, Abs.byG hbel [] rfl [0, 1, 5] (by decide) ?_⟩
            exact absRf (jn @rco.eq_2 (jn @rcp.eq_2 (jn @hst @Int.zero_sub)))
          · have h6d := h6
            try simp only [Bool.not_eq_true', Bool.not_eq_false', decide_eq_true_eq, decide_eq_false_iff_not, beq_iff_eq, bne_iff_ne, ne_eq, Bool.not_eq_true, Bool.not_eq_false, beq_eq_false_iff_ne, bne_eq_false_iff_eq, Classical.not_not, Bool.and_eq_true, Bool.and_eq_false_imp] at h6d
            have hst : stp l i = (g1 l (i % l.length), g2 l (i % l.length)) := if_neg (by omega)
            have g'7 := (jn @h6 (jn @h6d (jn @capG_s g'5)))
            refine runTf g'7 ?_
            refine hJ1 _ _ ⟨k1 - 1, by omega, _, _, _, ⟨i + 1, by omega, rfl, rfl⟩, Abs.byG hbel [] rfl [0, 1, 5] (by decide) ?_⟩
            exact absRf (jn @rco.eq_2 (jn @rcp.eq_2 (jn @hst @Int.zero_sub)))
        · have h4d := h4
          try simp only [Bool.not_eq_true', Bool.not_eq_false', decide_eq_true_eq, decide_eq_false_iff_not, beq_iff_eq, bne_iff_ne, ne_eq, Bool.not_eq_true, Bool.not_eq_false, beq_eq_false_iff_ne, bne_eq_false_iff_eq, Classical.not_not, Bool.and_eq_true, Bool.and_eq_false_imp] at h4d
          have hfin : i = 2 * l.length - 1 := by omega
          have g'8 := (jn @h4 (jn @h4d g'4))
          refine runTf g'8 ?_
          refine hQ _ _ (end_byG (.inl rfl) hbel (x1 := .sl (some (H.length + 2, 0)) ((rco l (cor0 x y l l.length) i).length) (capG (rco l (cor0 x y l l.length) i).length)) (l2 := [.cells (ownG (rco l (cor0 x y l l.length) i).length) 2 (prs (rco l (cor0 x y l l.length) i))]) (.sl (some (H.length, 0)) ((rco l (cor0 x y l l.length) i).length) (capG (rco l (cor0 x y l l.length) i).length)) (resT Tryz.results131) [] rfl [2] (by decide) ⟨by simp [corR, h1d, h4d, hfin], by simp [corR, h1d, h4d, hfin]⟩ ?_)
          exact absW
/-- The corners of any zonogon, by the reference. -/
def corV (x y : Int) (l : List Pt) : List Pt := if validB x y l = true then corR x y (canonL l) else []
theorem rCorners_c (H : AHeap) (x : Int) (y : Int) (s : AV) (l : List (Int × Int)) (hs : Sl H 2 s l.length (prs l)) (hl : l.length ≤ 1000000) : ACalls Tryz.prog 119 [.agg [.int .i64 x, .int .i64 y, s]] H (fun v H' => v = .sl (some (H.length, 0)) ((corV x y l).length) (capG (corV x y l).length) ∧ H' = H ++ [.cells (ownG (corV x y l).length) 2 (prs (corV x y l))]) := by
  obtain ⟨bs, os, cs, rfl, hbs⟩ := hs
  have hbls := getElem?_lt hbs
  have hb0s := fun l => get_app (l := l) hbs
  refine AcT true Tryz.func119 ?_; intro hbel Q hQ
  have g'9 := (jn @hbs @hb0s)
  refine runTf g'9 ?_
  refine call_v (by kernel_rfl) (rvalid_c _ x y _ l (.inr ⟨_, _, _, rfl, by first | exact hb0s _ | exact hbs⟩) (by omega)) ?_
  refine runTf g'9 ?_
  refine cond_split (fun h1 => ?_) (fun h1 => ?_)
  · have h1d := h1
    try simp only [Bool.not_eq_true', Bool.not_eq_false', decide_eq_true_eq, decide_eq_false_iff_not, beq_iff_eq, bne_iff_ne, ne_eq, Bool.not_eq_true, Bool.not_eq_false, beq_eq_false_iff_ne, bne_eq_false_iff_eq, Classical.not_not, Bool.and_eq_true, Bool.and_eq_false_imp] at h1d
    have g'10 := (jn @h1 (jn @h1d g'9))
    refine runTf g'10 ?_
    refine hQ _ _ (end_byG (.inl rfl) hbel (x1 := .sl none 0 (some 0)) (l2 := [.cells false 2 []]) (.sl (some (H.length, 0)) 0 (some 0)) (resT Tryz.results119) [.cells false 2 []] rfl [1] (by decide) ⟨by simp [corV, capG_0, ownG_0, prs_nil, h1d], by simp [corV, capG_0, ownG_0, prs_nil, h1d]⟩ ?_)
    exact absW
  · have h1d := h1
    try simp only [Bool.not_eq_true', Bool.not_eq_false', decide_eq_true_eq, decide_eq_false_iff_not, beq_iff_eq, bne_iff_ne, ne_eq, Bool.not_eq_true, Bool.not_eq_false, beq_eq_false_iff_ne, bne_eq_false_iff_eq, Classical.not_not, Bool.and_eq_true, Bool.and_eq_false_imp] at h1d
    obtain ⟨hl16, hlB⟩ := valid_bd h1d
    have hxy := valid_bd3 h1d
    have hB2 : ∀ e ∈ l, Bd 268435456 e := fun e he => by have := hlB e he; unfold Bd at *; omega
    have hB4 : ∀ e ∈ l, Bd 4194304 e := fun e he => by have := hlB e he; unfold Bd at *; omega
    have hcb := canon_bd16 hl16 hlB
    have hcl := canonL_len l
    have hc27 : ∀ e ∈ canonL l, Bd 134217728 e := fun e he => by have := hcb e he; unfold Bd at *; omega
    have g'11 := (jn @h1 (jn @h1d g'9))
    refine runTf g'11 ?_
    refine call_v (by kernel_rfl) (rcanon_u _ x y _ l (.inr ⟨_, _, _, rfl, by first | exact hb0s _ | exact hbs⟩) (by first | omega | (simp only [List.length_cons, List.length_nil]; omega) | exact Nat.le_trans (mkL_len _ _) (by first | omega | simp) | exact Nat.le_trans (vL_len _ _) (by first | omega | simp) | exact Nat.le_trans corV_len (by omega) | exact Nat.le_trans (canonL_len _) (by first | omega | simp)) (by assumption)) ?_
    refine runTf g'11 ?_
    refine call_v (by kernel_rfl) (rcorners_c _ x y _ (canonL l) ⟨_, _, _, by first | rfl | (rw [List.length_append]; rfl), by first | rfl | (rw [get_newk]; rfl) | (rw [get_new0]; rfl) | (rw [get_newk, prs_append]; rfl) | (rw [get_new0, prs_append]; rfl)⟩ (by first | omega | (simp only [List.length_cons, List.length_nil]; omega) | exact Nat.le_trans (mkL_len _ _) (by first | omega | simp) | exact Nat.le_trans (vL_len _ _) (by first | omega | simp) | exact Nat.le_trans corV_len (by omega) | exact Nat.le_trans (canonL_len _) (by first | omega | simp)) (by assumption) (by omega)) ?_
    refine runTf g'11 ?_
    refine hQ _ _ (end_byG (.inl rfl) hbel (x1 := .sl (some (H.length + 2, 0)) ((corR x y (canonL l)).length) (capG (corR x y (canonL l)).length)) (l2 := [.cells (ownG (corR x y (canonL l)).length) 2 (prs (corR x y (canonL l)))]) (.sl (some (H.length, 0)) ((corR x y (canonL l)).length) (capG (corR x y (canonL l)).length)) (resT Tryz.results119) [] rfl [2] (by decide) ⟨by simp [corV, capG_0, ownG_0, prs_nil, h1d], by simp [corV, capG_0, ownG_0, prs_nil, h1d]⟩ ?_)
    exact absW
theorem rin_c (H : AHeap) (s : AV) (l : List (Int × Int)) (px : Int) (py : Int) (hs : Sl H 2 s l.length (prs l)) (hl : l.length ≤ 1000000) (hB : ∀ e ∈ l, Bd 60000000 e) (hp : -60000000 ≤ px ∧ px ≤ 60000000 ∧ -60000000 ≤ py ∧ py ≤ 60000000) : ACalls Tryz.prog 130 [s, .agg [.int .i64 px, .int .i64 py]] H (fun v H' => v = .bool (inR l (px, py) l.length) ∧ H' = H) := by
  obtain ⟨bs, os, cs, rfl, hbs⟩ := hs
  have hbls := getElem?_lt hbs
  have hb0s := fun l => get_app (l := l) hbs
  refine AcT true Tryz.func130 ?_; intro hbel Q hQ
  have g'12 := (jn @hbs (jn @hb0s (jn @rem_nat @rem_nat1)))
  refine runTf g'12 ?_
  refine go_loop try_mixed (by kernel_rfl) (fun k F Hx => ∃ i : Nat, i + k = l.length ∧ inR l (px, py) i = true ∧ F = [(0, .sl (some (bs, 0)) l.length cs), (3, .ptr (some (H.length, 0))), (5, .int .i64 ((i : Nat) : Int))] ∧ Hx = H ++ [.cells true 0 [.int .i64 px, .int .i64 py]]) (l.length) ?_ ?_
  · refine ⟨_, _, _, ⟨0, by omega, rfl, rfl, rfl⟩, Abs.byG hbel [] rfl [0] (by decide) ?_⟩
    exact absW
  · rintro k0 F Hx ⟨i, hm0, hin, rfl, rfl⟩ J0 hJ0
    refine runTf g'12 ?_
    refine cond_split (fun h1 => ?_) (fun h1 => ?_)
    · have h1d := h1
      try simp only [Bool.not_eq_true', Bool.not_eq_false', decide_eq_true_eq, decide_eq_false_iff_not, beq_iff_eq, bne_iff_ne, ne_eq, Bool.not_eq_true, Bool.not_eq_false, beq_eq_false_iff_ne, bne_eq_false_iff_eq, Classical.not_not, Bool.and_eq_true, Bool.and_eq_false_imp] at h1d
      have hmod : (i + 1) % l.length < l.length := Nat.mod_lt _ (by omega)
      have hgi := gpb (i := i) hB (by omega)
      have hgm := gpb (i := (i + 1) % l.length) hB hmod
      have hcr := crs_bd (a := (g1 l ((i + 1) % l.length) - g1 l i, g2 l ((i + 1) % l.length) - g2 l i)) (b := (px - g1 l i, py - g2 l i)) (A := 120000000) (B := 120000000) (by first | assumption | (unfold Bd; simp only; omega) | (unfold Bd at *; simp only at *; omega) | (unfold Bd; simp; omega) | (unfold Bd; simp)) (by first | assumption | (unfold Bd; simp only; omega) | (unfold Bd at *; simp only at *; omega) | (unfold Bd; simp; omega) | (unfold Bd; simp))
      have hpm1 := mul_bd (a := g1 l ((i + 1) % l.length) - g1 l i) (b := px - g1 l i) (A := 120000000) (B := 120000000) (by omega) (by omega)
      have hpm2 := mul_bd (a := g2 l ((i + 1) % l.length) - g2 l i) (b := py - g2 l i) (A := 120000000) (B := 120000000) (by omega) (by omega)
      have q2 := prs_load (l := l) (j := i) (by omega)
      have q3 := prs_load (l := l) (j := (i + 1) % l.length) (by omega)
      have g'13 := (jn @h1 (jn @h1d (jn @q2 (jn @q3 g'12))))
      refine runTf g'13 ?_
      refine call_v (by kernel_rfl) (rcross_c _ ((g1 l ((i + 1) % l.length)) - (g1 l i), (g2 l ((i + 1) % l.length)) - (g2 l i)) (px - (g1 l i), py - (g2 l i)) (by first | assumption | (unfold Bd; simp only; omega) | (unfold Bd at *; simp only at *; omega) | (unfold Bd; simp; omega) | (unfold Bd; simp)) (by first | assumption | (unfold Bd; simp only; omega) | (unfold Bd at *; simp only at *; omega) | (unfold Bd; simp; omega) | (unfold Bd; simp))) ?_
      refine runTf g'13 ?_
      refine cond_split (fun h4 => ?_) (fun h4 => ?_)
      · have h4d := h4
        try simp only [Bool.not_eq_true', Bool.not_eq_false', decide_eq_true_eq, decide_eq_false_iff_not, beq_iff_eq, bne_iff_ne, ne_eq, Bool.not_eq_true, Bool.not_eq_false, beq_eq_false_iff_ne, bne_eq_false_iff_eq, Classical.not_not, Bool.and_eq_true, Bool.and_eq_false_imp] at h4d
        have g'14 := (jn @h4 (jn @h4d g'13))
        refine runTf g'14 ?_
        exact hQ _ _ (end_plain (.inl rfl) hbel (x := .bool false) (resT Tryz.results130) rfl ⟨by first | exact congrArg AV.bool hfin.symm | exact congrArg AV.bool (inR_false (l := l) (p := (px, py)) (i := i) (by first | (simp [inT, h1d, h4d]; done) | (simp [inT, h1d, h4d]; assumption) | simp_all [inT]) l.length (by omega)).symm, rfl⟩)
      · have h4d := h4
        try simp only [Bool.not_eq_true', Bool.not_eq_false', decide_eq_true_eq, decide_eq_false_iff_not, beq_iff_eq, bne_iff_ne, ne_eq, Bool.not_eq_true, Bool.not_eq_false, beq_eq_false_iff_ne, bne_eq_false_iff_eq, Classical.not_not, Bool.and_eq_true, Bool.and_eq_false_imp] at h4d
        have g'15 := (jn @h4 (jn @h4d g'13))
        refine runTf g'15 ?_
        refine gd_split (fun h5 => ?_) (fun h5 => ?_)
        · have h5d := h5
          try simp only [Bool.not_eq_true', Bool.not_eq_false', decide_eq_true_eq, decide_eq_false_iff_not, beq_iff_eq, bne_iff_ne, ne_eq, Bool.not_eq_true, Bool.not_eq_false, beq_eq_false_iff_ne, bne_eq_false_iff_eq, Classical.not_not, Bool.and_eq_true, Bool.and_eq_false_imp] at h5d
          have g'16 := (jn @h5 (jn @h5d g'15))
          refine runTf g'16 ?_
          refine call_v (by kernel_rfl) (rcross_c _ ((g1 l ((i + 1) % l.length)) - (g1 l i), (g2 l ((i + 1) % l.length)) - (g2 l i)) (px - (g1 l i), py - (g2 l i)) (by first | assumption | (unfold Bd; simp only; omega) | (unfold Bd at *; simp only at *; omega) | (unfold Bd; simp; omega) | (unfold Bd; simp)) (by first | assumption | (unfold Bd; simp only; omega) | (unfold Bd at *; simp only at *; omega) | (unfold Bd; simp; omega) | (unfold Bd; simp))) ?_
          refine runTf g'16 ?_
          refine gd_split (fun h6 => ?_) (fun h6 => ?_)
          · have h6d := h6
            try simp only [Bool.not_eq_true', Bool.not_eq_false', decide_eq_true_eq, decide_eq_false_iff_not, beq_iff_eq, bne_iff_ne, ne_eq, Bool.not_eq_true, Bool.not_eq_false, beq_eq_false_iff_ne, bne_eq_false_iff_eq, Classical.not_not, Bool.and_eq_true, Bool.and_eq_false_imp] at h6d
            have g'17 := (jn @h6 (jn @h6d (jn @int_bne (jn @int_beq g'16))))
            refine runTf g'17 ?_
            refine gd_split (fun h7 => ?_) (fun h7 => ?_)
            · have h7d := h7
              try simp only [Bool.not_eq_true', Bool.not_eq_false', decide_eq_true_eq, decide_eq_false_iff_not, beq_iff_eq, bne_iff_ne, ne_eq, Bool.not_eq_true, Bool.not_eq_false, beq_eq_false_iff_ne, bne_eq_false_iff_eq, Classical.not_not, Bool.and_eq_true, Bool.and_eq_false_imp] at h7d
              have g'18 := (jn @h7 (jn @h7d g'17))
              refine runTf g'18 ?_
              refine gd_split (fun h8 => ?_) (fun h8 => ?_)
              · have h8d := h8
                try simp only [Bool.not_eq_true', Bool.not_eq_false', decide_eq_true_eq, decide_eq_false_iff_not, beq_iff_eq, bne_iff_ne, ne_eq, Bool.not_eq_true, Bool.not_eq_false, beq_eq_false_iff_ne, bne_eq_false_iff_eq, Classical.not_not, Bool.and_eq_true, Bool.and_eq_false_imp] at h8d
                have g'19 := (jn @h8 (jn @h8d g'18))
                refine runTf g'19 ?_
                refine cond_split (fun h9 => ?_) (fun h9 => ?_)
                · have h9d := h9
                  try simp only [Bool.not_eq_true', Bool.not_eq_false', decide_eq_true_eq, decide_eq_false_iff_not, beq_iff_eq, bne_iff_ne, ne_eq, Bool.not_eq_true, Bool.not_eq_false, beq_eq_false_iff_ne, bne_eq_false_iff_eq, Classical.not_not, Bool.and_eq_true, Bool.and_eq_false_imp] at h9d
                  have g'20 := (jn @h9 (jn @h9d g'19))
                  refine runTf g'20 ?_
                  exact hQ _ _ (end_plain (.inl rfl) hbel (x := .bool false) (resT Tryz.results130) rfl ⟨by first | exact congrArg AV.bool hfin.symm | exact congrArg AV.bool (inR_false (l := l) (p := (px, py)) (i := i) (by first | (simp [inT, h1d, h4d, h5d, h6d, h7d, h8d, h9d]; done) | (simp [inT, h1d, h4d, h5d, h6d, h7d, h8d, h9d]; assumption) | simp_all [inT]) l.length (by omega)).symm, rfl⟩)
                · have h9d := h9
                  try simp only [Bool.not_eq_true', Bool.not_eq_false', decide_eq_true_eq, decide_eq_false_iff_not, beq_iff_eq, bne_iff_ne, ne_eq, Bool.not_eq_true, Bool.not_eq_false, beq_eq_false_iff_ne, bne_eq_false_iff_eq, Classical.not_not, Bool.and_eq_true, Bool.and_eq_false_imp] at h9d
                  have g'21 := (jn @h9 (jn @h9d g'19))
                  refine runTf g'21 ?_
                  refine hJ0 _ _ ⟨k0 - 1, by omega, _, _, _, ⟨i + 1, by omega, by first | (simp [inR, hin, inT, h1d, h4d, h5d, h6d, h7d, h8d, h9d]; done) | (simp [inR, hin, inT, h1d, h4d, h5d, h6d, h7d, h8d, h9d]; assumption) | simp_all [inR, inT], rfl, rfl⟩, Abs.byG hbel [] rfl [0] (by decide) ?_⟩
                  exact absWf (jn @h6d (jn @h8d @h9d))
              · have h8d := h8
                try simp only [Bool.not_eq_true', Bool.not_eq_false', decide_eq_true_eq, decide_eq_false_iff_not, beq_iff_eq, bne_iff_ne, ne_eq, Bool.not_eq_true, Bool.not_eq_false, beq_eq_false_iff_ne, bne_eq_false_iff_eq, Classical.not_not, Bool.and_eq_true, Bool.and_eq_false_imp] at h8d
                have g'22 := (jn @h8 (jn @h8d g'18))
                refine runTf g'22 ?_
                refine hJ0 _ _ ⟨k0 - 1, by omega, _, _, _, ⟨i + 1, by omega, by first | (simp [inR, hin, inT, h1d, h4d, h5d, h6d, h7d, h8d]; done) | (simp [inR, hin, inT, h1d, h4d, h5d, h6d, h7d, h8d]; assumption) | simp_all [inR, inT], rfl, rfl⟩, Abs.byG hbel [] rfl [0] (by decide) ?_⟩
                exact absWf (jn @h6d @h8d)
            · have h7d := h7
              try simp only [Bool.not_eq_true', Bool.not_eq_false', decide_eq_true_eq, decide_eq_false_iff_not, beq_iff_eq, bne_iff_ne, ne_eq, Bool.not_eq_true, Bool.not_eq_false, beq_eq_false_iff_ne, bne_eq_false_iff_eq, Classical.not_not, Bool.and_eq_true, Bool.and_eq_false_imp] at h7d
              have g'23 := (jn @h7 (jn @h7d g'17))
              refine runTf g'23 ?_
              exact hQ _ _ (end_plain (.inl rfl) hbel (x := .bool false) (resT Tryz.results130) rfl ⟨by first | exact congrArg AV.bool hfin.symm | exact congrArg AV.bool (inR_false (l := l) (p := (px, py)) (i := i) (by first | (simp [inT, h1d, h4d, h5d, h6d, h7d]; done) | (simp [inT, h1d, h4d, h5d, h6d, h7d]; assumption) | simp_all [inT]) l.length (by omega)).symm, rfl⟩)
          · have h6d := h6
            try simp only [Bool.not_eq_true', Bool.not_eq_false', decide_eq_true_eq, decide_eq_false_iff_not, beq_iff_eq, bne_iff_ne, ne_eq, Bool.not_eq_true, Bool.not_eq_false, beq_eq_false_iff_ne, bne_eq_false_iff_eq, Classical.not_not, Bool.and_eq_true, Bool.and_eq_false_imp] at h6d
            have g'24 := (jn @h6 (jn @h6d (jn @int_bne (jn @int_beq g'16))))
            refine runTf g'24 ?_
            exact hQ _ _ (end_plain (.inl rfl) hbel (x := .bool false) (resT Tryz.results130) rfl ⟨by first | exact congrArg AV.bool hfin.symm | exact congrArg AV.bool (inR_false (l := l) (p := (px, py)) (i := i) (by first | (simp [inT, h1d, h4d, h5d, h6d]; done) | (simp [inT, h1d, h4d, h5d, h6d]; assumption) | simp_all [inT]) l.length (by omega)).symm, rfl⟩)
        · have h5d := h5
          try simp only [Bool.not_eq_true', Bool.not_eq_false', decide_eq_true_eq, decide_eq_false_iff_not, beq_iff_eq, bne_iff_ne, ne_eq, Bool.not_eq_true, Bool.not_eq_false, beq_eq_false_iff_ne, bne_eq_false_iff_eq, Classical.not_not, Bool.and_eq_true, Bool.and_eq_false_imp] at h5d
          have g'25 := (jn @h5 (jn @h5d g'15))
          refine runTf g'25 ?_
          refine hJ0 _ _ ⟨k0 - 1, by omega, _, _, _, ⟨i + 1, by omega, by first | (simp [inR, hin, inT, h1d, h4d, h5d]; done) | (simp [inR, hin, inT, h1d, h4d, h5d]; assumption) | simp_all [inR, inT], rfl, rfl⟩, Abs.byG hbel [] rfl [0] (by decide) ?_⟩
          exact absW
    · have h1d := h1
      try simp only [Bool.not_eq_true', Bool.not_eq_false', decide_eq_true_eq, decide_eq_false_iff_not, beq_iff_eq, bne_iff_ne, ne_eq, Bool.not_eq_true, Bool.not_eq_false, beq_eq_false_iff_ne, bne_eq_false_iff_eq, Classical.not_not, Bool.and_eq_true, Bool.and_eq_false_imp] at h1d
      have hiL : i = l.length := by omega
      have hfin : inR l (px, py) l.length = true := by rw [← hiL]; exact hin
      have g'26 := (jn @h1 (jn @h1d g'12))
      refine runTf g'26 ?_
      exact hQ _ _ (end_plain (.inl rfl) hbel (x := .bool true) (resT Tryz.results130) rfl ⟨by first | exact congrArg AV.bool hfin.symm | exact congrArg AV.bool (inR_false (l := l) (p := (px, py)) (i := i) (by first | (simp [inT, h1d, hfin]; done) | (simp [inT, h1d, hfin]; assumption) | simp_all [inT]) l.length (by omega)).symm, rfl⟩)
open Go.RowKit
theorem spr_axis {n : Pt} (hn : n = (1, 0) ∨ n = (0, 1)) : ∀ l : List Pt, (∀ e ∈ l, Bd 65536 e) → spr n l ≤ l.length * 65536
  | [], _ => by simp [spr]
  | g :: l, h => by
    have ih := spr_axis hn l fun e he => h e (by simp [he])
    have hg := h g (by simp)
    have : absI (dotP n g) ≤ 65536 := by
      rw [absI_le]
      unfold Bd at hg
      rcases hn with rfl | rfl <;> (unfold dotP; simp only; omega)
    rw [spr_cons, List.length_cons, Int.natCast_add]
    simp only [Int.natCast_one]
    omega
theorem in_bd {x y : Int} {l : List Pt} (hv : validB x y l = true) {p : Pt} (h : inZ l (psub p (x, y))) : Bd 9437184 p := by
  obtain ⟨hl16, hlB⟩ := valid_bd hv
  have hxy := valid_bd3 hv
  have a1 := h.abs (1, 0)
  have a2 := h.abs (0, 1)
  rw [absI_le] at a1 a2
  have b1 := spr_axis (.inl rfl) l hlB
  have b2 := spr_axis (.inr rfl) l hlB
  have c : ((l.length : Nat) : Int) * 65536 ≤ 16 * 65536 := Int.mul_le_mul_of_nonneg_right (by omega) (by decide)
  unfold dotP psub at a1 a2
  simp only at a1 a2
  unfold Bd
  omega
theorem corR_bd {x y : Int} {l : List Pt} (hv : validB x y l = true) : ∀ e ∈ corR x y (canonL l), Bd 9437184 e := fun e he => by
  obtain ⟨i, hi, rfl⟩ := List.getElem_of_mem he
  refine in_bd hv (inZ_canon.1 ?_)
  rw [corR_len] at hi
  have := cor_in x y (canonL l) hi
  rwa [gp_eq (by rw [corR_len]; exact hi)] at this
theorem corV_pos {x y : Int} {l : List Pt} (hv : validB x y l = true) : corV x y l = corR x y (canonL l) := if_pos hv
open Go.RowKit
theorem rCorners_v (H : AHeap) (x y : Int) (s : AV) (l : List Pt) (hs : SlP H s l) (hl : l.length ≤ 1000000) (hv : validB x y l = true) : ACalls Tryz.prog 119 [.agg [.int .i64 x, .int .i64 y, s]] H (fun v H' => v = .sl (some (H.length, 0)) (corR x y (canonL l)).length (capG (corR x y (canonL l)).length) ∧ H' = H ++ [.cells (ownG (corR x y (canonL l)).length) 2 (prs (corR x y (canonL l)))]) := by
  have h := rCorners_c H x y s l hs hl
  rwa [corV_pos hv] at h
theorem rsupport_c (H : AHeap) (x : Int) (y : Int) (s : AV) (l : List (Int × Int)) (nx : Int) (ny : Int) (hs : Sl H 2 s l.length (prs l)) (hl : l.length ≤ 1000000) : ACalls Tryz.prog 63 [.agg [.int .i64 x, .int .i64 y, s], .agg [.int .i64 nx, .int .i64 ny]] H (fun v H' => v = .int .i64 (supI x y l nx ny) ∧ H' = H) := by
  obtain ⟨bs, os, cs, rfl, hbs⟩ := hs
  have hbls := getElem?_lt hbs
  have hb0s := fun l => get_app (l := l) hbs
  refine AcT true Tryz.func63 ?_; intro hbel Q hQ
  have g'1 := (jn @hbs @hb0s)
  refine runTf g'1 ?_
  refine call_v (by kernel_rfl) (rvalid_c _ x y _ l (.inr ⟨_, _, _, rfl, by first | exact hb0s _ | exact hbs⟩) (by omega)) ?_
  refine runTf g'1 ?_
  refine gd_split (fun h1 => ?_) (fun h1 => ?_)
  · have h1d := h1
    try simp only [Bool.not_eq_true', Bool.not_eq_false', decide_eq_true_eq, decide_eq_false_iff_not, beq_iff_eq, bne_iff_ne, ne_eq, Bool.not_eq_true, Bool.not_eq_false, beq_eq_false_iff_ne, bne_eq_false_iff_eq, Classical.not_not, Bool.and_eq_true, Bool.and_eq_false_imp] at h1d
    have g'2 := (jn @h1 (jn @h1d g'1))
    refine runTf g'2 ?_
    refine call_v (by kernel_rfl) (rwithin_c _ _ _ (by decide)) ?_
    refine runTf g'2 ?_
    refine gd_split (fun h2 => ?_) (fun h2 => ?_)
    · have h2d := h2
      try simp only [Bool.not_eq_true', Bool.not_eq_false', decide_eq_true_eq, decide_eq_false_iff_not, beq_iff_eq, bne_iff_ne, ne_eq, Bool.not_eq_true, Bool.not_eq_false, beq_eq_false_iff_ne, bne_eq_false_iff_eq, Classical.not_not, Bool.and_eq_true, Bool.and_eq_false_imp] at h2d
      have g'3 := (jn @h2 (jn @h2d g'2))
      refine runTf g'3 ?_
      refine call_v (by kernel_rfl) (rwithin_c _ _ _ (by decide)) ?_
      refine runTf g'3 ?_
      refine cond_split (fun h3 => ?_) (fun h3 => ?_)
      · have h3d := h3
        try simp only [Bool.not_eq_true', Bool.not_eq_false', decide_eq_true_eq, decide_eq_false_iff_not, beq_iff_eq, bne_iff_ne, ne_eq, Bool.not_eq_true, Bool.not_eq_false, beq_eq_false_iff_ne, bne_eq_false_iff_eq, Classical.not_not, Bool.and_eq_true, Bool.and_eq_false_imp] at h3d
        have g'4 := (jn @h3 (jn @h3d g'3))
        refine runTf g'4 ?_
        exact hQ _ _ (end_plain (.inl rfl) hbel (x := .int .i64 0) (resT Tryz.results63) rfl ⟨by first | (simp [supI, h1d, h2d, h3d]; done) | (rw [hfin]; simp [supI, h1d, h2d, h3d]), rfl⟩)
      · have h3d := h3
        try simp only [Bool.not_eq_true', Bool.not_eq_false', decide_eq_true_eq, decide_eq_false_iff_not, beq_iff_eq, bne_iff_ne, ne_eq, Bool.not_eq_true, Bool.not_eq_false, beq_eq_false_iff_ne, bne_eq_false_iff_eq, Classical.not_not, Bool.and_eq_true, Bool.and_eq_false_imp] at h3d
        have g'5 := (jn @h3 (jn @h3d g'3))
        refine runTf g'5 ?_
        obtain ⟨hl16, hlB⟩ := valid_bd h1d
        have hcl := canonL_len l
        have w2 := h2d
        have w3 := h3d
        simp only [within_iff] at w2 w3
        have hC := corR_bd h1d
        have hCl := corR_len x y (canonL l)
        have hg0 := gpb (i := 0) hC (by omega)
        have hp01 := mul_bd (a := nx) (b := g1 (corR x y (canonL l)) 0) (A := 65536) (B := 9437184) (by omega) (by omega)
        have hp02 := mul_bd (a := ny) (b := g2 (corR x y (canonL l)) 0) (A := 65536) (B := 9437184) (by omega) (by omega)
        refine call_v (by kernel_rfl) (rCorners_v _ x y _ l ⟨_, _, _, rfl, by first | exact hb0s _ | exact hbs⟩ (by first | omega | (simp only [List.length_cons, List.length_nil]; omega) | exact Nat.le_trans (mkL_len _ _) (by first | omega | simp) | exact Nat.le_trans (vL_len _ _) (by first | omega | simp) | exact Nat.le_trans corV_len (by omega) | exact Nat.le_trans (canonL_len _) (by first | omega | simp)) (by assumption)) ?_
        have q4 := prs_at0 (l := corR x y (canonL l)) (j := 0) (by omega)
        have q5 := prs_at1 (l := corR x y (canonL l)) (j := 0) (by omega)
        have g'6 := (jn @q4 (jn @q5 g'5))
        refine runTf g'6 ?_
        refine go_loop try_mixed (by kernel_rfl) (fun k F Hx => ∃ i : Nat, i + k = (corR x y (canonL l)).length ∧ F = [(3, .ptr (some (H.length, 0))), (5, .sl (some (H.length + 1, 0)) ((corR x y (canonL l)).length) (capG (corR x y (canonL l)).length)), (6, .int .i64 (supR (nx, ny) (corR x y (canonL l)) i)), (7, .int .i64 ((i : Nat) : Int))] ∧ Hx = H ++ [.cells true 0 [.int .i64 nx, .int .i64 ny], .cells (ownG (corR x y (canonL l)).length) 2 (prs (corR x y (canonL l)))]) ((corR x y (canonL l)).length) ?_ ?_
        · refine ⟨_, _, _, ⟨0, by omega, rfl, rfl⟩, Abs.byG hbel [] rfl [1, 2] (by decide) ?_⟩
          exact absRf @supR.eq_1
        · rintro k0 F Hx ⟨i, hm0, rfl, rfl⟩ J0 hJ0
          have g'7 := (jn @prs_len (jn @prs_one g'6))
          refine runTf g'7 ?_
          refine cond_split (fun h6 => ?_) (fun h6 => ?_)
          · have h6d := h6
            try simp only [Bool.not_eq_true', Bool.not_eq_false', decide_eq_true_eq, decide_eq_false_iff_not, beq_iff_eq, bne_iff_ne, ne_eq, Bool.not_eq_true, Bool.not_eq_false, beq_eq_false_iff_ne, bne_eq_false_iff_eq, Classical.not_not, Bool.and_eq_true, Bool.and_eq_false_imp] at h6d
            have hgi := gpb (i := i) hC (by omega)
            have hp11 := mul_bd (a := nx) (b := g1 (corR x y (canonL l)) i) (A := 65536) (B := 9437184) (by omega) (by omega)
            have hp12 := mul_bd (a := ny) (b := g2 (corR x y (canonL l)) i) (A := 65536) (B := 9437184) (by omega) (by omega)
            have q7 := prs_at0 (l := corR x y (canonL l)) (j := i) (by omega)
            have q8 := prs_at1 (l := corR x y (canonL l)) (j := i) (by omega)
            have g'8 := (jn @h6 (jn @h6d (jn @q7 (jn @q8 g'7))))
            refine runTf g'8 ?_
            refine hJ0 _ _ ⟨k0 - 1, by omega, _, _, _, ⟨i + 1, by omega, rfl, rfl⟩, Abs.byG hbel [] rfl [0, 1] (by decide) ?_⟩
            exact absRf @supR.eq_2
          · have h6d := h6
            try simp only [Bool.not_eq_true', Bool.not_eq_false', decide_eq_true_eq, decide_eq_false_iff_not, beq_iff_eq, bne_iff_ne, ne_eq, Bool.not_eq_true, Bool.not_eq_false, beq_eq_false_iff_ne, bne_eq_false_iff_eq, Classical.not_not, Bool.and_eq_true, Bool.and_eq_false_imp] at h6d
            have hIl : i = (corR x y (canonL l)).length := by omega
            have hcan := canonL_can l
            have hfin : supR (nx, ny) (corR x y (canonL l)) i = nx * x + ny * y + spr (nx, ny) l := by rw [hIl, sup_eq hcan.sorted, spr_canon]
            have g'9 := (jn @h6 (jn @h6d g'7))
            refine runTf g'9 ?_
            exact hQ _ _ (end_plain (.inl rfl) hbel (x := .int .i64 (supR (nx, ny) (corR x y (canonL l)) i)) (resT Tryz.results63) rfl ⟨by first | (simp [supI, h1d, h2d, h3d, h6d, hfin]; done) | (rw [hfin]; simp [supI, h1d, h2d, h3d, h6d, hfin]), rfl⟩)
    · have h2d := h2
      try simp only [Bool.not_eq_true', Bool.not_eq_false', decide_eq_true_eq, decide_eq_false_iff_not, beq_iff_eq, bne_iff_ne, ne_eq, Bool.not_eq_true, Bool.not_eq_false, beq_eq_false_iff_ne, bne_eq_false_iff_eq, Classical.not_not, Bool.and_eq_true, Bool.and_eq_false_imp] at h2d
      have g'10 := (jn @h2 (jn @h2d g'2))
      refine runTf g'10 ?_
      exact hQ _ _ (end_plain (.inl rfl) hbel (x := .int .i64 0) (resT Tryz.results63) rfl ⟨by first | (simp [supI, h1d, h2d]; done) | (rw [hfin]; simp [supI, h1d, h2d]), rfl⟩)
  · have h1d := h1
    try simp only [Bool.not_eq_true', Bool.not_eq_false', decide_eq_true_eq, decide_eq_false_iff_not, beq_iff_eq, bne_iff_ne, ne_eq, Bool.not_eq_true, Bool.not_eq_false, beq_eq_false_iff_ne, bne_eq_false_iff_eq, Classical.not_not, Bool.and_eq_true, Bool.and_eq_false_imp] at h1d
    have g'11 := (jn @h1 (jn @h1d g'1))
    refine runTf g'11 ?_
    exact hQ _ _ (end_plain (.inl rfl) hbel (x := .int .i64 0) (resT Tryz.results63) rfl ⟨by first | (simp [supI, h1d]; done) | (rw [hfin]; simp [supI, h1d]), rfl⟩)
open Go.RowKit
open Go.RowKit
theorem clone_u (H : AHeap) (s : AV) (l : List Pt) (hs : SlP H s l) (hl : l.length ≤ 1000000) : ACalls Tryz.prog 124 [s] H (fun v H' => v = .sl (some (H.length, 0)) l.length (capG l.length) ∧ H' = H ++ [.cells (ownG l.length) 2 (prs l)]) := by
  rcases Nat.eq_zero_or_pos l.length with h0 | h0
  · obtain rfl : l = [] := List.eq_nil_of_length_eq_zero h0
    obtain ⟨b, own, cap, rfl, hb⟩ := hs
    exact cloneempty_c H b cap own hb
  · rw [capG_p h0, ownG_p h0]
    exact clone_c H s l (.inr hs) hl h0
theorem apart_c (H : AHeap) (x : Int) (y : Int) (s : AV) (l : List (Int × Int)) (x0 : Int) (y0 : Int) (x1 : Int) (y1 : Int) (hs : Sl H 2 s l.length (prs l)) : ACalls Tryz.prog 68 [.agg [.int .i64 x, .int .i64 y, s], .agg [.int .i64 x0, .int .i64 y0, .int .i64 x1, .int .i64 y1]] H (fun v H' => v = .bool (apartB x y l x0 y0 x1 y1) ∧ H' = H) := by
  obtain ⟨bs, os, cs, rfl, hbs⟩ := hs
  have hbls := getElem?_lt hbs
  have hb0s := fun l => get_app (l := l) hbs
  (refine ACalls_pieces Tryz.func68 _ rfl (Nat.le_of_ble_eq_true (by kernel_rfl)) rfl ?_; intro hbel Q hQ hQ' c hc; unfold Tryz.f68 at hc; simp only [Option.some.injEq] at hc; subst hc; clear hQ')
  refine AW_step false try_mixed (by kernel_rfl) (fun F Hx => look F 2 = .ptr (some (H.length, 0)) ∧ look F 3 = .ptr (some (H.length + 1, 0)) ∧ look F 4 = .bool false ∧ Hx = H ++ [.cells true 0 [.int .i64 x, .int .i64 y, .sl (some (bs, 0)) l.length cs], .cells true 0 [.int .i64 x0, .int .i64 y0, .int .i64 x1, .int .i64 y1]]) ?_ ?_
  · skip
    have g'1 := (jn @hbs @hb0s)
    refine runTf g'1 ?_
    refine inv_of ?_
    exact absT
  rintro F Hx ⟨f1, f2, f3, rfl⟩
  refine AW_step false try_mixed (by kernel_rfl) (fun F Hx => validB x y l = true ∧ far4 x0 y0 x1 y1 = true ∧ (decide (x1 < x0)) = false ∧ (decide (y1 < y0)) = false ∧ look F 2 = .ptr (some (H.length, 0)) ∧ look F 3 = .ptr (some (H.length + 1, 0)) ∧ look F 4 = .bool false ∧ Hx = H ++ [.cells true 0 [.int .i64 x, .int .i64 y, .sl (some (bs, 0)) l.length cs], .cells true 0 [.int .i64 x0, .int .i64 y0, .int .i64 x1, .int .i64 y1], .cells true 1 [.int .i64 x0, .int .i64 y0, .int .i64 x1, .int .i64 y1]]) ?_ ?_
  · skip
    have g'2 := (jn @hbs (jn @hb0s (jn @f1 (jn @f2 @f3))))
    refine runTf g'2 ?_
    refine call_v (by kernel_rfl) (valid_c _ x y _ l (.inr ⟨_, _, _, rfl, by first | exact hb0s _ | exact hbs⟩)) ?_
    refine runTf g'2 ?_
    refine gd_split (fun h4 => ?_) (fun h4 => ?_)
    · have h4d := h4
      try simp only [Bool.not_eq_true', Bool.not_eq_false', decide_eq_true_eq, decide_eq_false_iff_not, beq_iff_eq, bne_iff_ne, ne_eq, Bool.not_eq_true, Bool.not_eq_false, beq_eq_false_iff_ne, bne_eq_false_iff_eq, Classical.not_not, Bool.and_eq_true, Bool.and_eq_false_imp] at h4d
      have g'3 := (jn @h4 (jn @h4d g'2))
      refine runTf g'3 ?_
      refine call_v (by kernel_rfl) (near_c _ _ [x0, y0, x1, y1] (.inr ⟨_, _, _, by first | rfl | (rw [List.length_append]; rfl), by first | rfl | (rw [get_newk]; rfl) | (rw [get_new0]; rfl) | (rw [get_newk, prs_append]; rfl) | (rw [get_new0, prs_append]; rfl)⟩) (by simp)) ?_
      rw [far4_any]
      refine runTf g'3 ?_
      refine gd_split (fun h5 => ?_) (fun h5 => ?_)
      · have h5d := h5
        try simp only [Bool.not_eq_true', Bool.not_eq_false', decide_eq_true_eq, decide_eq_false_iff_not, beq_iff_eq, bne_iff_ne, ne_eq, Bool.not_eq_true, Bool.not_eq_false, beq_eq_false_iff_ne, bne_eq_false_iff_eq, Classical.not_not, Bool.and_eq_true, Bool.and_eq_false_imp] at h5d
        have g'4 := (jn @h5 (jn @h5d g'3))
        refine runTf g'4 ?_
        refine gd_split (fun h6 => ?_) (fun h6 => ?_)
        · have h6d := h6
          try simp only [Bool.not_eq_true', Bool.not_eq_false', decide_eq_true_eq, decide_eq_false_iff_not, beq_iff_eq, bne_iff_ne, ne_eq, Bool.not_eq_true, Bool.not_eq_false, beq_eq_false_iff_ne, bne_eq_false_iff_eq, Classical.not_not, Bool.and_eq_true, Bool.and_eq_false_imp] at h6d
          have g'5 := (jn @h6 (jn @h6d g'4))
          refine runTf g'5 ?_
          refine cond_split (fun h7 => ?_) (fun h7 => ?_)
          · have h7d := h7
            try simp only [Bool.not_eq_true', Bool.not_eq_false', decide_eq_true_eq, decide_eq_false_iff_not, beq_iff_eq, bne_iff_ne, ne_eq, Bool.not_eq_true, Bool.not_eq_false, beq_eq_false_iff_ne, bne_eq_false_iff_eq, Classical.not_not, Bool.and_eq_true, Bool.and_eq_false_imp] at h7d
            have g'6 := (jn @h7 (jn @h7d g'5))
            refine runTf g'6 ?_
            exact hQ _ _ (end_plain (.inl rfl) hbel (x := .bool false) (resT Tryz.results68) rfl ⟨by first | (simp [apartB, h4d, h5d, h6d, h7d]; done) | (simp [apartB, h4d, h5d, h6d, h7d]; intros; omega), rfl⟩)
          · have h7d := h7
            try simp only [Bool.not_eq_true', Bool.not_eq_false', decide_eq_true_eq, decide_eq_false_iff_not, beq_iff_eq, bne_iff_ne, ne_eq, Bool.not_eq_true, Bool.not_eq_false, beq_eq_false_iff_ne, bne_eq_false_iff_eq, Classical.not_not, Bool.and_eq_true, Bool.and_eq_false_imp] at h7d
            have g'7 := (jn @h7 (jn @h7d g'5))
            refine runTf g'7 ?_
            refine inv_of ?_
            exact absTf (jn @f1 (jn @f2 @f3))
        · have h6d := h6
          try simp only [Bool.not_eq_true', Bool.not_eq_false', decide_eq_true_eq, decide_eq_false_iff_not, beq_iff_eq, bne_iff_ne, ne_eq, Bool.not_eq_true, Bool.not_eq_false, beq_eq_false_iff_ne, bne_eq_false_iff_eq, Classical.not_not, Bool.and_eq_true, Bool.and_eq_false_imp] at h6d
          have g'8 := (jn @h6 (jn @h6d g'4))
          refine runTf g'8 ?_
          exact hQ _ _ (end_plain (.inl rfl) hbel (x := .bool false) (resT Tryz.results68) rfl ⟨by first | (simp [apartB, h4d, h5d, h6d]; done) | (simp [apartB, h4d, h5d, h6d]; intros; omega), rfl⟩)
      · have h5d := h5
        try simp only [Bool.not_eq_true', Bool.not_eq_false', decide_eq_true_eq, decide_eq_false_iff_not, beq_iff_eq, bne_iff_ne, ne_eq, Bool.not_eq_true, Bool.not_eq_false, beq_eq_false_iff_ne, bne_eq_false_iff_eq, Classical.not_not, Bool.and_eq_true, Bool.and_eq_false_imp] at h5d
        have g'9 := (jn @h5 (jn @h5d g'3))
        refine runTf g'9 ?_
        exact hQ _ _ (end_plain (.inl rfl) hbel (x := .bool false) (resT Tryz.results68) rfl ⟨by first | (simp [apartB, h4d, h5d]; done) | (simp [apartB, h4d, h5d]; intros; omega), rfl⟩)
    · have h4d := h4
      try simp only [Bool.not_eq_true', Bool.not_eq_false', decide_eq_true_eq, decide_eq_false_iff_not, beq_iff_eq, bne_iff_ne, ne_eq, Bool.not_eq_true, Bool.not_eq_false, beq_eq_false_iff_ne, bne_eq_false_iff_eq, Classical.not_not, Bool.and_eq_true, Bool.and_eq_false_imp] at h4d
      have g'10 := (jn @h4 (jn @h4d g'2))
      refine runTf g'10 ?_
      exact hQ _ _ (end_plain (.inl rfl) hbel (x := .bool false) (resT Tryz.results68) rfl ⟨by first | (simp [apartB, h4d]; done) | (simp [apartB, h4d]; intros; omega), rfl⟩)
  rintro F Hx ⟨h8d, h9d, h10d, h11d, f12, f13, f14, rfl⟩
  obtain ⟨hl16, hlB⟩ := valid_bd h8d
  have hxy := valid_bd3 h8d
  have hfar := far4_bd h9d
  have hfinX : x0 ≤ x1 := Int.not_lt.1 (of_decide_eq_false h10d)
  have hfinY : y0 ≤ y1 := Int.not_lt.1 (of_decide_eq_false h11d)
  have hB4 : ∀ e ∈ l ++ [(x1 - x0, 0), (0, y1 - y0)], Bd 4194304 e := fun e he => by
      simp only [List.mem_append, List.mem_cons, List.not_mem_nil, or_false] at he
      rcases he with he | rfl | rfl
      · have := hlB e he; unfold Bd at *; omega
      · unfold Bd; simp only; omega
      · unfold Bd; simp only; omega
  have hll : (l ++ [(x1 - x0, 0), (0, y1 - y0)]).length = l.length + 2 := by simp
  have hcl := canonL_len (l ++ [(x1 - x0, 0), (0, y1 - y0)])
  have hcb : ∀ e ∈ (canonL (l ++ [(x1 - x0, 0), (0, y1 - y0)])), Bd 134217728 e := fun e he => by
      have := canonL_bd (M := 4194304) (by decide) hB4 e he
      have h40 : (((l ++ [(x1 - x0, 0), (0, y1 - y0)]).length : Nat) : Int) * 4194304 ≤ 18 * 4194304 := Int.mul_le_mul_of_nonneg_right (by omega) (by decide)
      unfold Bd at *; omega
  have hc28 : ∀ e ∈ (canonL (l ++ [(x1 - x0, 0), (0, y1 - y0)])), Bd 268435456 e := fun e he => by have := hcb e he; unfold Bd at *; omega
  have hNb := nrmls_bd (M := 134217728) (by decide) hcb
  have hNl := nrmls_len (canonL (l ++ [(x1 - x0, 0), (0, y1 - y0)]))
  refine AW_special false try_mixed [[0, 1, 2, 3, 4, 5, 6, 7, 8, 9, 10, 11, 12, 13, 14, 15, 16, 17, 18, 19, 20], [0, 1, 3, 4, 5, 6, 7, 8, 9, 10, 11, 12, 13, 14, 15, 2, 16, 17, 18, 19, 20]] (by kernel_rfl) (fun F2 H2 => F2 = [(2, .ptr (some (H.length, 0))), (3, .ptr (some (H.length + 1, 0))), (4, .bool false), (5, .sl (some (H.length + 2, 0)) ((canonL (l ++ [(x1 - x0, 0), (0, y1 - y0)])).length) (capG (canonL (l ++ [(x1 - x0, 0), (0, y1 - y0)])).length))] ∧ H2 = H ++ [.cells true 0 [.int .i64 x, .int .i64 y, .sl (some (bs, 0)) l.length cs], .cells true 0 [.int .i64 x0, .int .i64 y0, .int .i64 x1, .int .i64 y1], .cells (ownG (canonL (l ++ [(x1 - x0, 0), (0, y1 - y0)])).length) 2 (prs (canonL (l ++ [(x1 - x0, 0), (0, y1 - y0)])))]) ?_ ?_
  · refine reps_cons ?_ (reps_cons ?_ (reps_nil)) <;> intro J hJ
    · skip
      have g'11 := (jn @hbs (jn @hb0s (jn @f1 (jn @f2 (jn @f3 (jn @f12 (jn @f13 (jn @f14 (jn @h8d (jn @h9d (jn @h10d @h11d)))))))))))
      refine runDf g'11 ?_
      refine call_x (by kernel_rfl) (by simp) (clone_u _ _ l ⟨_, _, _, rfl, by first | exact hb0s _ | exact hbs⟩ (by first | omega | (simp only [List.length_cons, List.length_nil]; omega) | exact Nat.le_trans (mkL_len _ _) (by first | omega | simp) | exact Nat.le_trans (vL_len _ _) (by first | omega | simp) | exact Nat.le_trans corV_len (by omega) | exact Nat.le_trans (canonL_len _) (by first | omega | simp))) ?_
      have g'12 := (jn @prs_len (jn @prs_one (jn @capG_s g'11)))
      refine runDf g'12 ?_
      refine call_x (by kernel_rfl) (by simp) (canonical_u _ 0 0 _ (l ++ [(x1 - x0, 0), (0, y1 - y0)]) (.inr ⟨_, _, _, by first | rfl | (rw [List.length_append]; rfl), by first | rfl | (rw [get_newk]; rfl) | (rw [get_new0]; rfl) | (rw [get_newk, prs_append]; rfl) | (rw [get_new0, prs_append]; rfl)⟩) (by first | omega | (simp only [List.length_cons, List.length_nil]; omega) | exact Nat.le_trans (mkL_len _ _) (by first | omega | simp) | exact Nat.le_trans (vL_len _ _) (by first | omega | simp) | exact Nat.le_trans corV_len (by omega) | exact Nat.le_trans (canonL_len _) (by first | omega | simp)) (by assumption)) ?_
      refine runDf g'12 ?_
      refine inv_of (hJ _ _ ⟨_, _, _, ⟨rfl, rfl⟩, Abs.byG hbel [] rfl [0, 1, 6] (by decide) ?_⟩)
      exact absRf (jn @f1 (jn @f2 (jn @f3 (jn @f12 (jn @f13 @f14)))))
    · skip
      have g'13 := (jn @hbs (jn @hb0s (jn @f1 (jn @f2 (jn @f3 (jn @f12 (jn @f13 (jn @f14 (jn @h8d (jn @h9d (jn @h10d @h11d)))))))))))
      refine runDf g'13 ?_
      refine call_x (by kernel_rfl) (by simp) (clone_u _ _ l ⟨_, _, _, rfl, by first | exact hb0s _ | exact hbs⟩ (by first | omega | (simp only [List.length_cons, List.length_nil]; omega) | exact Nat.le_trans (mkL_len _ _) (by first | omega | simp) | exact Nat.le_trans (vL_len _ _) (by first | omega | simp) | exact Nat.le_trans corV_len (by omega) | exact Nat.le_trans (canonL_len _) (by first | omega | simp))) ?_
      have g'14 := (jn @prs_len (jn @prs_one (jn @capG_s g'13)))
      refine runDf g'14 ?_
      refine call_x (by kernel_rfl) (by simp) (canonical_u _ 0 0 _ (l ++ [(x1 - x0, 0), (0, y1 - y0)]) (.inr ⟨_, _, _, by first | rfl | (rw [List.length_append]; rfl), by first | rfl | (rw [get_newk]; rfl) | (rw [get_new0]; rfl) | (rw [get_newk, prs_append]; rfl) | (rw [get_new0, prs_append]; rfl)⟩) (by first | omega | (simp only [List.length_cons, List.length_nil]; omega) | exact Nat.le_trans (mkL_len _ _) (by first | omega | simp) | exact Nat.le_trans (vL_len _ _) (by first | omega | simp) | exact Nat.le_trans corV_len (by omega) | exact Nat.le_trans (canonL_len _) (by first | omega | simp)) (by assumption)) ?_
      refine runDf g'14 ?_
      refine inv_of (hJ _ _ ⟨_, _, _, ⟨rfl, rfl⟩, Abs.byG hbel [] rfl [0, 1, 6] (by decide) ?_⟩)
      exact absRf (jn @f1 (jn @f2 (jn @f3 (jn @f12 (jn @f13 @f14)))))
  rintro F2 H2 ⟨rfl, rfl⟩
  refine AW_fin false try_mixed (by kernel_rfl) ?_
  have g'15 := (jn @hbs (jn @hb0s (jn @h8d (jn @h9d (jn @h10d (jn @h11d (jn @prs_len @prs_one)))))))
  refine runTf g'15 ?_
  refine go_loop try_mixed (by kernel_rfl) (fun k F Hx => ∃ i : Nat, i + k = (canonL (l ++ [(x1 - x0, 0), (0, y1 - y0)])).length ∧ F = [(5, .sl (some (H.length, 0)) ((canonL (l ++ [(x1 - x0, 0), (0, y1 - y0)])).length) (capG (canonL (l ++ [(x1 - x0, 0), (0, y1 - y0)])).length)), (6, .ptr (some (H.length + 1, 0))), (7, .sl (some (H.length + 2, 0)) ((nrmls ((canonL (l ++ [(x1 - x0, 0), (0, y1 - y0)])).take i)).length) (capG (nrmls ((canonL (l ++ [(x1 - x0, 0), (0, y1 - y0)])).take i)).length)), (82, .sl (some (H.length, 0)) ((canonL (l ++ [(x1 - x0, 0), (0, y1 - y0)])).length) (capG (canonL (l ++ [(x1 - x0, 0), (0, y1 - y0)])).length)), (83, .int .i64 (((canonL (l ++ [(x1 - x0, 0), (0, y1 - y0)])).length : Nat) : Int)), (84, .int .i64 ((i : Nat) : Int))] ∧ Hx = H ++ [.cells (ownG (canonL (l ++ [(x1 - x0, 0), (0, y1 - y0)])).length) 2 (prs (canonL (l ++ [(x1 - x0, 0), (0, y1 - y0)]))), .cells true 0 [.int .i64 ((x0 + x1) - x), .int .i64 ((y0 + y1) - y)], .cells (ownG (nrmls ((canonL (l ++ [(x1 - x0, 0), (0, y1 - y0)])).take i)).length) 2 (prs (nrmls ((canonL (l ++ [(x1 - x0, 0), (0, y1 - y0)])).take i)))]) ((canonL (l ++ [(x1 - x0, 0), (0, y1 - y0)])).length) ?_ ?_
  · refine ⟨_, _, _, ⟨0, by omega, rfl, rfl⟩, Abs.byG hbel [] rfl [2, 3, 4] (by decide) ?_⟩
    exact absRf (jn @List.take_zero.{0} @nrmls_nil)
  · rintro k0 F Hx ⟨i, hm0, rfl, rfl⟩ J0 hJ0
    refine runTf g'15 ?_
    refine cond_split (fun h15 => ?_) (fun h15 => ?_)
    · have h15d := h15
      try simp only [Bool.not_eq_true', Bool.not_eq_false', decide_eq_true_eq, decide_eq_false_iff_not, beq_iff_eq, bne_iff_ne, ne_eq, Bool.not_eq_true, Bool.not_eq_false, beq_eq_false_iff_ne, bne_eq_false_iff_eq, Classical.not_not, Bool.and_eq_true, Bool.and_eq_false_imp] at h15d
      have hgi := gpb (i := i) hcb (by omega)
      have hst := nrmls_step (L := (canonL (l ++ [(x1 - x0, 0), (0, y1 - y0)]))) (i := i) (by omega)
      have hnl := nrmls_len ((canonL (l ++ [(x1 - x0, 0), (0, y1 - y0)])).take i)
      rw [List.length_take] at hnl
      have q16 := prs_load (l := canonL (l ++ [(x1 - x0, 0), (0, y1 - y0)])) (j := i) (by omega)
      have g'16 := (jn @h15 (jn @h15d (jn @q16 (jn @capG_s g'15))))
      refine runTf g'16 ?_
      refine hJ0 _ _ ⟨k0 - 1, by omega, _, _, _, ⟨i + 1, by omega, rfl, rfl⟩, Abs.byG hbel [] rfl [0, 1, 5] (by decide) ?_⟩
      exact absRf (jn @hst @Int.zero_sub)
    · have h15d := h15
      try simp only [Bool.not_eq_true', Bool.not_eq_false', decide_eq_true_eq, decide_eq_false_iff_not, beq_iff_eq, bne_iff_ne, ne_eq, Bool.not_eq_true, Bool.not_eq_false, beq_eq_false_iff_ne, bne_eq_false_iff_eq, Classical.not_not, Bool.and_eq_true, Bool.and_eq_false_imp] at h15d
      have hfinT : (canonL (l ++ [(x1 - x0, 0), (0, y1 - y0)])).take i = (canonL (l ++ [(x1 - x0, 0), (0, y1 - y0)])) := List.take_of_length_le (by omega)
      have g'17 := (jn @h15 (jn @h15d g'15))
      refine runTf g'17 ?_
      refine go_loop try_mixed (by kernel_rfl) (fun k F Hx => ∃ j : Nat, j + k = (nrmls (canonL (l ++ [(x1 - x0, 0), (0, y1 - y0)]))).length ∧ ((nrmls (canonL (l ++ [(x1 - x0, 0), (0, y1 - y0)]))).take j).any (beyond (canonL (l ++ [(x1 - x0, 0), (0, y1 - y0)])) (x0 + x1 - x, y0 + y1 - y)) = false ∧ F = [(5, .sl (some (H.length, 0)) ((canonL (l ++ [(x1 - x0, 0), (0, y1 - y0)])).length) (capG (canonL (l ++ [(x1 - x0, 0), (0, y1 - y0)])).length)), (6, .ptr (some (H.length + 1, 0))), (99, .sl (some (H.length + 2, 0)) ((nrmls (canonL (l ++ [(x1 - x0, 0), (0, y1 - y0)]))).length) (capG (nrmls (canonL (l ++ [(x1 - x0, 0), (0, y1 - y0)]))).length)), (100, .int .i64 (((nrmls (canonL (l ++ [(x1 - x0, 0), (0, y1 - y0)]))).length : Nat) : Int)), (101, .int .i64 ((j : Nat) : Int))] ∧ Hx = H ++ [.cells (ownG (canonL (l ++ [(x1 - x0, 0), (0, y1 - y0)])).length) 2 (prs (canonL (l ++ [(x1 - x0, 0), (0, y1 - y0)]))), .cells true 0 [.int .i64 ((x0 + x1) - x), .int .i64 ((y0 + y1) - y)], .cells (ownG (nrmls (canonL (l ++ [(x1 - x0, 0), (0, y1 - y0)]))).length) 2 (prs (nrmls (canonL (l ++ [(x1 - x0, 0), (0, y1 - y0)]))))]) ((nrmls (canonL (l ++ [(x1 - x0, 0), (0, y1 - y0)]))).length) ?_ ?_
      · refine ⟨_, _, _, ⟨0, by omega, by simp, rfl, rfl⟩, Abs.byG hbel [] rfl [0, 1, 2] (by decide) ?_⟩
        exact absRf @hfinT
      · rintro k1 F Hx ⟨j, hm1, ht, rfl, rfl⟩ J1 hJ1
        refine runTf g'17 ?_
        refine cond_split (fun h17 => ?_) (fun h17 => ?_)
        · have h17d := h17
          try simp only [Bool.not_eq_true', Bool.not_eq_false', decide_eq_true_eq, decide_eq_false_iff_not, beq_iff_eq, bne_iff_ne, ne_eq, Bool.not_eq_true, Bool.not_eq_false, beq_eq_false_iff_ne, bne_eq_false_iff_eq, Classical.not_not, Bool.and_eq_true, Bool.and_eq_false_imp] at h17d
          have hgj := gpb (i := j) hNb (by omega)
          have hst2 := any_take (p := beyond (canonL (l ++ [(x1 - x0, 0), (0, y1 - y0)])) (x0 + x1 - x, y0 + y1 - y)) (l := nrmls (canonL (l ++ [(x1 - x0, 0), (0, y1 - y0)]))) (i := j) (by omega)
          rw [← gp_eq (by omega)] at hst2
          have hp1 := mul_bd (a := g1 (nrmls (canonL (l ++ [(x1 - x0, 0), (0, y1 - y0)]))) j) (b := x0 + x1 - x) (A := 134217728) (B := 33554432) (by omega) (by omega)
          have hp2 := mul_bd (a := g2 (nrmls (canonL (l ++ [(x1 - x0, 0), (0, y1 - y0)]))) j) (b := y0 + y1 - y) (A := 134217728) (B := 33554432) (by omega) (by omega)
          have q18 := prs_load (l := nrmls (canonL (l ++ [(x1 - x0, 0), (0, y1 - y0)]))) (j := j) (by omega)
          have g'18 := (jn @h17 (jn @h17d (jn @q18 g'17)))
          refine runTf g'18 ?_
          refine call_d (by kernel_rfl) (abs_c _ _ (by omega)) ?_
          refine runTf g'18 ?_
          refine call_d (by kernel_rfl) (spread_c _ _ (canonL (l ++ [(x1 - x0, 0), (0, y1 - y0)])) (g1 (nrmls (canonL (l ++ [(x1 - x0, 0), (0, y1 - y0)]))) j, g2 (nrmls (canonL (l ++ [(x1 - x0, 0), (0, y1 - y0)]))) j) (.inr ⟨_, _, _, by first | rfl | (rw [List.length_append]; rfl), by first | rfl | (rw [get_newk]; rfl) | (rw [get_new0]; rfl) | (rw [get_newk, prs_append]; rfl) | (rw [get_new0, prs_append]; rfl)⟩) (by omega) (by assumption) (by first | assumption | (unfold Bd; simp only; omega) | (unfold Bd at *; simp only at *; omega) | (unfold Bd; simp; omega) | (unfold Bd; simp))) ?_
          refine runTf g'18 ?_
          refine cond_split (fun h19 => ?_) (fun h19 => ?_)
          · have h19d := h19
            try simp only [Bool.not_eq_true', Bool.not_eq_false', decide_eq_true_eq, decide_eq_false_iff_not, beq_iff_eq, bne_iff_ne, ne_eq, Bool.not_eq_true, Bool.not_eq_false, beq_eq_false_iff_ne, bne_eq_false_iff_eq, Classical.not_not, Bool.and_eq_true, Bool.and_eq_false_imp] at h19d
            have hfinA : (nrmls (canonL (l ++ [(x1 - x0, 0), (0, y1 - y0)]))).any (beyond (canonL (l ++ [(x1 - x0, 0), (0, y1 - y0)])) (x0 + x1 - x, y0 + y1 - y)) = true := any_gp (j := j) (by omega) (decide_eq_true h19d)
            have g'19 := (jn @h19 (jn @h19d g'18))
            refine runTf g'19 ?_
            exact hQ _ _ (end_plain (.inl rfl) hbel (x := .bool true) (resT Tryz.results68) rfl ⟨by first | (simp [apartB, h8d, h9d, h10d, h11d, h15d, h17d, h19d, hfinX, hfinY, hfinT, hfinA]; done) | (simp [apartB, h8d, h9d, h10d, h11d, h15d, h17d, h19d, hfinX, hfinY, hfinT, hfinA]; intros; omega), rfl⟩)
          · have h19d := h19
            try simp only [Bool.not_eq_true', Bool.not_eq_false', decide_eq_true_eq, decide_eq_false_iff_not, beq_iff_eq, bne_iff_ne, ne_eq, Bool.not_eq_true, Bool.not_eq_false, beq_eq_false_iff_ne, bne_eq_false_iff_eq, Classical.not_not, Bool.and_eq_true, Bool.and_eq_false_imp] at h19d
            have g'20 := (jn @h19 (jn @h19d g'18))
            refine runTf g'20 ?_
            refine hJ1 _ _ ⟨k1 - 1, by omega, _, _, _, ⟨j + 1, by omega, by rw [hst2, ht, Bool.false_or]; exact decide_eq_false h19d, rfl, rfl⟩, Abs.byG hbel [] rfl [0, 1, 2] (by decide) ?_⟩
            exact absR
        · have h17d := h17
          try simp only [Bool.not_eq_true', Bool.not_eq_false', decide_eq_true_eq, decide_eq_false_iff_not, beq_iff_eq, bne_iff_ne, ne_eq, Bool.not_eq_true, Bool.not_eq_false, beq_eq_false_iff_ne, bne_eq_false_iff_eq, Classical.not_not, Bool.and_eq_true, Bool.and_eq_false_imp] at h17d
          rw [List.take_of_length_le (by omega)] at ht
          have hfin := ht
          have g'21 := (jn @h17 (jn @h17d g'17))
          refine runTf g'21 ?_
          exact hQ _ _ (end_plain (.inl rfl) hbel (x := .bool false) (resT Tryz.results68) rfl ⟨by first | (simp [apartB, h8d, h9d, h10d, h11d, h15d, h17d, hfinX, hfinY, hfinT, hfin]; done) | (simp [apartB, h8d, h9d, h10d, h11d, h15d, h17d, hfinX, hfinY, hfinT, hfin]; intros; omega), rfl⟩)
open Go.RowKit
theorem apartB_iff {x y : Int} {l : List Pt} {x0 y0 x1 y1 : Int} : apartB x y l x0 y0 x1 y1 = true ↔ validB x y l = true ∧ far4 x0 y0 x1 y1 = true ∧ (x0 ≤ x1 ∧ y0 ≤ y1) ∧ ¬ inZ (l ++ [(x1 - x0, 0), (0, y1 - y0)]) (x0 + x1 - x, y0 + y1 - y) := by
  have hc := canonL_can (l ++ [(x1 - x0, 0), (0, y1 - y0)])
  have h2 := beyond_iff hc.sorted hc.ups (x0 + x1 - x, y0 + y1 - y)
  rw [inZ_canon] at h2
  unfold apartB
  simp only [Bool.and_eq_true, decide_eq_true_eq, ← h2, Bool.not_eq_false, and_assoc]
open Go.RowKit
/-- What is handed back, as one new block. -/
def mkL (e : Int) (L : List Pt) : List Pt := if e = 0 then L else []
def mkX (e : Int) (x : Int) : Int := if e = 0 then x else 0
theorem mkL_le (e : Int) (L : List Pt) : (mkL e L).length ≤ L.length := by
  unfold mkL; split
  · exact Nat.le_refl _
  · simp
open Go.RowKit
def ordR (x0 y0 x1 y1 : Int) : Bool := decide (x0 ≤ x1) && (decide (y0 ≤ y1) && far4 x0 y0 x1 y1)
theorem ofrect_c (H : AHeap) (x0 : Int) (y0 : Int) (x1 : Int) (y1 : Int) : ACalls Tryz.prog 50 [.agg [.int .i64 x0, .int .i64 y0, .int .i64 x1, .int .i64 y1]] H (fun v H' => v = .tup [.agg [.int .i64 (mkX (rectE x0 y0 x1 y1) (x0 + x1)), .int .i64 (mkX (rectE x0 y0 x1 y1) (y0 + y1)), .sl (some (H.length, 0)) ((mkL (rectE x0 y0 x1 y1) (canonL [(x1 - x0, 0), (0, y1 - y0)])).length) (capG (mkL (rectE x0 y0 x1 y1) (canonL [(x1 - x0, 0), (0, y1 - y0)])).length)], .int .i64 (rectE x0 y0 x1 y1)] ∧ H' = H ++ [.cells (ownG (mkL (rectE x0 y0 x1 y1) (canonL [(x1 - x0, 0), (0, y1 - y0)])).length) 2 (prs (mkL (rectE x0 y0 x1 y1) (canonL [(x1 - x0, 0), (0, y1 - y0)])))]) := by
  refine AcT true Tryz.func50 ?_; intro hbel Q hQ
  refine runT ?_
  refine call_v (by kernel_rfl) (near_c _ _ [x0, y0, x1, y1] (.inr ⟨_, _, _, by first | rfl | (rw [List.length_append]; rfl), by first | rfl | (rw [get_newk]; rfl) | (rw [get_new0]; rfl) | (rw [get_newk, prs_append]; rfl) | (rw [get_new0, prs_append]; rfl)⟩) (by simp)) ?_
  rw [far4_any]
  refine runT ?_
  refine gd_split (fun h1 => ?_) (fun h1 => ?_)
  · have h1d := h1
    try simp only [Bool.not_eq_true', Bool.not_eq_false', decide_eq_true_eq, decide_eq_false_iff_not, beq_iff_eq, bne_iff_ne, ne_eq, Bool.not_eq_true, Bool.not_eq_false, beq_eq_false_iff_ne, bne_eq_false_iff_eq, Classical.not_not, Bool.and_eq_true, Bool.and_eq_false_imp] at h1d
    have hfar := far4_bd h1d
    have g'1 := (jn @h1 @h1d)
    refine runTf g'1 ?_
    refine gd_split (fun h2 => ?_) (fun h2 => ?_)
    · have h2d := h2
      try simp only [Bool.not_eq_true', Bool.not_eq_false', decide_eq_true_eq, decide_eq_false_iff_not, beq_iff_eq, bne_iff_ne, ne_eq, Bool.not_eq_true, Bool.not_eq_false, beq_eq_false_iff_ne, bne_eq_false_iff_eq, Classical.not_not, Bool.and_eq_true, Bool.and_eq_false_imp] at h2d
      have g'2 := (jn @h2 (jn @h2d g'1))
      refine runTf g'2 ?_
      refine gd_split (fun h3 => ?_) (fun h3 => ?_)
      · have h3d := h3
        try simp only [Bool.not_eq_true', Bool.not_eq_false', decide_eq_true_eq, decide_eq_false_iff_not, beq_iff_eq, bne_iff_ne, ne_eq, Bool.not_eq_true, Bool.not_eq_false, beq_eq_false_iff_ne, bne_eq_false_iff_eq, Classical.not_not, Bool.and_eq_true, Bool.and_eq_false_imp] at h3d
        have g'3 := (jn @h3 (jn @h3d g'2))
        refine runTf g'3 ?_
        refine gd_split (fun h4 => ?_) (fun h4 => ?_)
        · have h4d := h4
          try simp only [Bool.not_eq_true', Bool.not_eq_false', decide_eq_true_eq, decide_eq_false_iff_not, beq_iff_eq, bne_iff_ne, ne_eq, Bool.not_eq_true, Bool.not_eq_false, beq_eq_false_iff_ne, bne_eq_false_iff_eq, Classical.not_not, Bool.and_eq_true, Bool.and_eq_false_imp] at h4d
          have g'4 := (jn @h4 (jn @h4d g'3))
          refine runTf g'4 ?_
          refine cond_split (fun h5 => ?_) (fun h5 => ?_)
          · have h5d := h5
            try simp only [Bool.not_eq_true', Bool.not_eq_false', decide_eq_true_eq, decide_eq_false_iff_not, beq_iff_eq, bne_iff_ne, ne_eq, Bool.not_eq_true, Bool.not_eq_false, beq_eq_false_iff_ne, bne_eq_false_iff_eq, Classical.not_not, Bool.and_eq_true, Bool.and_eq_false_imp] at h5d
            have g'5 := (jn @h5 (jn @h5d g'4))
            refine runTf g'5 ?_
            refine hQ _ _ (end_byG (.inl rfl) hbel (x1 := .tup [.agg [.int .i64 0, .int .i64 0, .sl none 0 (some 0)], .int .i64 1]) (l2 := [.cells false 2 []]) (.tup [.agg [.int .i64 0, .int .i64 0, .sl (some (H.length, 0)) 0 (some 0)], .int .i64 1]) (resT Tryz.results50) [.cells false 2 []] rfl [3] (by decide) ⟨(by first | (simp [mkX, mkL, rectE, capG_0, ownG_0, prs_nil, h1d, h2d, h3d, h4d, h5d]; done) | (rw [show rectE x0 y0 x1 y1 = 1 from if_neg (fun h => by omega)]; rfl) | rw [rectE_bad (fun h => by omega)]; rfl | rw [show rectE x0 y0 x1 y1 = 0 from if_pos ⟨by assumption, by omega, by omega, by omega, by omega⟩]; rfl | rw [rectE_bad (fun h => by simp_all)]; rfl), (by first | (simp [mkX, mkL, rectE, capG_0, ownG_0, prs_nil, h1d, h2d, h3d, h4d, h5d]; done) | (rw [show rectE x0 y0 x1 y1 = 1 from if_neg (fun h => by omega)]; rfl) | rw [rectE_bad (fun h => by omega)]; rfl | rw [show rectE x0 y0 x1 y1 = 0 from if_pos ⟨by assumption, by omega, by omega, by omega, by omega⟩]; rfl | rw [rectE_bad (fun h => by simp_all)]; rfl)⟩ ?_)
            exact absW
          · have h5d := h5
            try simp only [Bool.not_eq_true', Bool.not_eq_false', decide_eq_true_eq, decide_eq_false_iff_not, beq_iff_eq, bne_iff_ne, ne_eq, Bool.not_eq_true, Bool.not_eq_false, beq_eq_false_iff_ne, bne_eq_false_iff_eq, Classical.not_not, Bool.and_eq_true, Bool.and_eq_false_imp] at h5d
            have g'6 := (jn @h5 (jn @h5d g'4))
            refine runTf g'6 ?_
            have hB4 : ∀ e ∈ [((x1 - x0 : Int), (0 : Int)), (0, y1 - y0)], Bd 4194304 e := fun e he => by
              simp only [List.mem_cons, List.not_mem_nil, or_false] at he
              first | (rcases he with rfl | rfl <;> (unfold Bd; simp only; omega)) | (subst he; unfold Bd; simp only; omega)
            refine call_v (by kernel_rfl) (canonical_u _ (x0 + x1) (y0 + y1) _ [(x1 - x0, 0), (0, y1 - y0)] (.inr ⟨_, _, _, by first | rfl | (rw [List.length_append]; rfl), by first | rfl | (rw [get_newk]; rfl) | (rw [get_new0]; rfl) | (rw [get_newk, prs_append]; rfl) | (rw [get_new0, prs_append]; rfl)⟩) (by first | omega | (simp only [List.length_cons, List.length_nil]; omega) | exact Nat.le_trans (mkL_len _ _) (by first | omega | simp) | exact Nat.le_trans (vL_len _ _) (by first | omega | simp) | exact Nat.le_trans corV_len (by omega) | exact Nat.le_trans (canonL_len _) (by first | omega | simp)) (by assumption)) ?_
            refine runTf g'6 ?_
            refine hQ _ _ (end_byG (.inl rfl) hbel (x1 := .tup [.agg [.int .i64 (x0 + x1), .int .i64 (y0 + y1), .sl (some (H.length + 4, 0)) ((canonL [(x1 - x0, 0), (0, y1 - y0)]).length) (capG (canonL [(x1 - x0, 0), (0, y1 - y0)]).length)], .int .i64 0]) (l2 := [.cells (ownG (canonL [(x1 - x0, 0), (0, y1 - y0)]).length) 2 (prs (canonL [(x1 - x0, 0), (0, y1 - y0)]))]) (.tup [.agg [.int .i64 (x0 + x1), .int .i64 (y0 + y1), .sl (some (H.length, 0)) ((canonL [(x1 - x0, 0), (0, y1 - y0)]).length) (capG (canonL [(x1 - x0, 0), (0, y1 - y0)]).length)], .int .i64 0]) (resT Tryz.results50) [] rfl [4] (by decide) ⟨(by first | (simp [mkX, mkL, rectE, capG_0, ownG_0, prs_nil, h1d, h2d, h3d, h4d, h5d]; done) | (rw [show rectE x0 y0 x1 y1 = 1 from if_neg (fun h => by omega)]; rfl) | rw [rectE_bad (fun h => by omega)]; rfl | rw [show rectE x0 y0 x1 y1 = 0 from if_pos ⟨by assumption, by omega, by omega, by omega, by omega⟩]; rfl | rw [rectE_bad (fun h => by simp_all)]; rfl), (by first | (simp [mkX, mkL, rectE, capG_0, ownG_0, prs_nil, h1d, h2d, h3d, h4d, h5d]; done) | (rw [show rectE x0 y0 x1 y1 = 1 from if_neg (fun h => by omega)]; rfl) | rw [rectE_bad (fun h => by omega)]; rfl | rw [show rectE x0 y0 x1 y1 = 0 from if_pos ⟨by assumption, by omega, by omega, by omega, by omega⟩]; rfl | rw [rectE_bad (fun h => by simp_all)]; rfl)⟩ ?_)
            exact absW
        · have h4d := h4
          try simp only [Bool.not_eq_true', Bool.not_eq_false', decide_eq_true_eq, decide_eq_false_iff_not, beq_iff_eq, bne_iff_ne, ne_eq, Bool.not_eq_true, Bool.not_eq_false, beq_eq_false_iff_ne, bne_eq_false_iff_eq, Classical.not_not, Bool.and_eq_true, Bool.and_eq_false_imp] at h4d
          have g'7 := (jn @h4 (jn @h4d g'3))
          refine runTf g'7 ?_
          refine hQ _ _ (end_byG (.inl rfl) hbel (x1 := .tup [.agg [.int .i64 0, .int .i64 0, .sl none 0 (some 0)], .int .i64 1]) (l2 := [.cells false 2 []]) (.tup [.agg [.int .i64 0, .int .i64 0, .sl (some (H.length, 0)) 0 (some 0)], .int .i64 1]) (resT Tryz.results50) [.cells false 2 []] rfl [3] (by decide) ⟨(by first | (simp [mkX, mkL, rectE, capG_0, ownG_0, prs_nil, h1d, h2d, h3d, h4d]; done) | (rw [show rectE x0 y0 x1 y1 = 1 from if_neg (fun h => by omega)]; rfl) | rw [rectE_bad (fun h => by omega)]; rfl | rw [show rectE x0 y0 x1 y1 = 0 from if_pos ⟨by assumption, by omega, by omega, by omega, by omega⟩]; rfl | rw [rectE_bad (fun h => by simp_all)]; rfl), (by first | (simp [mkX, mkL, rectE, capG_0, ownG_0, prs_nil, h1d, h2d, h3d, h4d]; done) | (rw [show rectE x0 y0 x1 y1 = 1 from if_neg (fun h => by omega)]; rfl) | rw [rectE_bad (fun h => by omega)]; rfl | rw [show rectE x0 y0 x1 y1 = 0 from if_pos ⟨by assumption, by omega, by omega, by omega, by omega⟩]; rfl | rw [rectE_bad (fun h => by simp_all)]; rfl)⟩ ?_)
          exact absW
      · have h3d := h3
        try simp only [Bool.not_eq_true', Bool.not_eq_false', decide_eq_true_eq, decide_eq_false_iff_not, beq_iff_eq, bne_iff_ne, ne_eq, Bool.not_eq_true, Bool.not_eq_false, beq_eq_false_iff_ne, bne_eq_false_iff_eq, Classical.not_not, Bool.and_eq_true, Bool.and_eq_false_imp] at h3d
        have g'8 := (jn @h3 (jn @h3d g'2))
        refine runTf g'8 ?_
        refine hQ _ _ (end_byG (.inl rfl) hbel (x1 := .tup [.agg [.int .i64 0, .int .i64 0, .sl none 0 (some 0)], .int .i64 1]) (l2 := [.cells false 2 []]) (.tup [.agg [.int .i64 0, .int .i64 0, .sl (some (H.length, 0)) 0 (some 0)], .int .i64 1]) (resT Tryz.results50) [.cells false 2 []] rfl [3] (by decide) ⟨(by first | (simp [mkX, mkL, rectE, capG_0, ownG_0, prs_nil, h1d, h2d, h3d]; done) | (rw [show rectE x0 y0 x1 y1 = 1 from if_neg (fun h => by omega)]; rfl) | rw [rectE_bad (fun h => by omega)]; rfl | rw [show rectE x0 y0 x1 y1 = 0 from if_pos ⟨by assumption, by omega, by omega, by omega, by omega⟩]; rfl | rw [rectE_bad (fun h => by simp_all)]; rfl), (by first | (simp [mkX, mkL, rectE, capG_0, ownG_0, prs_nil, h1d, h2d, h3d]; done) | (rw [show rectE x0 y0 x1 y1 = 1 from if_neg (fun h => by omega)]; rfl) | rw [rectE_bad (fun h => by omega)]; rfl | rw [show rectE x0 y0 x1 y1 = 0 from if_pos ⟨by assumption, by omega, by omega, by omega, by omega⟩]; rfl | rw [rectE_bad (fun h => by simp_all)]; rfl)⟩ ?_)
        exact absW
    · have h2d := h2
      try simp only [Bool.not_eq_true', Bool.not_eq_false', decide_eq_true_eq, decide_eq_false_iff_not, beq_iff_eq, bne_iff_ne, ne_eq, Bool.not_eq_true, Bool.not_eq_false, beq_eq_false_iff_ne, bne_eq_false_iff_eq, Classical.not_not, Bool.and_eq_true, Bool.and_eq_false_imp] at h2d
      have g'9 := (jn @h2 (jn @h2d g'1))
      refine runTf g'9 ?_
      refine hQ _ _ (end_byG (.inl rfl) hbel (x1 := .tup [.agg [.int .i64 0, .int .i64 0, .sl none 0 (some 0)], .int .i64 1]) (l2 := [.cells false 2 []]) (.tup [.agg [.int .i64 0, .int .i64 0, .sl (some (H.length, 0)) 0 (some 0)], .int .i64 1]) (resT Tryz.results50) [.cells false 2 []] rfl [3] (by decide) ⟨(by first | (simp [mkX, mkL, rectE, capG_0, ownG_0, prs_nil, h1d, h2d]; done) | (rw [show rectE x0 y0 x1 y1 = 1 from if_neg (fun h => by omega)]; rfl) | rw [rectE_bad (fun h => by omega)]; rfl | rw [show rectE x0 y0 x1 y1 = 0 from if_pos ⟨by assumption, by omega, by omega, by omega, by omega⟩]; rfl | rw [rectE_bad (fun h => by simp_all)]; rfl), (by first | (simp [mkX, mkL, rectE, capG_0, ownG_0, prs_nil, h1d, h2d]; done) | (rw [show rectE x0 y0 x1 y1 = 1 from if_neg (fun h => by omega)]; rfl) | rw [rectE_bad (fun h => by omega)]; rfl | rw [show rectE x0 y0 x1 y1 = 0 from if_pos ⟨by assumption, by omega, by omega, by omega, by omega⟩]; rfl | rw [rectE_bad (fun h => by simp_all)]; rfl)⟩ ?_)
      exact absW
  · have h1d := h1
    try simp only [Bool.not_eq_true', Bool.not_eq_false', decide_eq_true_eq, decide_eq_false_iff_not, beq_iff_eq, bne_iff_ne, ne_eq, Bool.not_eq_true, Bool.not_eq_false, beq_eq_false_iff_ne, bne_eq_false_iff_eq, Classical.not_not, Bool.and_eq_true, Bool.and_eq_false_imp] at h1d
    have g'10 := (jn @h1 @h1d)
    refine runTf g'10 ?_
    refine hQ _ _ (end_byG (.inl rfl) hbel (x1 := .tup [.agg [.int .i64 0, .int .i64 0, .sl none 0 (some 0)], .int .i64 1]) (l2 := [.cells false 2 []]) (.tup [.agg [.int .i64 0, .int .i64 0, .sl (some (H.length, 0)) 0 (some 0)], .int .i64 1]) (resT Tryz.results50) [.cells false 2 []] rfl [3] (by decide) ⟨(by first | (simp [mkX, mkL, rectE, capG_0, ownG_0, prs_nil, h1d]; done) | (rw [show rectE x0 y0 x1 y1 = 1 from if_neg (fun h => by omega)]; rfl) | rw [rectE_bad (fun h => by omega)]; rfl | rw [show rectE x0 y0 x1 y1 = 0 from if_pos ⟨by assumption, by omega, by omega, by omega, by omega⟩]; rfl | rw [rectE_bad (fun h => by simp_all)]; rfl), (by first | (simp [mkX, mkL, rectE, capG_0, ownG_0, prs_nil, h1d]; done) | (rw [show rectE x0 y0 x1 y1 = 1 from if_neg (fun h => by omega)]; rfl) | rw [rectE_bad (fun h => by omega)]; rfl | rw [show rectE x0 y0 x1 y1 = 0 from if_pos ⟨by assumption, by omega, by omega, by omega, by omega⟩]; rfl | rw [rectE_bad (fun h => by simp_all)]; rfl)⟩ ?_)
    exact absW
theorem ofseg_c (H : AHeap) (x0 : Int) (y0 : Int) (x1 : Int) (y1 : Int) : ACalls Tryz.prog 54 [.agg [.int .i64 x0, .int .i64 y0], .agg [.int .i64 x1, .int .i64 y1]] H (fun v H' => v = .tup [.agg [.int .i64 (mkX (segE x0 y0 x1 y1) (x0 + x1)), .int .i64 (mkX (segE x0 y0 x1 y1) (y0 + y1)), .sl (some (H.length, 0)) ((mkL (segE x0 y0 x1 y1) (canonL [(x1 - x0, y1 - y0)])).length) (capG (mkL (segE x0 y0 x1 y1) (canonL [(x1 - x0, y1 - y0)])).length)], .int .i64 (segE x0 y0 x1 y1)] ∧ H' = H ++ [.cells (ownG (mkL (segE x0 y0 x1 y1) (canonL [(x1 - x0, y1 - y0)])).length) 2 (prs (mkL (segE x0 y0 x1 y1) (canonL [(x1 - x0, y1 - y0)])))]) := by
  refine AcT true Tryz.func54 ?_; intro hbel Q hQ
  refine runT ?_
  refine call_v (by kernel_rfl) (near_c _ _ [x0, y0, x1, y1] (.inr ⟨_, _, _, by first | rfl | (rw [List.length_append]; rfl), by first | rfl | (rw [get_newk]; rfl) | (rw [get_new0]; rfl) | (rw [get_newk, prs_append]; rfl) | (rw [get_new0, prs_append]; rfl)⟩) (by simp)) ?_
  rw [far4_any]
  refine runT ?_
  refine gd_split (fun h1 => ?_) (fun h1 => ?_)
  · have h1d := h1
    try simp only [Bool.not_eq_true', Bool.not_eq_false', decide_eq_true_eq, decide_eq_false_iff_not, beq_iff_eq, bne_iff_ne, ne_eq, Bool.not_eq_true, Bool.not_eq_false, beq_eq_false_iff_ne, bne_eq_false_iff_eq, Classical.not_not, Bool.and_eq_true, Bool.and_eq_false_imp] at h1d
    have hfar := far4_bd h1d
    have g'11 := (jn @h1 @h1d)
    refine runTf g'11 ?_
    refine call_v (by kernel_rfl) (size_c _ _ _ (by decide)) ?_
    refine runTf g'11 ?_
    refine gd_split (fun h2 => ?_) (fun h2 => ?_)
    · have h2d := h2
      try simp only [Bool.not_eq_true', Bool.not_eq_false', decide_eq_true_eq, decide_eq_false_iff_not, beq_iff_eq, bne_iff_ne, ne_eq, Bool.not_eq_true, Bool.not_eq_false, beq_eq_false_iff_ne, bne_eq_false_iff_eq, Classical.not_not, Bool.and_eq_true, Bool.and_eq_false_imp] at h2d
      have g'12 := (jn @h2 (jn @h2d g'11))
      refine runTf g'12 ?_
      refine call_v (by kernel_rfl) (size_c _ _ _ (by decide)) ?_
      refine runTf g'12 ?_
      refine cond_split (fun h3 => ?_) (fun h3 => ?_)
      · have h3d := h3
        try simp only [Bool.not_eq_true', Bool.not_eq_false', decide_eq_true_eq, decide_eq_false_iff_not, beq_iff_eq, bne_iff_ne, ne_eq, Bool.not_eq_true, Bool.not_eq_false, beq_eq_false_iff_ne, bne_eq_false_iff_eq, Classical.not_not, Bool.and_eq_true, Bool.and_eq_false_imp] at h3d
        have g'13 := (jn @h3 (jn @h3d g'12))
        refine runTf g'13 ?_
        refine hQ _ _ (end_byG (.inl rfl) hbel (x1 := .tup [.agg [.int .i64 0, .int .i64 0, .sl none 0 (some 0)], .int .i64 1]) (l2 := [.cells false 2 []]) (.tup [.agg [.int .i64 0, .int .i64 0, .sl (some (H.length, 0)) 0 (some 0)], .int .i64 1]) (resT Tryz.results54) [.cells false 2 []] rfl [4] (by decide) ⟨by simp [mkX, mkL, segE, capG_0, ownG_0, prs_nil, h1d, h2d, h3d], by simp [mkX, mkL, segE, capG_0, ownG_0, prs_nil, h1d, h2d, h3d]⟩ ?_)
        exact absW
      · have h3d := h3
        try simp only [Bool.not_eq_true', Bool.not_eq_false', decide_eq_true_eq, decide_eq_false_iff_not, beq_iff_eq, bne_iff_ne, ne_eq, Bool.not_eq_true, Bool.not_eq_false, beq_eq_false_iff_ne, bne_eq_false_iff_eq, Classical.not_not, Bool.and_eq_true, Bool.and_eq_false_imp] at h3d
        have g'14 := (jn @h3 (jn @h3d g'12))
        refine runTf g'14 ?_
        have hB4 : ∀ e ∈ [((x1 - x0 : Int), (y1 - y0 : Int))], Bd 4194304 e := fun e he => by
          simp only [List.mem_cons, List.not_mem_nil, or_false] at he
          first | (rcases he with rfl | rfl <;> (unfold Bd; simp only; omega)) | (subst he; unfold Bd; simp only; omega)
        refine call_v (by kernel_rfl) (canonical_u _ (x0 + x1) (y0 + y1) _ [(x1 - x0, y1 - y0)] (.inr ⟨_, _, _, by first | rfl | (rw [List.length_append]; rfl), by first | rfl | (rw [get_newk]; rfl) | (rw [get_new0]; rfl) | (rw [get_newk, prs_append]; rfl) | (rw [get_new0, prs_append]; rfl)⟩) (by first | omega | (simp only [List.length_cons, List.length_nil]; omega) | exact Nat.le_trans (mkL_len _ _) (by first | omega | simp) | exact Nat.le_trans (vL_len _ _) (by first | omega | simp) | exact Nat.le_trans corV_len (by omega) | exact Nat.le_trans (canonL_len _) (by first | omega | simp)) (by assumption)) ?_
        refine runTf g'14 ?_
        refine hQ _ _ (end_byG (.inl rfl) hbel (x1 := .tup [.agg [.int .i64 (x0 + x1), .int .i64 (y0 + y1), .sl (some (H.length + 5, 0)) ((canonL [(x1 - x0, y1 - y0)]).length) (capG (canonL [(x1 - x0, y1 - y0)]).length)], .int .i64 0]) (l2 := [.cells (ownG (canonL [(x1 - x0, y1 - y0)]).length) 2 (prs (canonL [(x1 - x0, y1 - y0)]))]) (.tup [.agg [.int .i64 (x0 + x1), .int .i64 (y0 + y1), .sl (some (H.length, 0)) ((canonL [(x1 - x0, y1 - y0)]).length) (capG (canonL [(x1 - x0, y1 - y0)]).length)], .int .i64 0]) (resT Tryz.results54) [] rfl [5] (by decide) ⟨by simp [mkX, mkL, segE, capG_0, ownG_0, prs_nil, h1d, h2d, h3d], by simp [mkX, mkL, segE, capG_0, ownG_0, prs_nil, h1d, h2d, h3d]⟩ ?_)
        exact absW
    · have h2d := h2
      try simp only [Bool.not_eq_true', Bool.not_eq_false', decide_eq_true_eq, decide_eq_false_iff_not, beq_iff_eq, bne_iff_ne, ne_eq, Bool.not_eq_true, Bool.not_eq_false, beq_eq_false_iff_ne, bne_eq_false_iff_eq, Classical.not_not, Bool.and_eq_true, Bool.and_eq_false_imp] at h2d
      have g'15 := (jn @h2 (jn @h2d g'11))
      refine runTf g'15 ?_
      refine hQ _ _ (end_byG (.inl rfl) hbel (x1 := .tup [.agg [.int .i64 0, .int .i64 0, .sl none 0 (some 0)], .int .i64 1]) (l2 := [.cells false 2 []]) (.tup [.agg [.int .i64 0, .int .i64 0, .sl (some (H.length, 0)) 0 (some 0)], .int .i64 1]) (resT Tryz.results54) [.cells false 2 []] rfl [4] (by decide) ⟨by simp [mkX, mkL, segE, capG_0, ownG_0, prs_nil, h1d, h2d], by simp [mkX, mkL, segE, capG_0, ownG_0, prs_nil, h1d, h2d]⟩ ?_)
      exact absW
  · have h1d := h1
    try simp only [Bool.not_eq_true', Bool.not_eq_false', decide_eq_true_eq, decide_eq_false_iff_not, beq_iff_eq, bne_iff_ne, ne_eq, Bool.not_eq_true, Bool.not_eq_false, beq_eq_false_iff_ne, bne_eq_false_iff_eq, Classical.not_not, Bool.and_eq_true, Bool.and_eq_false_imp] at h1d
    have g'16 := (jn @h1 @h1d)
    refine runTf g'16 ?_
    refine hQ _ _ (end_byG (.inl rfl) hbel (x1 := .tup [.agg [.int .i64 0, .int .i64 0, .sl none 0 (some 0)], .int .i64 1]) (l2 := [.cells false 2 []]) (.tup [.agg [.int .i64 0, .int .i64 0, .sl (some (H.length, 0)) 0 (some 0)], .int .i64 1]) (resT Tryz.results54) [.cells false 2 []] rfl [4] (by decide) ⟨by simp [mkX, mkL, segE, capG_0, ownG_0, prs_nil, h1d], by simp [mkX, mkL, segE, capG_0, ownG_0, prs_nil, h1d]⟩ ?_)
    exact absW
theorem ordered_c (H : AHeap) (x0 : Int) (y0 : Int) (x1 : Int) (y1 : Int) : ACalls Tryz.prog 114 [.agg [.int .i64 x0, .int .i64 y0, .int .i64 x1, .int .i64 y1]] H (fun v H' => v = .bool (ordR x0 y0 x1 y1) ∧ H' = H) := by
  refine AcT true Tryz.func114 ?_; intro hbel Q hQ
  refine runT ?_
  refine gd_split (fun h1 => ?_) (fun h1 => ?_)
  · have h1d := h1
    try simp only [Bool.not_eq_true', Bool.not_eq_false', decide_eq_true_eq, decide_eq_false_iff_not, beq_iff_eq, bne_iff_ne, ne_eq, Bool.not_eq_true, Bool.not_eq_false, beq_eq_false_iff_ne, bne_eq_false_iff_eq, Classical.not_not, Bool.and_eq_true, Bool.and_eq_false_imp] at h1d
    have g'17 := (jn @h1 @h1d)
    refine runTf g'17 ?_
    refine gd_split (fun h2 => ?_) (fun h2 => ?_)
    · have h2d := h2
      try simp only [Bool.not_eq_true', Bool.not_eq_false', decide_eq_true_eq, decide_eq_false_iff_not, beq_iff_eq, bne_iff_ne, ne_eq, Bool.not_eq_true, Bool.not_eq_false, beq_eq_false_iff_ne, bne_eq_false_iff_eq, Classical.not_not, Bool.and_eq_true, Bool.and_eq_false_imp] at h2d
      have g'18 := (jn @h2 (jn @h2d g'17))
      refine runTf g'18 ?_
      refine call_v (by kernel_rfl) (rwithin_c _ _ _ (by decide)) ?_
      refine runTf g'18 ?_
      refine gd_split (fun h3 => ?_) (fun h3 => ?_)
      · have h3d := h3
        try simp only [Bool.not_eq_true', Bool.not_eq_false', decide_eq_true_eq, decide_eq_false_iff_not, beq_iff_eq, bne_iff_ne, ne_eq, Bool.not_eq_true, Bool.not_eq_false, beq_eq_false_iff_ne, bne_eq_false_iff_eq, Classical.not_not, Bool.and_eq_true, Bool.and_eq_false_imp] at h3d
        have g'19 := (jn @h3 (jn @h3d g'18))
        refine runTf g'19 ?_
        refine call_v (by kernel_rfl) (rwithin_c _ _ _ (by decide)) ?_
        refine runTf g'19 ?_
        refine gd_split (fun h4 => ?_) (fun h4 => ?_)
        · have h4d := h4
          try simp only [Bool.not_eq_true', Bool.not_eq_false', decide_eq_true_eq, decide_eq_false_iff_not, beq_iff_eq, bne_iff_ne, ne_eq, Bool.not_eq_true, Bool.not_eq_false, beq_eq_false_iff_ne, bne_eq_false_iff_eq, Classical.not_not, Bool.and_eq_true, Bool.and_eq_false_imp] at h4d
          have g'20 := (jn @h4 (jn @h4d g'19))
          refine runTf g'20 ?_
          refine call_v (by kernel_rfl) (rwithin_c _ _ _ (by decide)) ?_
          refine runTf g'20 ?_
          refine gd_split (fun h5 => ?_) (fun h5 => ?_)
          · have h5d := h5
            try simp only [Bool.not_eq_true', Bool.not_eq_false', decide_eq_true_eq, decide_eq_false_iff_not, beq_iff_eq, bne_iff_ne, ne_eq, Bool.not_eq_true, Bool.not_eq_false, beq_eq_false_iff_ne, bne_eq_false_iff_eq, Classical.not_not, Bool.and_eq_true, Bool.and_eq_false_imp] at h5d
            have g'21 := (jn @h5 (jn @h5d g'20))
            refine runTf g'21 ?_
            refine call_v (by kernel_rfl) (rwithin_c _ _ _ (by decide)) ?_
            refine runTf g'21 ?_
            exact hQ _ _ (end_plain (.inl rfl) hbel (x := .bool (within y1 2097152)) (resT Tryz.results114) rfl ⟨by simp [ordR, far4, h1d, h2d, h3d, h4d, h5d], rfl⟩)
          · have h5d := h5
            try simp only [Bool.not_eq_true', Bool.not_eq_false', decide_eq_true_eq, decide_eq_false_iff_not, beq_iff_eq, bne_iff_ne, ne_eq, Bool.not_eq_true, Bool.not_eq_false, beq_eq_false_iff_ne, bne_eq_false_iff_eq, Classical.not_not, Bool.and_eq_true, Bool.and_eq_false_imp] at h5d
            have g'22 := (jn @h5 (jn @h5d g'20))
            refine runTf g'22 ?_
            exact hQ _ _ (end_plain (.inl rfl) hbel (x := .bool false) (resT Tryz.results114) rfl ⟨by simp [ordR, far4, h1d, h2d, h3d, h4d, h5d], rfl⟩)
        · have h4d := h4
          try simp only [Bool.not_eq_true', Bool.not_eq_false', decide_eq_true_eq, decide_eq_false_iff_not, beq_iff_eq, bne_iff_ne, ne_eq, Bool.not_eq_true, Bool.not_eq_false, beq_eq_false_iff_ne, bne_eq_false_iff_eq, Classical.not_not, Bool.and_eq_true, Bool.and_eq_false_imp] at h4d
          have g'23 := (jn @h4 (jn @h4d g'19))
          refine runTf g'23 ?_
          exact hQ _ _ (end_plain (.inl rfl) hbel (x := .bool false) (resT Tryz.results114) rfl ⟨by simp [ordR, far4, h1d, h2d, h3d, h4d], rfl⟩)
      · have h3d := h3
        try simp only [Bool.not_eq_true', Bool.not_eq_false', decide_eq_true_eq, decide_eq_false_iff_not, beq_iff_eq, bne_iff_ne, ne_eq, Bool.not_eq_true, Bool.not_eq_false, beq_eq_false_iff_ne, bne_eq_false_iff_eq, Classical.not_not, Bool.and_eq_true, Bool.and_eq_false_imp] at h3d
        have g'24 := (jn @h3 (jn @h3d g'18))
        refine runTf g'24 ?_
        exact hQ _ _ (end_plain (.inl rfl) hbel (x := .bool false) (resT Tryz.results114) rfl ⟨by simp [ordR, far4, h1d, h2d, h3d], rfl⟩)
    · have h2d := h2
      try simp only [Bool.not_eq_true', Bool.not_eq_false', decide_eq_true_eq, decide_eq_false_iff_not, beq_iff_eq, bne_iff_ne, ne_eq, Bool.not_eq_true, Bool.not_eq_false, beq_eq_false_iff_ne, bne_eq_false_iff_eq, Classical.not_not, Bool.and_eq_true, Bool.and_eq_false_imp] at h2d
      have g'25 := (jn @h2 (jn @h2d g'17))
      refine runTf g'25 ?_
      exact hQ _ _ (end_plain (.inl rfl) hbel (x := .bool false) (resT Tryz.results114) rfl ⟨by simp [ordR, far4, h1d, h2d], rfl⟩)
  · have h1d := h1
    try simp only [Bool.not_eq_true', Bool.not_eq_false', decide_eq_true_eq, decide_eq_false_iff_not, beq_iff_eq, bne_iff_ne, ne_eq, Bool.not_eq_true, Bool.not_eq_false, beq_eq_false_iff_ne, bne_eq_false_iff_eq, Classical.not_not, Bool.and_eq_true, Bool.and_eq_false_imp] at h1d
    have g'26 := (jn @h1 @h1d)
    refine runTf g'26 ?_
    exact hQ _ _ (end_plain (.inl rfl) hbel (x := .bool false) (resT Tryz.results114) rfl ⟨by simp [ordR, far4, h1d], rfl⟩)
theorem rrect_c (H : AHeap) (x0 : Int) (y0 : Int) (x1 : Int) (y1 : Int) (hfar : (-2097152 ≤ x0 ∧ x0 ≤ 2097152) ∧ (-2097152 ≤ y0 ∧ y0 ≤ 2097152) ∧ (-2097152 ≤ x1 ∧ x1 ≤ 2097152) ∧ (-2097152 ≤ y1 ∧ y1 ≤ 2097152)) : ACalls Tryz.prog 115 [.agg [.int .i64 x0, .int .i64 y0, .int .i64 x1, .int .i64 y1]] H (fun v H' => v = .agg [.int .i64 (x0 + x1), .int .i64 (y0 + y1), .sl (some (H.length, 0)) ((canonL [(x1 - x0, 0), (0, y1 - y0)]).length) (capG (canonL [(x1 - x0, 0), (0, y1 - y0)]).length)] ∧ H' = H ++ [.cells (ownG (canonL [(x1 - x0, 0), (0, y1 - y0)]).length) 2 (prs (canonL [(x1 - x0, 0), (0, y1 - y0)]))]) := by
  refine AcT true Tryz.func115 ?_; intro hbel Q hQ
  refine runT ?_
  have hB4 : ∀ e ∈ [((x1 - x0 : Int), (0 : Int)), (0, y1 - y0)], Bd 4194304 e := fun e he => by
    simp only [List.mem_cons, List.not_mem_nil, or_false] at he
    first | (rcases he with rfl | rfl <;> (unfold Bd; simp only; omega)) | (subst he; unfold Bd; simp only; omega)
  refine call_v (by kernel_rfl) (rcanon_u _ (x0 + x1) (y0 + y1) _ [(x1 - x0, 0), (0, y1 - y0)] (.inr ⟨_, _, _, by first | rfl | (rw [List.length_append]; rfl), by first | rfl | (rw [get_newk]; rfl) | (rw [get_new0]; rfl) | (rw [get_newk, prs_append]; rfl) | (rw [get_new0, prs_append]; rfl)⟩) (by first | omega | (simp only [List.length_cons, List.length_nil]; omega) | exact Nat.le_trans (mkL_len _ _) (by first | omega | simp) | exact Nat.le_trans (vL_len _ _) (by first | omega | simp) | exact Nat.le_trans corV_len (by omega) | exact Nat.le_trans (canonL_len _) (by first | omega | simp)) (by assumption)) ?_
  refine runT ?_
  refine hQ _ _ (end_byG (.inl rfl) hbel (x1 := .agg [.int .i64 (x0 + x1), .int .i64 (y0 + y1), .sl (some (H.length + 3, 0)) ((canonL [(x1 - x0, 0), (0, y1 - y0)]).length) (capG (canonL [(x1 - x0, 0), (0, y1 - y0)]).length)]) (l2 := [.cells (ownG (canonL [(x1 - x0, 0), (0, y1 - y0)]).length) 2 (prs (canonL [(x1 - x0, 0), (0, y1 - y0)]))]) (.agg [.int .i64 (x0 + x1), .int .i64 (y0 + y1), .sl (some (H.length, 0)) ((canonL [(x1 - x0, 0), (0, y1 - y0)]).length) (capG (canonL [(x1 - x0, 0), (0, y1 - y0)]).length)]) (resT Tryz.results115) [] rfl [3] (by decide) ⟨rfl, rfl⟩ ?_)
  exact absW
theorem rofrect_c (H : AHeap) (x0 : Int) (y0 : Int) (x1 : Int) (y1 : Int) : ACalls Tryz.prog 58 [.agg [.int .i64 x0, .int .i64 y0, .int .i64 x1, .int .i64 y1]] H (fun v H' => v = .tup [.agg [.int .i64 (mkX (rectE x0 y0 x1 y1) (x0 + x1)), .int .i64 (mkX (rectE x0 y0 x1 y1) (y0 + y1)), .sl (some (H.length, 0)) ((mkL (rectE x0 y0 x1 y1) (canonL [(x1 - x0, 0), (0, y1 - y0)])).length) (capG (mkL (rectE x0 y0 x1 y1) (canonL [(x1 - x0, 0), (0, y1 - y0)])).length)], .int .i64 (rectE x0 y0 x1 y1)] ∧ H' = H ++ [.cells (ownG (mkL (rectE x0 y0 x1 y1) (canonL [(x1 - x0, 0), (0, y1 - y0)])).length) 2 (prs (mkL (rectE x0 y0 x1 y1) (canonL [(x1 - x0, 0), (0, y1 - y0)])))]) := by
  refine AcT true Tryz.func58 ?_; intro hbel Q hQ
  refine runT ?_
  refine call_v (by kernel_rfl) (ordered_c _ x0 y0 x1 y1) ?_
  refine runT ?_
  refine gd_split (fun h1 => ?_) (fun h1 => ?_)
  · have h1d := h1
    try simp only [Bool.not_eq_true', Bool.not_eq_false', decide_eq_true_eq, decide_eq_false_iff_not, beq_iff_eq, bne_iff_ne, ne_eq, Bool.not_eq_true, Bool.not_eq_false, beq_eq_false_iff_ne, bne_eq_false_iff_eq, Classical.not_not, Bool.and_eq_true, Bool.and_eq_false_imp] at h1d
    have hord := h1d
    simp only [ordR, Bool.and_eq_true, decide_eq_true_eq] at hord
    have hfar := far4_bd hord.2.2
    have hfin := hord
    have g'27 := (jn @h1 @h1d)
    refine runTf g'27 ?_
    refine gd_split (fun h2 => ?_) (fun h2 => ?_)
    · have h2d := h2
      try simp only [Bool.not_eq_true', Bool.not_eq_false', decide_eq_true_eq, decide_eq_false_iff_not, beq_iff_eq, bne_iff_ne, ne_eq, Bool.not_eq_true, Bool.not_eq_false, beq_eq_false_iff_ne, bne_eq_false_iff_eq, Classical.not_not, Bool.and_eq_true, Bool.and_eq_false_imp] at h2d
      have g'28 := (jn @h2 (jn @h2d g'27))
      refine runTf g'28 ?_
      refine cond_split (fun h3 => ?_) (fun h3 => ?_)
      · have h3d := h3
        try simp only [Bool.not_eq_true', Bool.not_eq_false', decide_eq_true_eq, decide_eq_false_iff_not, beq_iff_eq, bne_iff_ne, ne_eq, Bool.not_eq_true, Bool.not_eq_false, beq_eq_false_iff_ne, bne_eq_false_iff_eq, Classical.not_not, Bool.and_eq_true, Bool.and_eq_false_imp] at h3d
        have g'29 := (jn @h3 (jn @h3d g'28))
        refine runTf g'29 ?_
        refine hQ _ _ (end_byG (.inl rfl) hbel (x1 := .tup [.agg [.int .i64 0, .int .i64 0, .sl none 0 (some 0)], .int .i64 1]) (l2 := [.cells false 2 []]) (.tup [.agg [.int .i64 0, .int .i64 0, .sl (some (H.length, 0)) 0 (some 0)], .int .i64 1]) (resT Tryz.results58) [.cells false 2 []] rfl [2] (by decide) ⟨by first | (simp [mkX, mkL, hfin, capG_0, ownG_0, prs_nil]; done) | (rw [show rectE x0 y0 x1 y1 = 1 from if_neg (fun h => by omega)]; rfl) | (rw [show rectE x0 y0 x1 y1 = 0 from if_pos ⟨hord.2.2, hord.1, hord.2.1, by omega, by omega⟩]; rfl), by first | (simp [mkX, mkL, hfin, capG_0, ownG_0, prs_nil]; done) | (rw [show rectE x0 y0 x1 y1 = 1 from if_neg (fun h => by omega)]; rfl) | (rw [show rectE x0 y0 x1 y1 = 0 from if_pos ⟨hord.2.2, hord.1, hord.2.1, by omega, by omega⟩]; rfl)⟩ ?_)
        exact absW
      · have h3d := h3
        try simp only [Bool.not_eq_true', Bool.not_eq_false', decide_eq_true_eq, decide_eq_false_iff_not, beq_iff_eq, bne_iff_ne, ne_eq, Bool.not_eq_true, Bool.not_eq_false, beq_eq_false_iff_ne, bne_eq_false_iff_eq, Classical.not_not, Bool.and_eq_true, Bool.and_eq_false_imp] at h3d
        have g'30 := (jn @h3 (jn @h3d g'28))
        refine runTf g'30 ?_
        refine call_v (by kernel_rfl) (rrect_c _ x0 y0 x1 y1 (by assumption)) ?_
        refine runTf g'30 ?_
        refine hQ _ _ (end_byG (.inl rfl) hbel (x1 := .tup [.agg [.int .i64 (x0 + x1), .int .i64 (y0 + y1), .sl (some (H.length + 2, 0)) ((canonL [(x1 - x0, 0), (0, y1 - y0)]).length) (capG (canonL [(x1 - x0, 0), (0, y1 - y0)]).length)], .int .i64 0]) (l2 := [.cells (ownG (canonL [(x1 - x0, 0), (0, y1 - y0)]).length) 2 (prs (canonL [(x1 - x0, 0), (0, y1 - y0)]))]) (.tup [.agg [.int .i64 (x0 + x1), .int .i64 (y0 + y1), .sl (some (H.length, 0)) ((canonL [(x1 - x0, 0), (0, y1 - y0)]).length) (capG (canonL [(x1 - x0, 0), (0, y1 - y0)]).length)], .int .i64 0]) (resT Tryz.results58) [] rfl [2] (by decide) ⟨by first | (simp [mkX, mkL, hfin, capG_0, ownG_0, prs_nil]; done) | (rw [show rectE x0 y0 x1 y1 = 1 from if_neg (fun h => by omega)]; rfl) | (rw [show rectE x0 y0 x1 y1 = 0 from if_pos ⟨hord.2.2, hord.1, hord.2.1, by omega, by omega⟩]; rfl), by first | (simp [mkX, mkL, hfin, capG_0, ownG_0, prs_nil]; done) | (rw [show rectE x0 y0 x1 y1 = 1 from if_neg (fun h => by omega)]; rfl) | (rw [show rectE x0 y0 x1 y1 = 0 from if_pos ⟨hord.2.2, hord.1, hord.2.1, by omega, by omega⟩]; rfl)⟩ ?_)
        exact absW
    · have h2d := h2
      try simp only [Bool.not_eq_true', Bool.not_eq_false', decide_eq_true_eq, decide_eq_false_iff_not, beq_iff_eq, bne_iff_ne, ne_eq, Bool.not_eq_true, Bool.not_eq_false, beq_eq_false_iff_ne, bne_eq_false_iff_eq, Classical.not_not, Bool.and_eq_true, Bool.and_eq_false_imp] at h2d
      have g'31 := (jn @h2 (jn @h2d g'27))
      refine runTf g'31 ?_
      refine hQ _ _ (end_byG (.inl rfl) hbel (x1 := .tup [.agg [.int .i64 0, .int .i64 0, .sl none 0 (some 0)], .int .i64 1]) (l2 := [.cells false 2 []]) (.tup [.agg [.int .i64 0, .int .i64 0, .sl (some (H.length, 0)) 0 (some 0)], .int .i64 1]) (resT Tryz.results58) [.cells false 2 []] rfl [2] (by decide) ⟨by first | (simp [mkX, mkL, hfin, capG_0, ownG_0, prs_nil]; done) | (rw [show rectE x0 y0 x1 y1 = 1 from if_neg (fun h => by omega)]; rfl) | (rw [show rectE x0 y0 x1 y1 = 0 from if_pos ⟨hord.2.2, hord.1, hord.2.1, by omega, by omega⟩]; rfl), by first | (simp [mkX, mkL, hfin, capG_0, ownG_0, prs_nil]; done) | (rw [show rectE x0 y0 x1 y1 = 1 from if_neg (fun h => by omega)]; rfl) | (rw [show rectE x0 y0 x1 y1 = 0 from if_pos ⟨hord.2.2, hord.1, hord.2.1, by omega, by omega⟩]; rfl)⟩ ?_)
      exact absW
  · have h1d := h1
    try simp only [Bool.not_eq_true', Bool.not_eq_false', decide_eq_true_eq, decide_eq_false_iff_not, beq_iff_eq, bne_iff_ne, ne_eq, Bool.not_eq_true, Bool.not_eq_false, beq_eq_false_iff_ne, bne_eq_false_iff_eq, Classical.not_not, Bool.and_eq_true, Bool.and_eq_false_imp] at h1d
    have hfin : rectE x0 y0 x1 y1 = 1 := if_neg (fun hh => by have := h1d; simp [ordR, hh.1, hh.2.1, hh.2.2.1] at this)
    have g'32 := (jn @h1 @h1d)
    refine runTf g'32 ?_
    refine hQ _ _ (end_byG (.inl rfl) hbel (x1 := .tup [.agg [.int .i64 0, .int .i64 0, .sl none 0 (some 0)], .int .i64 1]) (l2 := [.cells false 2 []]) (.tup [.agg [.int .i64 0, .int .i64 0, .sl (some (H.length, 0)) 0 (some 0)], .int .i64 1]) (resT Tryz.results58) [.cells false 2 []] rfl [2] (by decide) ⟨by first | (simp [mkX, mkL, hfin, capG_0, ownG_0, prs_nil]; done) | (rw [show rectE x0 y0 x1 y1 = 1 from if_neg (fun h => by omega)]; rfl) | (rw [show rectE x0 y0 x1 y1 = 0 from if_pos ⟨hord.2.2, hord.1, hord.2.1, by omega, by omega⟩]; rfl), by first | (simp [mkX, mkL, hfin, capG_0, ownG_0, prs_nil]; done) | (rw [show rectE x0 y0 x1 y1 = 1 from if_neg (fun h => by omega)]; rfl) | (rw [show rectE x0 y0 x1 y1 = 0 from if_pos ⟨hord.2.2, hord.1, hord.2.1, by omega, by omega⟩]; rfl)⟩ ?_)
    exact absW
theorem rofseg_c (H : AHeap) (x0 : Int) (y0 : Int) (x1 : Int) (y1 : Int) : ACalls Tryz.prog 59 [.agg [.int .i64 x0, .int .i64 y0], .agg [.int .i64 x1, .int .i64 y1]] H (fun v H' => v = .tup [.agg [.int .i64 (mkX (segE x0 y0 x1 y1) (x0 + x1)), .int .i64 (mkX (segE x0 y0 x1 y1) (y0 + y1)), .sl (some (H.length, 0)) ((mkL (segE x0 y0 x1 y1) (canonL [(x1 - x0, y1 - y0)])).length) (capG (mkL (segE x0 y0 x1 y1) (canonL [(x1 - x0, y1 - y0)])).length)], .int .i64 (segE x0 y0 x1 y1)] ∧ H' = H ++ [.cells (ownG (mkL (segE x0 y0 x1 y1) (canonL [(x1 - x0, y1 - y0)])).length) 2 (prs (mkL (segE x0 y0 x1 y1) (canonL [(x1 - x0, y1 - y0)])))]) := by
  refine AcT true Tryz.func59 ?_; intro hbel Q hQ
  refine runT ?_
  refine call_v (by kernel_rfl) (rwithin_c _ _ _ (by decide)) ?_
  refine runT ?_
  refine gd_split (fun h1 => ?_) (fun h1 => ?_)
  · have h1d := h1
    try simp only [Bool.not_eq_true', Bool.not_eq_false', decide_eq_true_eq, decide_eq_false_iff_not, beq_iff_eq, bne_iff_ne, ne_eq, Bool.not_eq_true, Bool.not_eq_false, beq_eq_false_iff_ne, bne_eq_false_iff_eq, Classical.not_not, Bool.and_eq_true, Bool.and_eq_false_imp] at h1d
    have g'33 := (jn @h1 @h1d)
    refine runTf g'33 ?_
    refine call_v (by kernel_rfl) (rwithin_c _ _ _ (by decide)) ?_
    refine runTf g'33 ?_
    refine gd_split (fun h2 => ?_) (fun h2 => ?_)
    · have h2d := h2
      try simp only [Bool.not_eq_true', Bool.not_eq_false', decide_eq_true_eq, decide_eq_false_iff_not, beq_iff_eq, bne_iff_ne, ne_eq, Bool.not_eq_true, Bool.not_eq_false, beq_eq_false_iff_ne, bne_eq_false_iff_eq, Classical.not_not, Bool.and_eq_true, Bool.and_eq_false_imp] at h2d
      have g'34 := (jn @h2 (jn @h2d g'33))
      refine runTf g'34 ?_
      refine call_v (by kernel_rfl) (rwithin_c _ _ _ (by decide)) ?_
      refine runTf g'34 ?_
      refine gd_split (fun h3 => ?_) (fun h3 => ?_)
      · have h3d := h3
        try simp only [Bool.not_eq_true', Bool.not_eq_false', decide_eq_true_eq, decide_eq_false_iff_not, beq_iff_eq, bne_iff_ne, ne_eq, Bool.not_eq_true, Bool.not_eq_false, beq_eq_false_iff_ne, bne_eq_false_iff_eq, Classical.not_not, Bool.and_eq_true, Bool.and_eq_false_imp] at h3d
        have g'35 := (jn @h3 (jn @h3d g'34))
        refine runTf g'35 ?_
        refine call_v (by kernel_rfl) (rwithin_c _ _ _ (by decide)) ?_
        refine runTf g'35 ?_
        refine gd_split (fun h4 => ?_) (fun h4 => ?_)
        · have h4d := h4
          try simp only [Bool.not_eq_true', Bool.not_eq_false', decide_eq_true_eq, decide_eq_false_iff_not, beq_iff_eq, bne_iff_ne, ne_eq, Bool.not_eq_true, Bool.not_eq_false, beq_eq_false_iff_ne, bne_eq_false_iff_eq, Classical.not_not, Bool.and_eq_true, Bool.and_eq_false_imp] at h4d
          have g'36 := (jn @h4 (jn @h4d g'35))
          refine runTf g'36 ?_
          have hfar := far4_bd (a := x0) (b := y0) (c := x1) (d := y1) (by simp [far4, *])
          refine call_v (by kernel_rfl) (rwithin_c _ _ _ (by decide)) ?_
          refine runTf g'36 ?_
          refine gd_split (fun h5 => ?_) (fun h5 => ?_)
          · have h5d := h5
            try simp only [Bool.not_eq_true', Bool.not_eq_false', decide_eq_true_eq, decide_eq_false_iff_not, beq_iff_eq, bne_iff_ne, ne_eq, Bool.not_eq_true, Bool.not_eq_false, beq_eq_false_iff_ne, bne_eq_false_iff_eq, Classical.not_not, Bool.and_eq_true, Bool.and_eq_false_imp] at h5d
            have g'37 := (jn @h5 (jn @h5d g'36))
            refine runTf g'37 ?_
            refine call_v (by kernel_rfl) (rwithin_c _ _ _ (by decide)) ?_
            refine runTf g'37 ?_
            refine cond_split (fun h6 => ?_) (fun h6 => ?_)
            · have h6d := h6
              try simp only [Bool.not_eq_true', Bool.not_eq_false', decide_eq_true_eq, decide_eq_false_iff_not, beq_iff_eq, bne_iff_ne, ne_eq, Bool.not_eq_true, Bool.not_eq_false, beq_eq_false_iff_ne, bne_eq_false_iff_eq, Classical.not_not, Bool.and_eq_true, Bool.and_eq_false_imp] at h6d
              have g'38 := (jn @h6 (jn @h6d g'37))
              refine runTf g'38 ?_
              refine hQ _ _ (end_byG (.inl rfl) hbel (x1 := .tup [.agg [.int .i64 0, .int .i64 0, .sl none 0 (some 0)], .int .i64 1]) (l2 := [.cells false 2 []]) (.tup [.agg [.int .i64 0, .int .i64 0, .sl (some (H.length, 0)) 0 (some 0)], .int .i64 1]) (resT Tryz.results59) [.cells false 2 []] rfl [3] (by decide) ⟨by simp [mkX, mkL, segE, far4, capG_0, ownG_0, prs_nil, h1d, h2d, h3d, h4d, h5d, h6d], by simp [mkX, mkL, segE, far4, capG_0, ownG_0, prs_nil, h1d, h2d, h3d, h4d, h5d, h6d]⟩ ?_)
              exact absW
            · have h6d := h6
              try simp only [Bool.not_eq_true', Bool.not_eq_false', decide_eq_true_eq, decide_eq_false_iff_not, beq_iff_eq, bne_iff_ne, ne_eq, Bool.not_eq_true, Bool.not_eq_false, beq_eq_false_iff_ne, bne_eq_false_iff_eq, Classical.not_not, Bool.and_eq_true, Bool.and_eq_false_imp] at h6d
              have g'39 := (jn @h6 (jn @h6d g'37))
              refine runTf g'39 ?_
              have hB4 : ∀ e ∈ [((x1 - x0 : Int), (y1 - y0 : Int))], Bd 4194304 e := fun e he => by
                simp only [List.mem_cons, List.not_mem_nil, or_false] at he
                first | (rcases he with rfl | rfl <;> (unfold Bd; simp only; omega)) | (subst he; unfold Bd; simp only; omega)
              refine call_v (by kernel_rfl) (rcanon_u _ (x0 + x1) (y0 + y1) _ [(x1 - x0, y1 - y0)] (.inr ⟨_, _, _, by first | rfl | (rw [List.length_append]; rfl), by first | rfl | (rw [get_newk]; rfl) | (rw [get_new0]; rfl) | (rw [get_newk, prs_append]; rfl) | (rw [get_new0, prs_append]; rfl)⟩) (by first | omega | (simp only [List.length_cons, List.length_nil]; omega) | exact Nat.le_trans (mkL_len _ _) (by first | omega | simp) | exact Nat.le_trans (vL_len _ _) (by first | omega | simp) | exact Nat.le_trans corV_len (by omega) | exact Nat.le_trans (canonL_len _) (by first | omega | simp)) (by assumption)) ?_
              refine runTf g'39 ?_
              refine hQ _ _ (end_byG (.inl rfl) hbel (x1 := .tup [.agg [.int .i64 (x0 + x1), .int .i64 (y0 + y1), .sl (some (H.length + 4, 0)) ((canonL [(x1 - x0, y1 - y0)]).length) (capG (canonL [(x1 - x0, y1 - y0)]).length)], .int .i64 0]) (l2 := [.cells (ownG (canonL [(x1 - x0, y1 - y0)]).length) 2 (prs (canonL [(x1 - x0, y1 - y0)]))]) (.tup [.agg [.int .i64 (x0 + x1), .int .i64 (y0 + y1), .sl (some (H.length, 0)) ((canonL [(x1 - x0, y1 - y0)]).length) (capG (canonL [(x1 - x0, y1 - y0)]).length)], .int .i64 0]) (resT Tryz.results59) [] rfl [4] (by decide) ⟨by simp [mkX, mkL, segE, far4, capG_0, ownG_0, prs_nil, h1d, h2d, h3d, h4d, h5d, h6d], by simp [mkX, mkL, segE, far4, capG_0, ownG_0, prs_nil, h1d, h2d, h3d, h4d, h5d, h6d]⟩ ?_)
              exact absW
          · have h5d := h5
            try simp only [Bool.not_eq_true', Bool.not_eq_false', decide_eq_true_eq, decide_eq_false_iff_not, beq_iff_eq, bne_iff_ne, ne_eq, Bool.not_eq_true, Bool.not_eq_false, beq_eq_false_iff_ne, bne_eq_false_iff_eq, Classical.not_not, Bool.and_eq_true, Bool.and_eq_false_imp] at h5d
            have g'40 := (jn @h5 (jn @h5d g'36))
            refine runTf g'40 ?_
            refine hQ _ _ (end_byG (.inl rfl) hbel (x1 := .tup [.agg [.int .i64 0, .int .i64 0, .sl none 0 (some 0)], .int .i64 1]) (l2 := [.cells false 2 []]) (.tup [.agg [.int .i64 0, .int .i64 0, .sl (some (H.length, 0)) 0 (some 0)], .int .i64 1]) (resT Tryz.results59) [.cells false 2 []] rfl [3] (by decide) ⟨by simp [mkX, mkL, segE, far4, capG_0, ownG_0, prs_nil, h1d, h2d, h3d, h4d, h5d], by simp [mkX, mkL, segE, far4, capG_0, ownG_0, prs_nil, h1d, h2d, h3d, h4d, h5d]⟩ ?_)
            exact absW
        · have h4d := h4
          try simp only [Bool.not_eq_true', Bool.not_eq_false', decide_eq_true_eq, decide_eq_false_iff_not, beq_iff_eq, bne_iff_ne, ne_eq, Bool.not_eq_true, Bool.not_eq_false, beq_eq_false_iff_ne, bne_eq_false_iff_eq, Classical.not_not, Bool.and_eq_true, Bool.and_eq_false_imp] at h4d
          have g'41 := (jn @h4 (jn @h4d g'35))
          refine runTf g'41 ?_
          refine hQ _ _ (end_byG (.inl rfl) hbel (x1 := .tup [.agg [.int .i64 0, .int .i64 0, .sl none 0 (some 0)], .int .i64 1]) (l2 := [.cells false 2 []]) (.tup [.agg [.int .i64 0, .int .i64 0, .sl (some (H.length, 0)) 0 (some 0)], .int .i64 1]) (resT Tryz.results59) [.cells false 2 []] rfl [3] (by decide) ⟨by simp [mkX, mkL, segE, far4, capG_0, ownG_0, prs_nil, h1d, h2d, h3d, h4d], by simp [mkX, mkL, segE, far4, capG_0, ownG_0, prs_nil, h1d, h2d, h3d, h4d]⟩ ?_)
          exact absW
      · have h3d := h3
        try simp only [Bool.not_eq_true', Bool.not_eq_false', decide_eq_true_eq, decide_eq_false_iff_not, beq_iff_eq, bne_iff_ne, ne_eq, Bool.not_eq_true, Bool.not_eq_false, beq_eq_false_iff_ne, bne_eq_false_iff_eq, Classical.not_not, Bool.and_eq_true, Bool.and_eq_false_imp] at h3d
        have g'42 := (jn @h3 (jn @h3d g'34))
        refine runTf g'42 ?_
        refine hQ _ _ (end_byG (.inl rfl) hbel (x1 := .tup [.agg [.int .i64 0, .int .i64 0, .sl none 0 (some 0)], .int .i64 1]) (l2 := [.cells false 2 []]) (.tup [.agg [.int .i64 0, .int .i64 0, .sl (some (H.length, 0)) 0 (some 0)], .int .i64 1]) (resT Tryz.results59) [.cells false 2 []] rfl [3] (by decide) ⟨by simp [mkX, mkL, segE, far4, capG_0, ownG_0, prs_nil, h1d, h2d, h3d], by simp [mkX, mkL, segE, far4, capG_0, ownG_0, prs_nil, h1d, h2d, h3d]⟩ ?_)
        exact absW
    · have h2d := h2
      try simp only [Bool.not_eq_true', Bool.not_eq_false', decide_eq_true_eq, decide_eq_false_iff_not, beq_iff_eq, bne_iff_ne, ne_eq, Bool.not_eq_true, Bool.not_eq_false, beq_eq_false_iff_ne, bne_eq_false_iff_eq, Classical.not_not, Bool.and_eq_true, Bool.and_eq_false_imp] at h2d
      have g'43 := (jn @h2 (jn @h2d g'33))
      refine runTf g'43 ?_
      refine hQ _ _ (end_byG (.inl rfl) hbel (x1 := .tup [.agg [.int .i64 0, .int .i64 0, .sl none 0 (some 0)], .int .i64 1]) (l2 := [.cells false 2 []]) (.tup [.agg [.int .i64 0, .int .i64 0, .sl (some (H.length, 0)) 0 (some 0)], .int .i64 1]) (resT Tryz.results59) [.cells false 2 []] rfl [3] (by decide) ⟨by simp [mkX, mkL, segE, far4, capG_0, ownG_0, prs_nil, h1d, h2d], by simp [mkX, mkL, segE, far4, capG_0, ownG_0, prs_nil, h1d, h2d]⟩ ?_)
      exact absW
  · have h1d := h1
    try simp only [Bool.not_eq_true', Bool.not_eq_false', decide_eq_true_eq, decide_eq_false_iff_not, beq_iff_eq, bne_iff_ne, ne_eq, Bool.not_eq_true, Bool.not_eq_false, beq_eq_false_iff_ne, bne_eq_false_iff_eq, Classical.not_not, Bool.and_eq_true, Bool.and_eq_false_imp] at h1d
    have g'44 := (jn @h1 @h1d)
    refine runTf g'44 ?_
    refine hQ _ _ (end_byG (.inl rfl) hbel (x1 := .tup [.agg [.int .i64 0, .int .i64 0, .sl none 0 (some 0)], .int .i64 1]) (l2 := [.cells false 2 []]) (.tup [.agg [.int .i64 0, .int .i64 0, .sl (some (H.length, 0)) 0 (some 0)], .int .i64 1]) (resT Tryz.results59) [.cells false 2 []] rfl [3] (by decide) ⟨by simp [mkX, mkL, segE, far4, capG_0, ownG_0, prs_nil, h1d], by simp [mkX, mkL, segE, far4, capG_0, ownG_0, prs_nil, h1d]⟩ ?_)
    exact absW
open Go.RowKit Go.Sort
set_option maxRecDepth 100000 in
theorem grow_a {H : AHeap} {n : Nat} (h0 : 0 < n) (h1 : n ≤ 1000) : ACalls Tryz.prog 163 [.sl none 0 (some 0), .int .i64 n] H
    (fun v H' => v = .sl (some (H.length, 0)) 0 none ∧ H' = H ++ [.cells true 2 []]) := fun E w vs hE hv => by
  obtain ⟨v1, l1, rfl, k1, h1'⟩ := rels_cons hv
  obtain ⟨v2, l2, rfl, k2, h2'⟩ := rels_cons h1'
  obtain rfl := rels_nil h2'
  obtain rfl := rel_int k2
  obtain rfl : v1 = .slice none 0 0 := by cases k1; rfl
  have hby : Tryz.prog.types[Tryz.grow163_ren.t 25].bytes = 16 := by kernel_rfl
  have h := Any8.slices_Grow_grow Tryz.grow163 _ _ rfl rfl (by decide) none 0 0 n [] w (Nat.le_refl _) (by omega) (by rw [hby]; omega) (by omega) rfl (fun _ => rfl) (fun a ha => by cases ha)
  refine Calls.mono h ?_
  rintro e w' ⟨rfl, rfl⟩
  have g1 := grownCap_ge w (0 + n) 0 (Tryz.grow163_ren.t 25)
  have g2 := grownCap_le_maxLen w (0 + n) 0 (Tryz.grow163_ren.t 25) (by unfold maxLen; omega)
  generalize grownCap w (0 + n) 0 (Tryz.grow163_ren.t 25) = G at *
  clear hby h
  generalize ht : Tryz.grow163_ren.t 25 = t at *
  have hsz : (#[] ++ Builtin.zeroCells (Value.agg #[Value.int .i64 0, Value.int .i64 0]).cells (0 + n - 0) ++ Builtin.zeroCells (Value.agg #[Value.int .i64 0, Value.int .i64 0]).cells (G - (0 + n))).size = G * 2 := by
    have e : (Value.agg #[Value.int .i64 0, Value.int .i64 0]).cells.size = 2 := rfl
    rw [Array.size_append, Array.size_append, size_zeroCells, size_zeroCells, e]
    simp; omega
  generalize (#[] ++ Builtin.zeroCells (Value.agg #[Value.int .i64 0, Value.int .i64 0]).cells (0 + n - 0) ++ Builtin.zeroCells (Value.agg #[Value.int .i64 0, Value.int .i64 0]).cells (G - (0 + n))) = arr at *
  have hb : Below w.heap.size w (w.drew.alloc (.cells arr t)) := (below_drewN (Below.refl _ _) 1).alloc (Nat.le_refl _) _
  refine ⟨E.push ⟨w.heap.size, 0, G * 2, 2⟩, _, _, .sl (some (H.length, 0)) 0 none, rfl, ⟨rfl, rfl⟩, E.le_push _, ?_, ?_⟩
  · have e1 : (E.push ⟨w.heap.size, 0, G * 2, 2⟩).loc H.length = ⟨w.heap.size, 0, G * 2, 2⟩ := by rw [← hE.n]; exact Env.push_new _ _
    refine .sl _ _ _ _ _ _ (by simp [Env.push, hE.n]) (Nat.zero_le _) g2 (.inl rfl) (.inr (by rw [e1])) ?_
    rw [e1]; simp
  · refine hE.grow (row := none) ⟨hb.os, hb.tape, hb.output, hb.size, fun k hk _ => hb.block k hk⟩ (fun k hk => by cases hk) rfl (fun c x hx => .inr ⟨hx, fun _ => by simp⟩) _ _ ?_ (fun c x hx ho => ?_)
    · refine ⟨fun j x hj => by simp at hj, fun _ => ⟨hE.base, ?_, rfl, Nat.zero_le _, fun j hj => ?_⟩, (fun hf => by cases hf), rfl⟩
      · show w.heap.size < (w.drew.heap.push _).size
        rw [Array.size_push]; exact Nat.lt_succ_self _
      · have e1 := World.cell?_alloc_at (w := w.drew) arr t w.heap.size (0 + j) rfl
        have e2 := World.frozen?_alloc_at (w := w.drew) arr t w.heap.size (0 + j) rfl
        refine ⟨?_, e2⟩
        have hj' : j < G * 2 := hj
        rw [e1, Array.getElem?_eq_getElem (by rw [hsz]; omega)]; rfl
    · have := hE.ownLt hx ho
      show (E.loc c).blk ≠ w.heap.size
      omega
open Go.RowKit
theorem prs_all {l : List Pt} : (prs l).take (l.length * 2) = prs l := by rw [prs_take, List.take_length]
def pre2 (a b : Nat) : Nat → Nat
  | 0 => 0
  | 1 => a
  | _ + 2 => a + b
def appL (l m : List Pt) : Nat → List Pt
  | 0 => []
  | 1 => l
  | _ + 2 => l ++ m
theorem grow_0 {H : AHeap} {n : Int} (hn : n = 0) : ACalls Tryz.prog 163 [.sl none 0 (some 0), .int .i64 n] H
    (fun v H' => v = .sl none 0 (some 0) ∧ H' = H) := fun E w vs hE hv => by
  obtain ⟨v1, l1, rfl, k1, h1'⟩ := rels_cons hv
  obtain ⟨v2, l2, rfl, k2, h2'⟩ := rels_cons h1'
  obtain rfl := rels_nil h2'
  obtain rfl := rel_int k2
  subst hn
  obtain rfl : v1 = .slice none 0 0 := by cases k1; rfl
  have h := Any8.slices_Grow_room Tryz.grow163 none 0 0 0 w (Nat.le_refl _) (by omega) (by omega) (by omega)
  refine Calls.mono h ?_
  rintro e w' ⟨rfl, rfl⟩
  exact ⟨E, _, _, _, rfl, ⟨rfl, rfl⟩, Env.le.refl E, .nilsl, hE⟩
theorem concat_0m (H : AHeap) (s : AV) (t : AV) (m : List (Int × Int)) (w : AV) (hs : Sl H 2 s 0 []) (ht : Sl H 2 t m.length (prs m)) (hw : Sl H 1 w 2 [s, t]) (hl0 : 0 < m.length) (hl1 : m.length ≤ 500) : ACalls Tryz.prog 110 [w] H (fun v H' => v = .sl (some (H.length, 0)) m.length (capG m.length) ∧ H' = H ++ [.cells (ownG m.length) 2 (prs m)]) := by
  obtain ⟨bs, os, cs, rfl, hbs⟩ := hs
  have hbls := getElem?_lt hbs
  have hb0s := fun l => get_app (l := l) hbs
  obtain ⟨bt, ot, ct, rfl, hbt⟩ := ht
  have hblt := getElem?_lt hbt
  have hb0t := fun l => get_app (l := l) hbt
  obtain ⟨bw, ow, cw, rfl, hbw⟩ := hw
  have hblw := getElem?_lt hbw
  have hb0w := fun l => get_app (l := l) hbw
  have hz : (m.length == 0) = false := beq_eq_false_iff_ne.2 (by omega)
  have hs0 : (((pre2 0 m.length 0) : Nat) : Int) + 0 = (((pre2 0 m.length 1) : Nat) : Int) := by simp [pre2]
  have hs1 : (((pre2 0 m.length 1) : Nat) : Int) + ((m.length : Nat) : Int) = (((pre2 0 m.length 2) : Nat) : Int) := by simp [pre2]
  have hb1 : (pre2 0 m.length 1) ≤ 500 := by simp only [pre2]; omega
  have hb2 : (pre2 0 m.length 2) ≤ 1000 := by simp only [pre2]; omega
  have hn1 : (((pre2 0 m.length 1) : Nat) : Int) < 0 ↔ False := ⟨fun h => by omega, fun h => h.elim⟩
  have hn2 : (((pre2 0 m.length 2) : Nat) : Int) < 0 ↔ False := ⟨fun h => by omega, fun h => h.elim⟩
  refine AcT true Tryz.func110 ?_; intro hbel Q hQ
  have g'1 := (jn @hbs (jn @hb0s (jn @hbt (jn @hb0t (jn @hbw (jn @hb0w (jn @hs0 (jn @hs1 (jn @hn1 (jn @hn2 (jn @decide_false (jn @hz (jn @appL.eq_1 (jn @appL.eq_2 (jn @appL.eq_3 (jn @prs_nil (jn @List.length_nil.{0} (jn @Nat.zero_add @List.nil_append.{0}))))))))))))))))))
  refine runTf g'1 ?_
  refine go_loop try_mixed (by kernel_rfl) (fun k F Hx => ∃ j : Nat, j + k = 2 ∧ F = [(0, .sl (some (bw, 0)) 2 cw), (3, .int .i64 (((pre2 0 m.length j) : Nat) : Int)), (9, .sl (some (bw, 0)) 2 cw), (10, .int .i64 2), (11, .int .i64 ((j : Nat) : Int))] ∧ H = Hx) (2) ?_ ?_
  · refine ⟨_, _, _, ⟨0, by omega, rfl, rfl⟩, Abs.by0 hbel ?_⟩
    exact absWf (jn @pre2.eq_1 (jn @Int.natCast_zero @Int.ofNat_zero))
  · rintro k0 F Hx ⟨j, hm0, rfl, rfl⟩ J0 hJ0
    refine runTf g'1 ?_
    refine cond_split (fun h1 => ?_) (fun h1 => ?_)
    · have h1d := h1
      try simp only [Bool.not_eq_true', Bool.not_eq_false', decide_eq_true_eq, decide_eq_false_iff_not, beq_iff_eq, bne_iff_ne, ne_eq, Bool.not_eq_true, Bool.not_eq_false, beq_eq_false_iff_ne, bne_eq_false_iff_eq, Classical.not_not, Bool.and_eq_true, Bool.and_eq_false_imp] at h1d
      obtain rfl | rfl := (by omega : j = 0 ∨ j = 1)
      · skip
        have g'2 := (jn @h1 (jn @h1d g'1))
        refine runTf g'2 ?_
        refine hJ0 _ _ ⟨k0 - 1, by omega, _, _, _, ⟨0 + 1, by omega, rfl, rfl⟩, Abs.by0 hbel ?_⟩
        exact absWf (jn @hs0 @hs1)
      · skip
        have g'3 := (jn @h1 (jn @h1d g'1))
        refine runTf g'3 ?_
        refine hJ0 _ _ ⟨k0 - 1, by omega, _, _, _, ⟨1 + 1, by omega, rfl, rfl⟩, Abs.by0 hbel ?_⟩
        exact absWf (jn @hs0 @hs1)
    · have h1d := h1
      try simp only [Bool.not_eq_true', Bool.not_eq_false', decide_eq_true_eq, decide_eq_false_iff_not, beq_iff_eq, bne_iff_ne, ne_eq, Bool.not_eq_true, Bool.not_eq_false, beq_eq_false_iff_ne, bne_eq_false_iff_eq, Classical.not_not, Bool.and_eq_true, Bool.and_eq_false_imp] at h1d
      obtain rfl : j = 2 := by omega
      have g'4 := (jn @h1 (jn @h1d g'1))
      refine runTf g'4 ?_
      refine call_v (by kernel_rfl) (grow_a (n := (pre2 0 m.length 2)) (by simp [pre2]; omega) (by omega)) ?_
      refine runTf g'4 ?_
      refine go_loop try_mixed (by kernel_rfl) (fun k F Hx => ∃ j : Nat, j + k = 2 ∧ F = [(6, .sl (some (H.length, 0)) ((appL [] m j).length) none), (25, .sl (some (bw, 0)) 2 cw), (26, .int .i64 2), (27, .int .i64 ((j : Nat) : Int))] ∧ Hx = H ++ [.cells true 2 (prs (appL [] m j))]) (2) ?_ ?_
      · refine ⟨_, _, _, ⟨0, by omega, rfl, rfl⟩, Abs.byG hbel [] rfl [0] (by decide) ?_⟩
        exact absRf @appL.eq_1
      · rintro k1 F Hx ⟨j, hm1, rfl, rfl⟩ J1 hJ1
        have g'5 := (jn @prs_len (jn @prs_one g'4))
        refine runTf g'5 ?_
        refine cond_split (fun h2 => ?_) (fun h2 => ?_)
        · have h2d := h2
          try simp only [Bool.not_eq_true', Bool.not_eq_false', decide_eq_true_eq, decide_eq_false_iff_not, beq_iff_eq, bne_iff_ne, ne_eq, Bool.not_eq_true, Bool.not_eq_false, beq_eq_false_iff_ne, bne_eq_false_iff_eq, Classical.not_not, Bool.and_eq_true, Bool.and_eq_false_imp] at h2d
          obtain rfl | rfl := (by omega : j = 0 ∨ j = 1)
          · skip
            have g'6 := (jn @h2 (jn @h2d g'5))
            refine runTf g'6 ?_
            refine hJ1 _ _ ⟨k1 - 1, by omega, _, _, _, ⟨0 + 1, by omega, rfl, rfl⟩, Abs.byG hbel [] rfl [0] (by decide) ?_⟩
            exact absRf (jn @appL.eq_1 (jn @appL.eq_2 @appL.eq_3))
          · skip
            have g'7 := (jn @h2 (jn @h2d (jn @prs_all g'5)))
            refine runTf g'7 ?_
            refine hJ1 _ _ ⟨k1 - 1, by omega, _, _, _, ⟨1 + 1, by omega, rfl, rfl⟩, Abs.byG hbel [] rfl [1] (by decide) ?_⟩
            exact absRf (jn @appL.eq_1 (jn @appL.eq_2 @appL.eq_3))
        · have h2d := h2
          try simp only [Bool.not_eq_true', Bool.not_eq_false', decide_eq_true_eq, decide_eq_false_iff_not, beq_iff_eq, bne_iff_ne, ne_eq, Bool.not_eq_true, Bool.not_eq_false, beq_eq_false_iff_ne, bne_eq_false_iff_eq, Classical.not_not, Bool.and_eq_true, Bool.and_eq_false_imp] at h2d
          obtain rfl : j = 2 := by omega
          have g'8 := (jn @h2 (jn @h2d g'5))
          refine runTf g'8 ?_
          refine hQ _ _ (end_byG (.inl rfl) hbel (x1 := .sl (some (H.length, 0)) ((appL [] m 2).length) none) (l2 := [.cells true 2 (prs (appL [] m 2))]) (.sl (some (H.length, 0)) ((appL [] m 2).length) none) (resTf (jn @appL.eq_3 @List.nil_append.{0}) Tryz.results110) [] rfl [0] (by decide) ⟨by simp [appL, capG_p hl0, ownG_p hl0], by simp [appL, capG_p hl0, ownG_p hl0]⟩ ?_)
          exact absW
theorem concat_lm (H : AHeap) (s : AV) (l : List (Int × Int)) (t : AV) (m : List (Int × Int)) (w : AV) (hs : Sl H 2 s l.length (prs l)) (ht : Sl H 2 t m.length (prs m)) (hw : Sl H 1 w 2 [s, t]) (hl0 : 0 < l.length) (hl1 : l.length ≤ 500) (hl2 : m.length ≤ 500) : ACalls Tryz.prog 110 [w] H (fun v H' => v = .sl (some (H.length, 0)) ((l ++ m).length) (capG (l ++ m).length) ∧ H' = H ++ [.cells (ownG (l ++ m).length) 2 (prs (l ++ m))]) := by
  obtain ⟨bs, os, cs, rfl, hbs⟩ := hs
  have hbls := getElem?_lt hbs
  have hb0s := fun l => get_app (l := l) hbs
  obtain ⟨bt, ot, ct, rfl, hbt⟩ := ht
  have hblt := getElem?_lt hbt
  have hb0t := fun l => get_app (l := l) hbt
  obtain ⟨bw, ow, cw, rfl, hbw⟩ := hw
  have hblw := getElem?_lt hbw
  have hb0w := fun l => get_app (l := l) hbw
  have hz : (l.length == 0) = false := beq_eq_false_iff_ne.2 (by omega)
  have hz2 : (l.length + m.length == 0) = false := beq_eq_false_iff_ne.2 (by omega)
  have hs0 : (((pre2 l.length m.length 0) : Nat) : Int) + ((l.length : Nat) : Int) = (((pre2 l.length m.length 1) : Nat) : Int) := by simp [pre2]
  have hs1 : (((pre2 l.length m.length 1) : Nat) : Int) + ((m.length : Nat) : Int) = (((pre2 l.length m.length 2) : Nat) : Int) := by simp [pre2]
  have hb1 : (pre2 l.length m.length 1) ≤ 500 := by simp only [pre2]; omega
  have hb2 : (pre2 l.length m.length 2) ≤ 1000 := by simp only [pre2]; omega
  have hn1 : (((pre2 l.length m.length 1) : Nat) : Int) < 0 ↔ False := ⟨fun h => by omega, fun h => h.elim⟩
  have hn2 : (((pre2 l.length m.length 2) : Nat) : Int) < 0 ↔ False := ⟨fun h => by omega, fun h => h.elim⟩
  refine AcT true Tryz.func110 ?_; intro hbel Q hQ
  have g'9 := (jn @hbs (jn @hb0s (jn @hbt (jn @hb0t (jn @hbw (jn @hb0w (jn @hs0 (jn @hs1 (jn @hn1 (jn @hn2 (jn @decide_false (jn @hz (jn @hz2 (jn @appL.eq_1 (jn @appL.eq_2 (jn @appL.eq_3 (jn @prs_nil (jn @List.length_nil.{0} (jn @Nat.zero_add @List.nil_append.{0})))))))))))))))))))
  refine runTf g'9 ?_
  refine go_loop try_mixed (by kernel_rfl) (fun k F Hx => ∃ j : Nat, j + k = 2 ∧ F = [(0, .sl (some (bw, 0)) 2 cw), (3, .int .i64 (((pre2 l.length m.length j) : Nat) : Int)), (9, .sl (some (bw, 0)) 2 cw), (10, .int .i64 2), (11, .int .i64 ((j : Nat) : Int))] ∧ H = Hx) (2) ?_ ?_
  · refine ⟨_, _, _, ⟨0, by omega, rfl, rfl⟩, Abs.by0 hbel ?_⟩
    exact absWf (jn @pre2.eq_1 (jn @Int.natCast_zero @Int.ofNat_zero))
  · rintro k0 F Hx ⟨j, hm0, rfl, rfl⟩ J0 hJ0
    refine runTf g'9 ?_
    refine cond_split (fun h1 => ?_) (fun h1 => ?_)
    · have h1d := h1
      try simp only [Bool.not_eq_true', Bool.not_eq_false', decide_eq_true_eq, decide_eq_false_iff_not, beq_iff_eq, bne_iff_ne, ne_eq, Bool.not_eq_true, Bool.not_eq_false, beq_eq_false_iff_ne, bne_eq_false_iff_eq, Classical.not_not, Bool.and_eq_true, Bool.and_eq_false_imp] at h1d
      obtain rfl | rfl := (by omega : j = 0 ∨ j = 1)
      · skip
        have g'10 := (jn @h1 (jn @h1d g'9))
        refine runTf g'10 ?_
        refine hJ0 _ _ ⟨k0 - 1, by omega, _, _, _, ⟨0 + 1, by omega, rfl, rfl⟩, Abs.by0 hbel ?_⟩
        exact absWf (jn @hs0 @hs1)
      · skip
        have g'11 := (jn @h1 (jn @h1d g'9))
        refine runTf g'11 ?_
        refine hJ0 _ _ ⟨k0 - 1, by omega, _, _, _, ⟨1 + 1, by omega, rfl, rfl⟩, Abs.by0 hbel ?_⟩
        exact absWf (jn @hs0 @hs1)
    · have h1d := h1
      try simp only [Bool.not_eq_true', Bool.not_eq_false', decide_eq_true_eq, decide_eq_false_iff_not, beq_iff_eq, bne_iff_ne, ne_eq, Bool.not_eq_true, Bool.not_eq_false, beq_eq_false_iff_ne, bne_eq_false_iff_eq, Classical.not_not, Bool.and_eq_true, Bool.and_eq_false_imp] at h1d
      obtain rfl : j = 2 := by omega
      have g'12 := (jn @h1 (jn @h1d g'9))
      refine runTf g'12 ?_
      refine call_v (by kernel_rfl) (grow_a (n := (pre2 l.length m.length 2)) (by simp [pre2]; omega) (by omega)) ?_
      refine runTf g'12 ?_
      refine go_loop try_mixed (by kernel_rfl) (fun k F Hx => ∃ j : Nat, j + k = 2 ∧ F = [(6, .sl (some (H.length, 0)) ((appL l m j).length) none), (25, .sl (some (bw, 0)) 2 cw), (26, .int .i64 2), (27, .int .i64 ((j : Nat) : Int))] ∧ Hx = H ++ [.cells true 2 (prs (appL l m j))]) (2) ?_ ?_
      · refine ⟨_, _, _, ⟨0, by omega, rfl, rfl⟩, Abs.byG hbel [] rfl [0] (by decide) ?_⟩
        exact absRf @appL.eq_1
      · rintro k1 F Hx ⟨j, hm1, rfl, rfl⟩ J1 hJ1
        have g'13 := (jn @prs_len (jn @prs_one g'12))
        refine runTf g'13 ?_
        refine cond_split (fun h2 => ?_) (fun h2 => ?_)
        · have h2d := h2
          try simp only [Bool.not_eq_true', Bool.not_eq_false', decide_eq_true_eq, decide_eq_false_iff_not, beq_iff_eq, bne_iff_ne, ne_eq, Bool.not_eq_true, Bool.not_eq_false, beq_eq_false_iff_ne, bne_eq_false_iff_eq, Classical.not_not, Bool.and_eq_true, Bool.and_eq_false_imp] at h2d
          obtain rfl | rfl := (by omega : j = 0 ∨ j = 1)
          · skip
            have g'14 := (jn @h2 (jn @h2d (jn @prs_all g'13)))
            refine runTf g'14 ?_
            refine hJ1 _ _ ⟨k1 - 1, by omega, _, _, _, ⟨0 + 1, by omega, rfl, rfl⟩, Abs.byG hbel [] rfl [1] (by decide) ?_⟩
            exact absRf (jn @appL.eq_1 (jn @appL.eq_2 @appL.eq_3))
          · skip
            have g'15 := (jn @h2 (jn @h2d (jn @prs_all g'13)))
            refine runTf g'15 ?_
            refine hJ1 _ _ ⟨k1 - 1, by omega, _, _, _, ⟨1 + 1, by omega, rfl, rfl⟩, Abs.byG hbel [] rfl [1] (by decide) ?_⟩
            exact absRf (jn @appL.eq_1 (jn @appL.eq_2 @appL.eq_3))
        · have h2d := h2
          try simp only [Bool.not_eq_true', Bool.not_eq_false', decide_eq_true_eq, decide_eq_false_iff_not, beq_iff_eq, bne_iff_ne, ne_eq, Bool.not_eq_true, Bool.not_eq_false, beq_eq_false_iff_ne, bne_eq_false_iff_eq, Classical.not_not, Bool.and_eq_true, Bool.and_eq_false_imp] at h2d
          obtain rfl : j = 2 := by omega
          have g'16 := (jn @h2 (jn @h2d g'13))
          refine runTf g'16 ?_
          refine hQ _ _ (end_byG (.inl rfl) hbel (x1 := .sl (some (H.length, 0)) ((appL l m 2).length) none) (l2 := [.cells true 2 (prs (appL l m 2))]) (.sl (some (H.length, 0)) ((appL l m 2).length) none) (resTf (jn @appL.eq_3 @List.length_append.{0}) Tryz.results110) [] rfl [0] (by decide) ⟨by have hlm : 0 < (l ++ m).length := (by rw [List.length_append]; omega); rw [show appL l m 2 = l ++ m from rfl, capG_p hlm], by have hlm : 0 < (l ++ m).length := (by rw [List.length_append]; omega); rw [show appL l m 2 = l ++ m from rfl, ownG_p hlm]⟩ ?_)
          exact absW
theorem concat_00 (H : AHeap) (s : AV) (t : AV) (w : AV) (hs : Sl H 2 s 0 []) (ht : Sl H 2 t 0 []) (hw : Sl H 1 w 2 [s, t]) : ACalls Tryz.prog 110 [w] H (fun v H' => v = .sl (some (H.length, 0)) (([] : List Pt).length) (capG ([] : List Pt).length) ∧ H' = H ++ [.cells (ownG ([] : List Pt).length) 2 (prs ([] : List Pt))]) := by
  obtain ⟨bs, os, cs, rfl, hbs⟩ := hs
  have hbls := getElem?_lt hbs
  have hb0s := fun l => get_app (l := l) hbs
  obtain ⟨bt, ot, ct, rfl, hbt⟩ := ht
  have hblt := getElem?_lt hbt
  have hb0t := fun l => get_app (l := l) hbt
  obtain ⟨bw, ow, cw, rfl, hbw⟩ := hw
  have hblw := getElem?_lt hbw
  have hb0w := fun l => get_app (l := l) hbw
  have hs0 : (((pre2 0 0 0) : Nat) : Int) + 0 = (((pre2 0 0 1) : Nat) : Int) := by simp [pre2]
  have hs1 : (((pre2 0 0 1) : Nat) : Int) + 0 = (((pre2 0 0 2) : Nat) : Int) := by simp [pre2]
  have hb1 : (pre2 0 0 1) ≤ 500 := by simp only [pre2]; omega
  have hb2 : (pre2 0 0 2) ≤ 1000 := by simp only [pre2]; omega
  have hn1 : (((pre2 0 0 1) : Nat) : Int) < 0 ↔ False := ⟨fun h => by omega, fun h => h.elim⟩
  have hn2 : (((pre2 0 0 2) : Nat) : Int) < 0 ↔ False := ⟨fun h => by omega, fun h => h.elim⟩
  refine AcT true Tryz.func110 ?_; intro hbel Q hQ
  have g'17 := (jn @hbs (jn @hb0s (jn @hbt (jn @hb0t (jn @hbw (jn @hb0w (jn @hs0 (jn @hs1 (jn @hn1 (jn @hn2 (jn @decide_false (jn @List.length_nil.{0} @Nat.zero_add))))))))))))
  refine runTf g'17 ?_
  refine go_loop try_mixed (by kernel_rfl) (fun k F Hx => ∃ j : Nat, j + k = 2 ∧ F = [(0, .sl (some (bw, 0)) 2 cw), (3, .int .i64 (((pre2 0 0 j) : Nat) : Int)), (9, .sl (some (bw, 0)) 2 cw), (10, .int .i64 2), (11, .int .i64 ((j : Nat) : Int))] ∧ H = Hx) (2) ?_ ?_
  · refine ⟨_, _, _, ⟨0, by omega, rfl, rfl⟩, Abs.by0 hbel ?_⟩
    exact absWf (jn @pre2.eq_1 (jn @Int.natCast_zero @Int.ofNat_zero))
  · rintro k0 F Hx ⟨j, hm0, rfl, rfl⟩ J0 hJ0
    refine runTf g'17 ?_
    refine cond_split (fun h1 => ?_) (fun h1 => ?_)
    · have h1d := h1
      try simp only [Bool.not_eq_true', Bool.not_eq_false', decide_eq_true_eq, decide_eq_false_iff_not, beq_iff_eq, bne_iff_ne, ne_eq, Bool.not_eq_true, Bool.not_eq_false, beq_eq_false_iff_ne, bne_eq_false_iff_eq, Classical.not_not, Bool.and_eq_true, Bool.and_eq_false_imp] at h1d
      obtain rfl | rfl := (by omega : j = 0 ∨ j = 1)
      · skip
        have g'18 := (jn @h1 (jn @h1d g'17))
        refine runTf g'18 ?_
        refine hJ0 _ _ ⟨k0 - 1, by omega, _, _, _, ⟨0 + 1, by omega, rfl, rfl⟩, Abs.by0 hbel ?_⟩
        exact absWf (jn @hs0 @hs1)
      · skip
        have g'19 := (jn @h1 (jn @h1d g'17))
        refine runTf g'19 ?_
        refine hJ0 _ _ ⟨k0 - 1, by omega, _, _, _, ⟨1 + 1, by omega, rfl, rfl⟩, Abs.by0 hbel ?_⟩
        exact absWf (jn @hs0 @hs1)
    · have h1d := h1
      try simp only [Bool.not_eq_true', Bool.not_eq_false', decide_eq_true_eq, decide_eq_false_iff_not, beq_iff_eq, bne_iff_ne, ne_eq, Bool.not_eq_true, Bool.not_eq_false, beq_eq_false_iff_ne, bne_eq_false_iff_eq, Classical.not_not, Bool.and_eq_true, Bool.and_eq_false_imp] at h1d
      obtain rfl : j = 2 := by omega
      have g'20 := (jn @h1 (jn @h1d g'17))
      refine runTf g'20 ?_
      refine call_v (by kernel_rfl) (grow_0 (by simp [pre2])) ?_
      refine runTf g'20 ?_
      refine go_loop try_mixed (by kernel_rfl) (fun k F Hx => ∃ j : Nat, j + k = 2 ∧ F = [(6, .sl none 0 (some 0)), (25, .sl (some (bw, 0)) 2 cw), (26, .int .i64 2), (27, .int .i64 ((j : Nat) : Int))] ∧ H = Hx) (2) ?_ ?_
      · refine ⟨_, _, _, ⟨0, by omega, rfl, rfl⟩, Abs.by0 hbel ?_⟩
        exact absWf (jn @appL.eq_1 (jn @prs_nil @List.length_nil.{0}))
      · rintro k1 F Hx ⟨j, hm1, rfl, rfl⟩ J1 hJ1
        refine runTf g'20 ?_
        refine cond_split (fun h2 => ?_) (fun h2 => ?_)
        · have h2d := h2
          try simp only [Bool.not_eq_true', Bool.not_eq_false', decide_eq_true_eq, decide_eq_false_iff_not, beq_iff_eq, bne_iff_ne, ne_eq, Bool.not_eq_true, Bool.not_eq_false, beq_eq_false_iff_ne, bne_eq_false_iff_eq, Classical.not_not, Bool.and_eq_true, Bool.and_eq_false_imp] at h2d
          obtain rfl | rfl := (by omega : j = 0 ∨ j = 1)
          · skip
            have g'21 := (jn @h2 (jn @h2d g'20))
            refine runTf g'21 ?_
            refine hJ1 _ _ ⟨k1 - 1, by omega, _, _, _, ⟨0 + 1, by omega, rfl, rfl⟩, Abs.by0 hbel ?_⟩
            exact absWf (jn @appL.eq_1 (jn @appL.eq_2 (jn @appL.eq_3 (jn @prs_nil (jn @List.length_nil.{0} @prs_append)))))
          · skip
            have g'22 := (jn @h2 (jn @h2d g'20))
            refine runTf g'22 ?_
            refine hJ1 _ _ ⟨k1 - 1, by omega, _, _, _, ⟨1 + 1, by omega, rfl, rfl⟩, Abs.by0 hbel ?_⟩
            exact absWf (jn @appL.eq_1 (jn @appL.eq_2 (jn @appL.eq_3 (jn @prs_nil (jn @List.length_nil.{0} @prs_append)))))
        · have h2d := h2
          try simp only [Bool.not_eq_true', Bool.not_eq_false', decide_eq_true_eq, decide_eq_false_iff_not, beq_iff_eq, bne_iff_ne, ne_eq, Bool.not_eq_true, Bool.not_eq_false, beq_eq_false_iff_ne, bne_eq_false_iff_eq, Classical.not_not, Bool.and_eq_true, Bool.and_eq_false_imp] at h2d
          obtain rfl : j = 2 := by omega
          have g'23 := (jn @h2 (jn @h2d g'20))
          refine runTf g'23 ?_
          refine hQ _ _ (end_byE (.inl rfl) hbel (x1 := .sl none 0 (some 0)) (l2 := [.cells false 2 []]) (.sl (some (H.length, 0)) 0 (some 0)) (resT Tryz.results110) [.cells false 2 []] rfl [0] (by decide) ⟨rfl, rfl⟩ ?_)
          exact absW
theorem concat_c (H : AHeap) (s t w : AV) (l m : List Pt) (hs : SlP H s l) (ht : SlP H t m) (hw : Sl H 1 w 2 [s, t]) (h1 : l.length ≤ 500) (h2 : m.length ≤ 500) :
    ACalls Tryz.prog 110 [w] H (fun v H' => v = .sl (some (H.length, 0)) (l ++ m).length (capG (l ++ m).length) ∧ H' = H ++ [.cells (ownG (l ++ m).length) 2 (prs (l ++ m))]) := by
  rcases l with _ | ⟨a, l⟩
  · rcases m with _ | ⟨b, m⟩
    · exact concat_00 H s t w hs ht hw
    · exact concat_0m H s t (b :: m) w hs ht hw (by simp) h2
  · exact concat_lm H s (a :: l) t m w hs ht hw (by simp) h1 h2
end Go.Proofs.YtoimakfecmhjkaaGreat
