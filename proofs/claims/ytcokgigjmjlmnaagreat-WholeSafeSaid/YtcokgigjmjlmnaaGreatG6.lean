/- Proved: the law WholeSafe returns true on every input, and its arguments read afterwards as before. Conditions: none beyond the given row's. -/
import Derived.Test.YtcokgigjmjlmnaaGreatG5
import Derived.Test.YtcokgigjmjlmnaaGreatG4
import Derived.Test.YtcokgigjmjlmnaaGreatG3
namespace Go.Proofs.YtcokgigjmjlmnaaGreat
set_option linter.unusedSimpArgs false
set_option linter.unusedVariables false
open Go.RowKit
set_option maxHeartbeats 4000000
set_option maxRecDepth 100000
/-- What is chosen. -/
def okC (W Hh : Int) (xs : List Int) (l : List T6) (tx ty tu le sl ra : Int) : Bool := estO l && (vldB W Hh xs && (ptB tx ty && bndB tu le sl ra))
def aiE (l : List T6) (tx ty : Int) : Int := aimE (estX l) (estY l) (estG l) tx ty
def aiT (l : List T6) (tx ty : Int) : Int := aimT (estX l) (estY l) (estG l) tx ty
def aiF (l : List T6) (tx ty : Int) : Int := aimF (estX l) (estY l) (estG l) tx ty
def chE (W Hh : Int) (xs : List Int) (l : List T6) (tx ty tu le sl ra : Int) : Int := if okC W Hh xs l tx ty tu le sl ra = true then aiE l tx ty else 1
def chT (W Hh : Int) (xs : List Int) (l : List T6) (tx ty tu le sl ra : Int) : Int := if okC W Hh xs l tx ty tu le sl ra = true ∧ aiE l tx ty = 0 then aiT l tx ty else 0
def sfP (W Hh : Int) (xs : List Int) (l : List T6) (tx ty tu le sl ra : Int) (n : Int) : Bool := saB W Hh xs l (aiT l tx ty) n tu le sl ra
def chF (W Hh : Int) (xs : List Int) (l : List T6) (tx ty tu le sl ra : Int) : Int := if okC W Hh xs l tx ty tu le sl ra = true ∧ aiE l tx ty = 0 then ((choN (sfP W Hh xs l tx ty tu le sl ra) (aiF l tx ty).toNat : Nat) : Int) else 0
theorem aiF_bd (l : List T6) (tx ty : Int) : cmdB (aiT l tx ty) (aiF l tx ty) = true := aim_cmd _ _ _ _ _
theorem cmd_le {t f n : Int} (h : cmdB t f = true) (hn : 0 ≤ n ∧ n ≤ f) : cmdB t n = true := by
  unfold cmdB at *; simp only [Bool.and_eq_true, btw_iff] at *; exact ⟨h.1, by omega⟩
theorem okC_iff {W Hh : Int} {xs : List Int} {l : List T6} {tx ty tu le sl ra : Int} : okC W Hh xs l tx ty tu le sl ra = true ↔ estO l = true ∧ vldB W Hh xs = true ∧ ptB tx ty = true ∧ bndB tu le sl ra = true := by
  unfold okC; simp only [Bool.and_eq_true]
theorem sfE {W Hh : Int} {xs : List Int} {l : List T6} {tx ty tu le sl ra : Int} (h : okC W Hh xs l tx ty tu le sl ra = true) {n : Int} (hn : 0 ≤ n ∧ n ≤ aiF l tx ty) : saE W Hh xs l (aiT l tx ty) n tu le sl ra = 0 := by
  have h := okC_iff.1 h
  exact saE_0 h.2.1 (estO_t h.1).1 (cmd_le (aiF_bd l tx ty) hn) h.2.2.2
theorem sf0 {W Hh : Int} {xs : List Int} {l : List T6} {tx ty tu le sl ra : Int} (h : okC W Hh xs l tx ty tu le sl ra = true) : sfP W Hh xs l tx ty tu le sl ra 0 = true := by
  have hc := aiF_bd l tx ty
  unfold cmdB at hc; simp only [Bool.and_eq_true, btw_iff] at hc
  exact saB_z (sfE h (by omega)) rfl
theorem ch_safe {W Hh : Int} {xs : List Int} {l : List T6} {tx ty tu le sl ra : Int} (h : chE W Hh xs l tx ty tu le sl ra = 0) : saB W Hh xs l (chT W Hh xs l tx ty tu le sl ra) (chF W Hh xs l tx ty tu le sl ra) tu le sl ra = true ∧ saE W Hh xs l (chT W Hh xs l tx ty tu le sl ra) (chF W Hh xs l tx ty tu le sl ra) tu le sl ra = 0 := by
  unfold chE at h
  split at h
  · rename_i ho
    have e1 : chT W Hh xs l tx ty tu le sl ra = aiT l tx ty := if_pos ⟨ho, h⟩
    have e2 : chF W Hh xs l tx ty tu le sl ra = ((choN (sfP W Hh xs l tx ty tu le sl ra) (aiF l tx ty).toNat : Nat) : Int) := if_pos ⟨ho, h⟩
    have hc := aiF_bd l tx ty
    unfold cmdB at hc; simp only [Bool.and_eq_true, btw_iff] at hc
    have hle := choN_le (sfP W Hh xs l tx ty tu le sl ra) (aiF l tx ty).toNat
    rw [e1, e2]
    exact ⟨choN_ok (sf0 ho) _, sfE ho (by omega)⟩
  · omega
theorem aimq_c (H : AHeap) (l : List T6) (tx ty : Int) : ACalls Tryz.prog 108 [.agg [.int .i64 (estX l), .int .i64 (estY l), .int .i64 (estG l)], .agg [.int .i64 tx, .int .i64 ty]] H (fun v H' => v = .tup [.agg [.int .i64 (aiT l tx ty), .int .i64 (aiF l tx ty)], .int .i64 (aiE l tx ty)] ∧ H' = H) := aim_c H _ _ _ tx ty
theorem cho_c (H : AHeap) (W : Int) (Hh : Int) (pp : AV) (xs : List Int) (s : AV) (l : List T6) (tx : Int) (ty : Int) (tu : Int) (le : Int) (sl : Int) (ra : Int) (hpp : Sl H 1 pp xs.length (ints .u8 xs)) (hs : Sl H 6 s l.length (r6 l)) (hl : l.length ≤ 1000000) : ACalls Tryz.prog 38 [.agg [.int .i64 W, .int .i64 Hh, pp], s, .agg [.int .i64 tx, .int .i64 ty], .agg [.int .i64 tu, .int .i64 le, .int .i64 sl, .int .i64 ra]] H (fun v H' => v = .tup [.agg [.int .i64 (chT W Hh xs l tx ty tu le sl ra), .int .i64 (chF W Hh xs l tx ty tu le sl ra)], .int .i64 (chE W Hh xs l tx ty tu le sl ra)] ∧ H' = H) := by
  obtain ⟨bpp, opp, cpp, rfl, hbpp⟩ := hpp
  have hblpp := getElem?_lt hbpp
  have hb0pp := fun l => get_app (l := l) hbpp
  obtain ⟨bs, os, cs, rfl, hbs⟩ := hs
  have hbls := getElem?_lt hbs
  have hb0s := fun l => get_app (l := l) hbs
  refine AcT true Tryz.func38 ?_; intro hbel Q hQ
  have g'1 := (jn @hbpp (jn @hb0pp (jn @hbs @hb0s)))
  refine runTf g'1 ?_
  refine call_v (by kernel_rfl) (est_c _ _ l ⟨_, _, _, rfl, by first | exact hb0s _ | exact hbs⟩ (by omega)) ?_
  refine runTf g'1 ?_
  refine gd_split (fun h1 => ?_) (fun h1 => ?_)
  · have h1d := bsT h1
    have hO := h1d
    have hl0 := estO_t hO
    have g'2 := (jn @h1 (jn @h1d g'1))
    refine runTf g'2 ?_
    refine call_v (by kernel_rfl) (valid_a _ W Hh _ xs (.inr ⟨_, _, _, rfl, by first | exact hb0pp _ | exact hbpp⟩)) ?_
    refine runTf g'2 ?_
    refine gd_split (fun h2 => ?_) (fun h2 => ?_)
    · have h2d := bsT h2
      have hV := h2d
      have g'3 := (jn @h2 (jn @h2d g'2))
      refine runTf g'3 ?_
      refine call_v (by kernel_rfl) (mvpt_c _ tx ty) ?_
      refine runTf g'3 ?_
      refine gd_split (fun h3 => ?_) (fun h3 => ?_)
      · have h3d := bsT h3
        have hP := h3d
        have g'4 := (jn @h3 (jn @h3d g'3))
        refine runTf g'4 ?_
        refine call_v (by kernel_rfl) (vbnd_c _ tu le sl ra) ?_
        refine runTf g'4 ?_
        refine cond_split (fun h4 => ?_) (fun h4 => ?_)
        · have h4d := bsT h4
          have hno : ¬ okC W Hh xs l tx ty tu le sl ra = true := by rw [okC_iff]; intro hh; simp [hh.1, hh.2.1, hh.2.2.1, hh.2.2.2] at h4d
          have hfinE : chE W Hh xs l tx ty tu le sl ra = 1 := if_neg hno
          have hfinT : chT W Hh xs l tx ty tu le sl ra = 0 := if_neg (fun hh => hno hh.1)
          have hfinF : chF W Hh xs l tx ty tu le sl ra = 0 := if_neg (fun hh => hno hh.1)
          have g'5 := (jn @h4 (jn @h4d g'4))
          refine runTf g'5 ?_
          exact hQ _ _ (end_plain (.inl rfl) hbel (x := .tup [.agg [.int .i64 0, .int .i64 0], .int .i64 1]) (resT Tryz.results38) rfl ⟨by first | (rw [hfinE, hfinT, hfinF]; done) | (rw [hfinT, hfinF, hfinE]; done), rfl⟩)
        · have h4d := bsT h4
          have hBd := h4d
          have hok : okC W Hh xs l tx ty tu le sl ra = true := okC_iff.2 ⟨hO, hV, hP, hBd⟩
          have hcm := aiF_bd l tx ty
          have haf : 0 ≤ aiF l tx ty ∧ aiF l tx ty ≤ 32 := by have hh := hcm; simp only [cmdB, Bool.and_eq_true, btw_iff] at hh; omega
          have hnt : (((aiF l tx ty).toNat : Nat) : Int) = aiF l tx ty := by omega
          have g'6 := (jn @h4 (jn @h4d g'4))
          refine runTf g'6 ?_
          refine call_v (by kernel_rfl) (aimq_c _ l tx ty) ?_
          refine runTf g'6 ?_
          refine cond_split (fun h5 => ?_) (fun h5 => ?_)
          · have h5d := bsT h5
            have h5n := bnT h5
            have hne : ¬ aiE l tx ty = 0 := by simpa using h5d
            have hfinE : chE W Hh xs l tx ty tu le sl ra = aiE l tx ty := if_pos hok
            have hfinT : chT W Hh xs l tx ty tu le sl ra = 0 := if_neg (fun hh => hne hh.2)
            have hfinF : chF W Hh xs l tx ty tu le sl ra = 0 := if_neg (fun hh => hne hh.2)
            have g'7 := (jn @h5 (jn @h5n (jn @int_bne (jn @int_beq g'6))))
            refine runTf g'7 ?_
            exact hQ _ _ (end_plain (.inl rfl) hbel (x := .tup [.agg [.int .i64 0, .int .i64 0], .int .i64 (aiE l tx ty)]) (resT Tryz.results38) rfl ⟨by first | (rw [hfinE, hfinT, hfinF]; done) | (rw [hfinT, hfinF, hfinE]; done), rfl⟩)
          · have h5d := bsT h5
            have h5n := bnT h5
            have he0 : aiE l tx ty = 0 := by simpa using h5d
            have hfinE : chE W Hh xs l tx ty tu le sl ra = 0 := (if_pos hok).trans he0
            have hfinT : chT W Hh xs l tx ty tu le sl ra = aiT l tx ty := if_pos ⟨hok, he0⟩
            have hcf : chF W Hh xs l tx ty tu le sl ra = ((choN (sfP W Hh xs l tx ty tu le sl ra) (aiF l tx ty).toNat : Nat) : Int) := if_pos ⟨hok, he0⟩
            have g'8 := (jn @h5 (jn @h5n (jn @int_bne (jn @int_beq g'6))))
            refine runTf g'8 ?_
            refine go_loop try_mixed (by kernel_rfl) (fun k F Hx => ∃ n : Nat, n = k ∧ choN (sfP W Hh xs l tx ty tu le sl ra) (aiF l tx ty).toNat = choN (sfP W Hh xs l tx ty tu le sl ra) n ∧ n ≤ (aiF l tx ty).toNat ∧ F = [(1, .sl (some (bs, 0)) l.length cs), (4, .ptr (some (H.length, 0))), (7, .ptr (some (H.length + 1, 0))), (8, .ptr (some (H.length + 2, 0))), (9, .int .i64 0), (12, .ptr (some (H.length + 3, 0)))] ∧ Hx = H ++ [.cells true 0 [.int .i64 W, .int .i64 Hh, .sl (some (bpp, 0)) xs.length cpp], .cells true 0 [.int .i64 tu, .int .i64 le, .int .i64 sl, .int .i64 ra], .cells true 0 [.int .i64 0, .int .i64 0], .cells true 0 [.int .i64 (aiT l tx ty), .int .i64 ((n : Nat) : Int)]]) ((aiF l tx ty).toNat) ?_ ?_
            · refine ⟨_, _, _, ⟨(aiF l tx ty).toNat, by omega, rfl, Nat.le_refl _, rfl, rfl⟩, Abs.byG hbel [] rfl [0, 2, 3, 5] (by decide) ?_⟩
              exact absWf @hnt
            · rintro k0 F Hx ⟨n, hm0, hch, hnl, rfl, rfl⟩ J0 hJ0
              refine runTf g'8 ?_
              refine call_v (by kernel_rfl) (safe_c _ W Hh _ xs _ l (aiT l tx ty) ((n : Nat) : Int) tu le sl ra ⟨_, _, _, rfl, by first | exact hb0pp _ | exact hbpp⟩ ⟨_, _, _, rfl, by first | exact hb0s _ | exact hbs⟩ (by omega)) ?_
              refine runTf g'8 ?_
              refine cond_split (fun h6 => ?_) (fun h6 => ?_)
              · have h6d := bsT h6
                have hfinF : chF W Hh xs l tx ty tu le sl ra = ((n : Nat) : Int) := by rw [hcf, hch]; exact congrArg _ (choN_t h6d)
                have g'9 := (jn @h6 (jn @h6d g'8))
                refine runTf g'9 ?_
                exact hQ _ _ (end_plain (.inl rfl) hbel (x := .tup [.agg [.int .i64 (aiT l tx ty), .int .i64 ((n : Nat) : Int)], .int .i64 0]) (resT Tryz.results38) rfl ⟨by first | (rw [hfinE, hfinT, hfinF]; done) | (rw [hfinT, hfinF, hfinE]; done), rfl⟩)
              · have h6d := bsT h6
                have hn0 : 0 < n := by
                  rcases Nat.eq_zero_or_pos n with hz | hz
                  · subst hz; have hh := sf0 hok; exact absurd (hh.symm.trans h6d) (by decide)
                  · exact hz
                have hch2 : choN (sfP W Hh xs l tx ty tu le sl ra) (aiF l tx ty).toNat = choN (sfP W Hh xs l tx ty tu le sl ra) (n - 1) := by rw [hch]; exact choN_f hn0 h6d
                have g'10 := (jn @h6 (jn @h6d g'8))
                refine runTf g'10 ?_
                have hnc : ((n - 1 : Nat) : Int) = ((n : Nat) : Int) - 1 := by omega
                refine hJ0 _ _ ⟨n - 1, by omega, _, _, _, ⟨n - 1, by omega, hch2, by omega, rfl, rfl⟩, Abs.byG hbel [] rfl [0, 1, 2, 3] (by decide) ?_⟩
                exact absWf (jn @Int.natCast_sub @hnc)
      · have h3d := bsT h3
        have hno : ¬ okC W Hh xs l tx ty tu le sl ra = true := by rw [okC_iff]; intro hh; simp [hh.1, hh.2.1, hh.2.2.1, hh.2.2.2] at h3d
        have hfinE : chE W Hh xs l tx ty tu le sl ra = 1 := if_neg hno
        have hfinT : chT W Hh xs l tx ty tu le sl ra = 0 := if_neg (fun hh => hno hh.1)
        have hfinF : chF W Hh xs l tx ty tu le sl ra = 0 := if_neg (fun hh => hno hh.1)
        have g'11 := (jn @h3 (jn @h3d g'3))
        refine runTf g'11 ?_
        exact hQ _ _ (end_plain (.inl rfl) hbel (x := .tup [.agg [.int .i64 0, .int .i64 0], .int .i64 1]) (resT Tryz.results38) rfl ⟨by first | (rw [hfinE, hfinT, hfinF]; done) | (rw [hfinT, hfinF, hfinE]; done), rfl⟩)
    · have h2d := bsT h2
      have hno : ¬ okC W Hh xs l tx ty tu le sl ra = true := by rw [okC_iff]; intro hh; simp [hh.1, hh.2.1, hh.2.2.1, hh.2.2.2] at h2d
      have hfinE : chE W Hh xs l tx ty tu le sl ra = 1 := if_neg hno
      have hfinT : chT W Hh xs l tx ty tu le sl ra = 0 := if_neg (fun hh => hno hh.1)
      have hfinF : chF W Hh xs l tx ty tu le sl ra = 0 := if_neg (fun hh => hno hh.1)
      have g'12 := (jn @h2 (jn @h2d g'2))
      refine runTf g'12 ?_
      exact hQ _ _ (end_plain (.inl rfl) hbel (x := .tup [.agg [.int .i64 0, .int .i64 0], .int .i64 1]) (resT Tryz.results38) rfl ⟨by first | (rw [hfinE, hfinT, hfinF]; done) | (rw [hfinT, hfinF, hfinE]; done), rfl⟩)
  · have h1d := bsT h1
    have hno : ¬ okC W Hh xs l tx ty tu le sl ra = true := by rw [okC_iff]; intro hh; simp [hh.1, hh.2.1, hh.2.2.1, hh.2.2.2] at h1d
    have hfinE : chE W Hh xs l tx ty tu le sl ra = 1 := if_neg hno
    have hfinT : chT W Hh xs l tx ty tu le sl ra = 0 := if_neg (fun hh => hno hh.1)
    have hfinF : chF W Hh xs l tx ty tu le sl ra = 0 := if_neg (fun hh => hno hh.1)
    have g'13 := (jn @h1 (jn @h1d g'1))
    refine runTf g'13 ?_
    exact hQ _ _ (end_plain (.inl rfl) hbel (x := .tup [.agg [.int .i64 0, .int .i64 0], .int .i64 1]) (resT Tryz.results38) rfl ⟨by first | (rw [hfinE, hfinT, hfinF]; done) | (rw [hfinT, hfinF, hfinE]; done), rfl⟩)
open Go.RowKit
theorem saB_cmd {W Hh : Int} {xs : List Int} {l : List T6} {t f tu le sl ra : Int} (h : saB W Hh xs l t f tu le sl ra = true) : cmdB t f = true := by
  unfold saB saE at h
  rw [Bool.and_eq_true] at h
  have h1 := of_decide_eq_true h.1
  split at h1
  · rename_i k; simp only [Bool.and_eq_true] at k; exact k.2.2.1
  · omega
/-- From a pose of the set a safe command leads on, or out of range. -/
theorem wsafe_nx {W Hh : Int} {xs : List Int} {l : List T6} {t f tu le sl ra ax ay ah eT eL eX eY : Int} (hs : saB W Hh xs l t f tu le sl ra = true) (hP : poseB ax ay ah = true) (h2 : ¬ nxE ax ay ah t f eT eL eX eY = 2) : nxE ax ay ah t f eT eL eX eY = 0 := by
  have hc := saB_cmd hs
  unfold nxE at h2 ⊢
  rw [hP, hc] at h2 ⊢
  simp only [Bool.and_self, if_true] at h2 ⊢
  by_cases h1 : errB eT eL eX eY = true
  · rw [if_pos h1] at h2 ⊢
    by_cases hf : f = 0
    · rw [if_pos hf]
    · rw [if_neg hf] at h2 ⊢
      by_cases hp : poseB (rwX ax (nhI ah t eT) f eL eX) (rwY ay (nhI ah t eT) f eL eY) (nhI ah t eT) = true
      · rw [if_pos hp]
      · rw [if_neg hp] at h2; exact absurd rfl h2
  · rw [if_neg h1] at h2; exact absurd rfl h2
theorem saE_01 {W Hh : Int} {xs : List Int} {l : List T6} {t f tu le sl ra : Int} (h : ¬ saE W Hh xs l t f tu le sl ra = 0) : saE W Hh xs l t f tu le sl ra = 1 := by
  unfold saE at *; split at h
  · exact absurd rfl h
  · rename_i k; rw [if_neg k]
open Go.RowKit
theorem saw_1 : saE 3 3 [1, 1, 1, 1, 1, 1, 1, 1, 1] [(96, 96, 96, 96, 0, 1)] 0 32 0 0 0 1 = 0 ∧ saB 3 3 [1, 1, 1, 1, 1, 1, 1, 1, 1] [(96, 96, 96, 96, 0, 1)] 0 32 0 0 0 1 = true := by decide +kernel
theorem saw_2 : saE 3 3 [1, 1, 1, 1, 1, 1, 1, 1, 1] [(160, 96, 160, 96, 0, 1)] 0 32 0 0 0 1 = 0 ∧ saB 3 3 [1, 1, 1, 1, 1, 1, 1, 1, 1] [(160, 96, 160, 96, 0, 1)] 0 32 0 0 0 1 = false := by decide +kernel
open Go.RowKit
set_option maxHeartbeats 4000000 in
set_option maxRecDepth 100000 in
theorem sawk_c (H : AHeap)  : ACalls Tryz.prog 34 [] H (fun v H' => v = .bool true ∧ H' = H) := by
  have w1a := saw_1.1
  have w1b := saw_1.2
  have w2a := saw_2.1
  have w2b := saw_2.2
  refine AcT true Tryz.func34 ?_; intro hbel Q hQ
  simp -implicitDefEqProofs (maxSteps := 2000000) (disch := omega) only [aApp_nil, aApp_none, aApp_some, aApp_grw, simprocAttr, amset, tyset, Function.comp_apply, one1, lenV, calleeOf, lateOk, belowV, aop, AV.ofValue, AV.ofCell, AV.cells, AV.flat, AV.one, arep, aBin, aConv]
  repeat refine And.intro (by omega) ?_
  refine call_v (by kernel_rfl) (safe_c _ 3 3 _ [1, 1, 1, 1, 1, 1, 1, 1, 1] _ [(96, 96, 96, 96, 0, 1)] 0 32 0 0 0 1 ⟨_, _, _, rfl, by first | (rw [get_newk]; rfl) | (rw [get_new0]; rfl)⟩ ⟨_, _, _, by first | rfl | (rw [List.length_append]; done) | (rw [List.length_append]; rfl), by first | rfl | (rw [get_newk]; rfl) | (rw [get_new0]; rfl) | (rw [get_newk, prs_append]; rfl) | (rw [get_new0, prs_append]; rfl)⟩ (by simp)) ?_
  simp -implicitDefEqProofs (maxSteps := 2000000) (disch := omega) only [aApp_nil, aApp_none, aApp_some, aApp_grw, simprocAttr, amset, tyset, Function.comp_apply, one1, lenV, calleeOf, lateOk, belowV, aop, AV.ofValue, AV.ofCell, AV.cells, AV.flat, AV.one, arep, aBin, aConv]
  repeat refine And.intro (by omega) ?_
  refine call_v (by kernel_rfl) (safe_c _ 3 3 _ [1, 1, 1, 1, 1, 1, 1, 1, 1] _ [(160, 96, 160, 96, 0, 1)] 0 32 0 0 0 1 ⟨_, _, _, rfl, by first | (rw [get_newk]; rfl) | (rw [get_new0]; rfl)⟩ ⟨_, _, _, by first | rfl | (rw [List.length_append]; done) | (rw [List.length_append]; rfl), by first | rfl | (rw [get_newk]; rfl) | (rw [get_new0]; rfl) | (rw [get_newk, prs_append]; rfl) | (rw [get_new0, prs_append]; rfl)⟩ (by simp)) ?_
  simp -implicitDefEqProofs (maxSteps := 2000000) (disch := omega) only [aApp_nil, aApp_none, aApp_some, aApp_grw, simprocAttr, amset, tyset, Function.comp_apply, one1, lenV, calleeOf, lateOk, belowV, aop, AV.ofValue, AV.ofCell, AV.cells, AV.flat, AV.one, arep, aBin, aConv]
  repeat refine And.intro (by omega) ?_
  refine gd_split (fun h1 => ?_) (fun h1 => ?_)
  · have h1d := h1
    try simp only [boolset, beq_iff_eq, ne_eq] at h1d
    have h1n := h1
    try simp only [int_bne, int_beq, Bool.not_eq_true', Bool.not_eq_false', Bool.not_not] at h1n
    simp -implicitDefEqProofs (maxSteps := 2000000) (disch := omega) only [h1, h1n, int_bne, int_beq, aApp_nil, aApp_none, aApp_some, aApp_grw, simprocAttr, amset, tyset, Function.comp_apply, one1, lenV, calleeOf, lateOk, belowV, aop, AV.ofValue, AV.ofCell, AV.cells, AV.flat, AV.one, arep, aBin, aConv]
    repeat refine And.intro (by omega) ?_
    refine gd_split (fun h2 => ?_) (fun h2 => ?_)
    · have h2d := h2
      try simp only [boolset, beq_iff_eq, ne_eq] at h2d
      simp -implicitDefEqProofs (maxSteps := 2000000) (disch := omega) only [h1, h1n, int_bne, int_beq, h2, h2d, aApp_nil, aApp_none, aApp_some, aApp_grw, simprocAttr, amset, tyset, Function.comp_apply, one1, lenV, calleeOf, lateOk, belowV, aop, AV.ofValue, AV.ofCell, AV.cells, AV.flat, AV.one, arep, aBin, aConv]
      repeat refine And.intro (by omega) ?_
      refine gd_split (fun h3 => ?_) (fun h3 => ?_)
      · have h3d := h3
        try simp only [boolset, beq_iff_eq, ne_eq] at h3d
        have h3n := h3
        try simp only [int_bne, int_beq, Bool.not_eq_true', Bool.not_eq_false', Bool.not_not] at h3n
        simp -implicitDefEqProofs (maxSteps := 2000000) (disch := omega) only [h1, h1n, int_bne, int_beq, h2, h2d, h3, h3n, aApp_nil, aApp_none, aApp_some, aApp_grw, simprocAttr, amset, tyset, Function.comp_apply, one1, lenV, calleeOf, lateOk, belowV, aop, AV.ofValue, AV.ofCell, AV.cells, AV.flat, AV.one, arep, aBin, aConv]
        repeat refine And.intro (by omega) ?_
        exact hQ _ _ (end_plain (.inl rfl) hbel (x := .bool (!(saB 3 3 [1, 1, 1, 1, 1, 1, 1, 1, 1] [(160, 96, 160, 96, 0, 1)] 0 32 0 0 0 1))) (ret_of Tryz.results34 (by simp -implicitDefEqProofs (maxSteps := 2000000) (disch := omega) only [simprocAttr, amset, tyset, Function.comp_apply, one1, lenV, calleeOf, lateOk, belowV, aop, AV.ofValue, AV.ofCell, AV.cells, AV.flat, AV.one, arep, aBin, aAppend, aConv])) rfl ⟨by first | rfl | (rw [w2b]; rfl) | simp [w2b], rfl⟩)
      · have h3d := h3
        try simp only [boolset, beq_iff_eq, ne_eq] at h3d
        have h3n := h3
        try simp only [int_bne, int_beq, Bool.not_eq_true', Bool.not_eq_false', Bool.not_not] at h3n
        first | exact absurd w2a h3d | (rw [w2a] at h3d; exact absurd h3d (by decide)) | (simp [w2a] at h3d)
    · have h2d := h2
      try simp only [boolset, beq_iff_eq, ne_eq] at h2d
      first | exact absurd w1b h2d | (rw [w1b] at h2d; exact absurd h2d (by decide)) | (simp [w1b] at h2d)
  · have h1d := h1
    try simp only [boolset, beq_iff_eq, ne_eq] at h1d
    have h1n := h1
    try simp only [int_bne, int_beq, Bool.not_eq_true', Bool.not_eq_false', Bool.not_not] at h1n
    first | exact absurd w1a h1d | (rw [w1a] at h1d; exact absurd h1d (by decide)) | (simp [w1a] at h1d)
open Go.RowKit
/-- A segment and a rectangle that no axis and not the segment's normal separates have a point in common: the direction goes up and right. -/
theorem meets_core {px py dx dy x0 y0 x1 y1 : Int} (hx : x0 ≤ x1) (hy : y0 ≤ y1) (hdx : 0 ≤ dx) (hdy : 0 ≤ dy) (h1 : x0 ≤ px + dx) (h2 : px ≤ x1) (h3 : y0 ≤ py + dy) (h4 : py ≤ y1)
    (c1 : dx * (y0 - py) ≤ dy * (x1 - px)) (c2 : dy * (x0 - px) ≤ dx * (y1 - py)) : ∃ A T : Int, 0 < T ∧ (0 ≤ A ∧ A ≤ T) ∧ (T * x0 ≤ T * px + A * dx ∧ T * px + A * dx ≤ T * x1) ∧ T * y0 ≤ T * py + A * dy ∧ T * py + A * dy ≤ T * y1 := by
  have e1 : dx * (y0 - py) = dx * y0 - dx * py := by grind
  have e2 : dy * (x1 - px) = dy * x1 - dy * px := by grind
  have e3 : dy * (x0 - px) = dy * x0 - dy * px := by grind
  have e4 : dx * (y1 - py) = dx * y1 - dx * py := by grind
  have k1 : dx * x0 ≤ dx * x1 := Int.mul_le_mul_of_nonneg_left hx hdx
  have k2 : dy * y0 ≤ dy * y1 := Int.mul_le_mul_of_nonneg_left hy hdy
  have f1 : (x0 - px) * dx = dx * x0 - dx * px := by grind
  have f2 : (x0 - px) * dy = dy * x0 - dy * px := by grind
  have f3 : (y0 - py) * dx = dx * y0 - dx * py := by grind
  have f4 : (y0 - py) * dy = dy * y0 - dy * py := by grind
  rcases Int.lt_or_le px x0 with a | a
  · by_cases g : dx * (y0 - py) ≤ dy * (x0 - px)
    · exact ⟨x0 - px, dx, by omega, by omega, by omega, by omega⟩
    · have q : 0 ≤ dy * (x0 - px) := Int.mul_nonneg hdy (by omega)
      have b : py < y0 := by
        rcases Int.lt_or_le py y0 with b | b
        · exact b
        · have := Int.mul_le_mul_of_nonneg_left (show y0 - py ≤ 0 by omega) hdx
          rw [Int.mul_zero] at this; omega
      exact ⟨y0 - py, dy, by omega, by omega, by omega, by omega⟩
  · rcases Int.lt_or_le py y0 with b | b
    · have k3 : dy * x0 ≤ dy * px := Int.mul_le_mul_of_nonneg_left a hdy
      have k4 : 0 ≤ (y0 - py) * dx := Int.mul_nonneg (by omega) hdx
      exact ⟨y0 - py, dy, by omega, by omega, by omega, by omega⟩
    · exact ⟨0, 1, by omega, by omega, by omega, by omega⟩
/-- The same, the direction goes right. -/
theorem meets_right {px py dx dy x0 y0 x1 y1 : Int} (hx : x0 ≤ x1) (hy : y0 ≤ y1) (hdx : 0 ≤ dx) (h1 : x0 ≤ px + dx) (h2 : px ≤ x1) (h3 : y0 ≤ py ∨ y0 ≤ py + dy) (h4 : py ≤ y1 ∨ py + dy ≤ y1)
    (c1 : ∃ x y : Int, (x = x0 ∨ x = x1) ∧ (y = y0 ∨ y = y1) ∧ dx * (y - py) - dy * (x - px) ≤ 0) (c2 : ∃ x y : Int, (x = x0 ∨ x = x1) ∧ (y = y0 ∨ y = y1) ∧ 0 ≤ dx * (y - py) - dy * (x - px)) :
    ∃ A T : Int, 0 < T ∧ (0 ≤ A ∧ A ≤ T) ∧ (T * x0 ≤ T * px + A * dx ∧ T * px + A * dx ≤ T * x1) ∧ T * y0 ≤ T * py + A * dy ∧ T * py + A * dy ≤ T * y1 := by
  obtain ⟨u, v, hu, hv, c1⟩ := c1
  obtain ⟨u', v', hu', hv', c2⟩ := c2
  rcases Int.le_total 0 dy with hd | hd
  · have a1 : dx * (y0 - py) ≤ dx * (v - py) := Int.mul_le_mul_of_nonneg_left (by omega) hdx
    have a2 : dy * (u - px) ≤ dy * (x1 - px) := Int.mul_le_mul_of_nonneg_left (by omega) hd
    have a3 : dx * (v' - py) ≤ dx * (y1 - py) := Int.mul_le_mul_of_nonneg_left (by omega) hdx
    have a4 : dy * (x0 - px) ≤ dy * (u' - px) := Int.mul_le_mul_of_nonneg_left (by omega) hd
    exact meets_core hx hy hdx hd h1 h2 (by omega) (by omega) (by omega) (by omega)
  · have a1 : dx * (v' - py) ≤ dx * (y1 - py) := Int.mul_le_mul_of_nonneg_left (by omega) hdx
    have a2 : (-dy) * (u' - px) ≤ (-dy) * (x1 - px) := Int.mul_le_mul_of_nonneg_left (by omega) (by omega)
    have a3 : dx * (y0 - py) ≤ dx * (v - py) := Int.mul_le_mul_of_nonneg_left (by omega) hdx
    have a4 : (-dy) * (x0 - px) ≤ (-dy) * (u - px) := Int.mul_le_mul_of_nonneg_left (by omega) (by omega)
    have n1 : (-dy) * (u' - px) = -(dy * (u' - px)) := Int.neg_mul _ _
    have n2 : (-dy) * (u - px) = -(dy * (u - px)) := Int.neg_mul _ _
    have n3 : dx * (-y1 - -py) = -(dx * (y1 - py)) := by grind
    have n4 : dx * (-y0 - -py) = -(dx * (y0 - py)) := by grind
    obtain ⟨A, T, t1, t2, t3, t4, t5⟩ := meets_core (px := px) (py := -py) (dx := dx) (dy := -dy) (x0 := x0) (x1 := x1) (y0 := -y1) (y1 := -y0) hx (by omega) hdx (by omega) h1 h2 (by omega) (by omega) (by omega) (by omega)
    have m1 : T * -y1 = -(T * y1) := Int.mul_neg _ _
    have m2 : T * -y0 = -(T * y0) := Int.mul_neg _ _
    have m3 : T * -py = -(T * py) := Int.mul_neg _ _
    have m4 : A * -dy = -(A * dy) := Int.mul_neg _ _
    exact ⟨A, T, t1, t2, t3, by omega, by omega⟩
/-- A segment and a rectangle that no axis and not the segment's normal separates have a point in common. -/
theorem meets_any {px py dx dy x0 y0 x1 y1 : Int} (hx : x0 ≤ x1) (hy : y0 ≤ y1) (h1 : x0 ≤ px ∨ x0 ≤ px + dx) (h2 : px ≤ x1 ∨ px + dx ≤ x1) (h3 : y0 ≤ py ∨ y0 ≤ py + dy) (h4 : py ≤ y1 ∨ py + dy ≤ y1)
    (c1 : ∃ x y : Int, (x = x0 ∨ x = x1) ∧ (y = y0 ∨ y = y1) ∧ dx * (y - py) - dy * (x - px) ≤ 0) (c2 : ∃ x y : Int, (x = x0 ∨ x = x1) ∧ (y = y0 ∨ y = y1) ∧ 0 ≤ dx * (y - py) - dy * (x - px)) :
    ∃ A T : Int, 0 < T ∧ (0 ≤ A ∧ A ≤ T) ∧ (T * x0 ≤ T * px + A * dx ∧ T * px + A * dx ≤ T * x1) ∧ T * y0 ≤ T * py + A * dy ∧ T * py + A * dy ≤ T * y1 := by
  rcases Int.le_total 0 dx with hd | hd
  · exact meets_right hx hy hd (by omega) (by omega) h3 h4 c1 c2
  · obtain ⟨u, v, hu, hv, c1⟩ := c1
    obtain ⟨u', v', hu', hv', c2⟩ := c2
    obtain ⟨A, T, t1, t2, t3, t4, t5⟩ := meets_right (px := -px) (py := py) (dx := -dx) (dy := dy) (x0 := -x1) (x1 := -x0) (y0 := y0) (y1 := y1) (by omega) hy (by omega) (by omega) (by omega) h3 h4
      ⟨-u', v', by omega, hv', by
        have n1 : (-dx) * (v' - py) = -(dx * (v' - py)) := Int.neg_mul _ _
        have n2 : dy * (-u' - -px) = -(dy * (u' - px)) := by grind
        omega⟩ ⟨-u, v, by omega, hv, by
        have n1 : (-dx) * (v - py) = -(dx * (v - py)) := Int.neg_mul _ _
        have n2 : dy * (-u - -px) = -(dy * (u - px)) := by grind
        omega⟩
    have m1 : T * -x1 = -(T * x1) := Int.mul_neg _ _
    have m2 : T * -x0 = -(T * x0) := Int.mul_neg _ _
    have m3 : T * -px = -(T * px) := Int.mul_neg _ _
    have m4 : A * -dx = -(A * dx) := Int.mul_neg _ _
    exact ⟨A, T, t1, t2, by omega, t4, t5⟩
/-- The program's test of a segment and a cell's square, read as the way's touch. -/
theorem meets_tou {px py qx qy x0 y0 : Int} (h1 : x0 ≤ px ∨ x0 ≤ qx) (h2 : px ≤ x0 + 64 ∨ qx ≤ x0 + 64) (h3 : y0 ≤ py ∨ y0 ≤ qy) (h4 : py ≤ y0 + 64 ∨ qy ≤ y0 + 64)
    (c1 : ∃ x y : Int, (x = x0 ∨ x = x0 + 64) ∧ (y = y0 ∨ y = y0 + 64) ∧ (qx - px) * (y - py) - (qy - py) * (x - px) ≤ 0) (c2 : ∃ x y : Int, (x = x0 ∨ x = x0 + 64) ∧ (y = y0 ∨ y = y0 + 64) ∧ 0 ≤ (qx - px) * (y - py) - (qy - py) * (x - px)) : TouP px py qx qy x0 y0 := by
  obtain ⟨A, T, t1, t2, t3, t4, t5⟩ := meets_any (px := px) (py := py) (dx := qx - px) (dy := qy - py) (x0 := x0) (x1 := x0 + 64) (y0 := y0) (y1 := y0 + 64) (by omega) (by omega) (by omega) (by omega) (by omega) (by omega) c1 c2
  have m1 := mul20 t1 x0 20 (by decide)
  have m2 := mul20 t1 (x0 + 64) 20 (by decide)
  have m3 := mul20 t1 y0 20 (by decide)
  have m4 := mul20 t1 (y0 + 64) 20 (by decide)
  rw [show x0 + 64 + 20 = x0 + 84 by omega] at m2
  rw [show y0 + 64 + 20 = y0 + 84 by omega] at m4
  exact ⟨A, T, t1, t2, by omega, by omega⟩
/-- A corner near the way, as the program tests it. -/
theorem corner_w {cx cy px py qx qy x0 y0 : Int} (hx : cx = x0 ∨ cx = x0 + 64) (hy : cy = y0 ∨ cy = y0 + 64) (h : (cx - px) * (cx - px) + (cy - py) * (cy - py) ≤ 400 ∨ (cx - qx) * (cx - qx) + (cy - qy) * (cy - qy) ≤ 400 ∨
    (0 < (qx - px) * (cx - px) + (qy - py) * (cy - py) ∧ (qx - px) * (cx - px) + (qy - py) * (cy - py) < (qx - px) * (qx - px) + (qy - py) * (qy - py) ∧ ((qx - px) * (cy - py) - (qy - py) * (cx - px)) * ((qx - px) * (cy - py) - (qy - py) * (cx - px)) ≤ 400 * ((qx - px) * (qx - px) + (qy - py) * (qy - py)))) : TouP px py qx qy x0 y0 := by
  rcases h with h | h | ⟨k1, k2, h⟩
  · have a1 := sqz_nn (cx - px)
    have a2 := sqz_nn (cy - py)
    have b1 := sqz_le (a := cx - px) (b := 20) (by omega) (by omega)
    have b2 := sqz_le (a := cy - py) (b := 20) (by omega) (by omega)
    exact ⟨0, 1, by omega, by omega, by omega, by omega⟩
  · have a1 := sqz_nn (cx - qx)
    have a2 := sqz_nn (cy - qy)
    have b1 := sqz_le (a := cx - qx) (b := 20) (by omega) (by omega)
    have b2 := sqz_le (a := cy - qy) (b := 20) (by omega) (by omega)
    exact ⟨1, 1, by omega, by omega, by omega, by omega⟩
  · have g := near_geo h
    generalize hL : (qx - px) * (qx - px) + (qy - py) * (qy - py) = L at *
    generalize hA : (qx - px) * (cx - px) + (qy - py) * (cy - py) = A at *
    refine ⟨A, L, by omega, by omega, ?_, ?_⟩
    · have e : L * (cx - px) = L * cx - L * px := by grind
      have f1 : L * (cx - 20) = L * cx - 20 * L := by grind
      have f2 : L * (cx + 20) = L * cx + 20 * L := by grind
      have m1 := Int.mul_le_mul_of_nonneg_left (show x0 - 20 ≤ cx - 20 by omega) (show 0 ≤ L by omega)
      have m2 := Int.mul_le_mul_of_nonneg_left (show cx + 20 ≤ x0 + 84 by omega) (show 0 ≤ L by omega)
      omega
    · have e : L * (cy - py) = L * cy - L * py := by grind
      have f1 : L * (cy - 20) = L * cy - 20 * L := by grind
      have f2 : L * (cy + 20) = L * cy + 20 * L := by grind
      have m1 := Int.mul_le_mul_of_nonneg_left (show y0 - 20 ≤ cy - 20 by omega) (show 0 ≤ L by omega)
      have m2 := Int.mul_le_mul_of_nonneg_left (show cy + 20 ≤ y0 + 84 by omega) (show 0 ≤ L by omega)
      omega
/-- How far a coordinate is outside a range, and what a small sum of squares says of it. -/
theorem bes_le {a b lo hi n lo' hi' n' : Int} (ha : lo - n ≤ a ∧ n - hi ≤ a) (hb : lo' - n' ≤ b ∧ n' - hi' ≤ b) (h : a * a + b * b ≤ 400) : (lo - 20 ≤ n ∧ n ≤ hi + 20) ∧ lo' - 20 ≤ n' ∧ n' ≤ hi' + 20 := by
  have a1 := sqz_nn a
  have a2 := sqz_nn b
  have b1 := sqz_le (a := a) (b := 20) (by omega) (by omega)
  have b2 := sqz_le (a := b) (b := 20) (by omega) (by omega)
  omega
/-- The program's numbers on segments. -/
def sgI (n : Int) : Int := if 0 < n then 1 else if n < 0 then -1 else 0
def crI (px py qx qy rx ry : Int) : Int := (qx - px) * (ry - py) - (qy - py) * (rx - px)
def ckX (x0 x1 : Int) : Nat → Int
  | 0 => x0
  | 1 => x1
  | 2 => x0
  | _ => x1
def ckY (y0 y1 : Int) : Nat → Int
  | 0 => y0
  | 1 => y0
  | 2 => y1
  | _ => y1
def sgK (px py qx qy x0 y0 x1 y1 : Int) (n : Nat) : Int := sgI (crI px py qx qy (ckX x0 x1 n) (ckY y0 y1 n))
def mrL (px py qx qy x0 y0 x1 y1 : Int) : Nat → Int
  | 0 => 1
  | n + 1 => if sgK px py qx qy x0 y0 x1 y1 n < mrL px py qx qy x0 y0 x1 y1 n then sgK px py qx qy x0 y0 x1 y1 n else mrL px py qx qy x0 y0 x1 y1 n
def mrH (px py qx qy x0 y0 x1 y1 : Int) : Nat → Int
  | 0 => -1
  | n + 1 => if mrH px py qx qy x0 y0 x1 y1 n < sgK px py qx qy x0 y0 x1 y1 n then sgK px py qx qy x0 y0 x1 y1 n else mrH px py qx qy x0 y0 x1 y1 n
def mrB (px py qx qy x0 y0 x1 y1 : Int) : Bool := !decide (mxI px qx < x0) && (!decide (x1 < mnI px qx) && (!decide (mxI py qy < y0) && (!decide (y1 < mnI py qy) && (decide (mrL px py qx qy x0 y0 x1 y1 4 ≤ 0) && decide (0 ≤ mrH px py qx qy x0 y0 x1 y1 4)))))
def besI (n lo hi : Int) : Int := if (if lo - n < 0 then 0 else lo - n) < n - hi then n - hi else if lo - n < 0 then 0 else lo - n
def gapP (px py x0 y0 x1 y1 : Int) : Int := besI px x0 x1 * besI px x0 x1 + besI py y0 y1 * besI py y0 y1
def sqI (ax ay bx b_ : Int) : Int := (ax - bx) * (ax - bx) + (ay - b_) * (ay - b_)
def wtB (cx cy px py qx qy k : Int) : Bool :=
  if (cx - px) * (qx - px) + (cy - py) * (qy - py) ≤ 0 then decide (sqI cx cy px py ≤ k * k)
  else if (qx - px) * (qx - px) + (qy - py) * (qy - py) ≤ (cx - px) * (qx - px) + (cy - py) * (qy - py) then decide (sqI cx cy qx qy ≤ k * k)
  else !decide (crI px py qx qy cx cy < -4194304) && (!decide (4194304 < crI px py qx qy cx cy) && decide (crI px py qx qy cx cy * crI px py qx qy cx cy ≤ k * k * ((qx - px) * (qx - px) + (qy - py) * (qy - py))))
def ptO (px py qx qy x0 y0 x1 y1 : Int) : Bool := mrB px py qx qy x0 y0 x1 y1 || (decide (gapP px py x0 y0 x1 y1 ≤ 400) || (decide (gapP qx qy x0 y0 x1 y1 ≤ 400) || (wtB (ckX x0 x1 0) (ckY y0 y1 0) px py qx qy 20 || (wtB (ckX x0 x1 1) (ckY y0 y1 1) px py qx qy 20 || (wtB (ckX x0 x1 2) (ckY y0 y1 2) px py qx qy 20 || wtB (ckX x0 x1 3) (ckY y0 y1 3) px py qx qy 20)))))
theorem sg_le {n : Int} (h : sgI n ≤ 0) : n ≤ 0 := by unfold sgI at h; split at h <;> omega
theorem sg_ge {n : Int} (h : 0 ≤ sgI n) : 0 ≤ n := by
  unfold sgI at h; split at h
  · omega
  · split at h <;> omega
theorem mrL_ex {px py qx qy x0 y0 x1 y1 : Int} : ∀ {n : Nat}, mrL px py qx qy x0 y0 x1 y1 n ≤ 0 → ∃ j : Nat, j < n ∧ sgK px py qx qy x0 y0 x1 y1 j ≤ 0
  | 0, h => by unfold mrL at h; omega
  | n + 1, h => by
    unfold mrL at h
    split at h
    · exact ⟨n, by omega, h⟩
    · obtain ⟨j, h1, h2⟩ := mrL_ex h
      exact ⟨j, by omega, h2⟩
theorem mrH_ex {px py qx qy x0 y0 x1 y1 : Int} : ∀ {n : Nat}, 0 ≤ mrH px py qx qy x0 y0 x1 y1 n → ∃ j : Nat, j < n ∧ 0 ≤ sgK px py qx qy x0 y0 x1 y1 j
  | 0, h => by unfold mrH at h; omega
  | n + 1, h => by
    unfold mrH at h
    split at h
    · exact ⟨n, by omega, h⟩
    · obtain ⟨j, h1, h2⟩ := mrH_ex h
      exact ⟨j, by omega, h2⟩
theorem ck_or {x0 x1 y0 y1 : Int} {n : Nat} (h : n < 4) : (ckX x0 x1 n = x0 ∨ ckX x0 x1 n = x1) ∧ (ckY y0 y1 n = y0 ∨ ckY y0 y1 n = y1) := by
  match n, h with
  | 0, _ => exact ⟨.inl rfl, .inl rfl⟩
  | 1, _ => exact ⟨.inr rfl, .inl rfl⟩
  | 2, _ => exact ⟨.inl rfl, .inr rfl⟩
  | 3, _ => exact ⟨.inr rfl, .inr rfl⟩
theorem bes_ge {n lo hi : Int} : lo - n ≤ besI n lo hi ∧ n - hi ≤ besI n lo hi ∧ 0 ≤ besI n lo hi := by unfold besI; split <;> split <;> omega
theorem wt_tou {px py qx qy x0 y0 : Int} {n : Nat} (hn : n < 4) (h : wtB (ckX x0 (x0 + 64) n) (ckY y0 (y0 + 64) n) px py qx qy 20 = true) : TouP px py qx qy x0 y0 := by
  have k := ck_or (x0 := x0) (x1 := x0 + 64) (y0 := y0) (y1 := y0 + 64) hn
  generalize ckX x0 (x0 + 64) n = cx at *
  generalize ckY y0 (y0 + 64) n = cy at *
  have e1 : (cx - px) * (qx - px) + (cy - py) * (qy - py) = (qx - px) * (cx - px) + (qy - py) * (cy - py) := by grind
  unfold wtB at h
  rw [e1] at h
  refine corner_w k.1 k.2 ?_
  split at h
  · left; have := of_decide_eq_true h; unfold sqI at this; exact this
  · split at h
    · right; left; have := of_decide_eq_true h; unfold sqI at this; exact this
    · rename_i h1 h2
      right; right
      simp only [Bool.and_eq_true, decide_eq_true_eq] at h
      have h3 := h.2.2
      unfold crI at h3
      exact ⟨by omega, by omega, h3⟩
/-- What the program's Touch says of a cell's square. -/
theorem pt_tou {px py qx qy x0 y0 : Int} (h : ptO px py qx qy x0 y0 (x0 + 64) (y0 + 64) = true) : TouP px py qx qy x0 y0 := by
  unfold ptO at h
  simp only [Bool.or_eq_true, decide_eq_true_eq] at h
  rcases h with h | h | h | h | h | h | h
  · unfold mrB at h
    simp only [Bool.and_eq_true, Bool.not_eq_true', decide_eq_false_iff_not, decide_eq_true_eq] at h
    obtain ⟨h1, h2, h3, h4, h5, h6⟩ := h
    obtain ⟨i, i1, i2⟩ := mrL_ex h5
    obtain ⟨j, j1, j2⟩ := mrH_ex h6
    have ki := ck_or (x0 := x0) (x1 := x0 + 64) (y0 := y0) (y1 := y0 + 64) i1
    have kj := ck_or (x0 := x0) (x1 := x0 + 64) (y0 := y0) (y1 := y0 + 64) j1
    exact meets_tou (by unfold mxI at h1; split at h1 <;> omega) (by unfold mnI at h2; split at h2 <;> omega) (by unfold mxI at h3; split at h3 <;> omega) (by unfold mnI at h4; split at h4 <;> omega) ⟨_, _, ki.1, ki.2, sg_le i2⟩ ⟨_, _, kj.1, kj.2, sg_ge j2⟩
  · have b1 := bes_ge (n := px) (lo := x0) (hi := x0 + 64)
    have b2 := bes_ge (n := py) (lo := y0) (hi := y0 + 64)
    have k := bes_le (lo := x0) (hi := x0 + 64) (n := px) (lo' := y0) (hi' := y0 + 64) (n' := py) ⟨b1.1, b1.2.1⟩ ⟨b2.1, b2.2.1⟩ (by unfold gapP at h; exact h)
    exact ⟨0, 1, by omega, by omega, by omega, by omega⟩
  · have b1 := bes_ge (n := qx) (lo := x0) (hi := x0 + 64)
    have b2 := bes_ge (n := qy) (lo := y0) (hi := y0 + 64)
    have k := bes_le (lo := x0) (hi := x0 + 64) (n := qx) (lo' := y0) (hi' := y0 + 64) (n' := qy) ⟨b1.1, b1.2.1⟩ ⟨b2.1, b2.2.1⟩ (by unfold gapP at h; exact h)
    exact ⟨1, 1, by omega, by omega, by omega, by omega⟩
  · exact wt_tou (by omega) h
  · exact wt_tou (by omega) h
  · exact wt_tou (by omega) h
  · exact wt_tou (by omega) h
theorem bes_bd {n lo hi M : Int} (h : -M ≤ n ∧ n ≤ M) (h1 : -M ≤ lo ∧ lo ≤ M) (h2 : -M ≤ hi ∧ hi ≤ M) : 0 ≤ besI n lo hi ∧ besI n lo hi ≤ 2 * M := by unfold besI; split <;> split <;> omega
open Go.RowKit
theorem sgn_c (H : AHeap) (n : Int) : ACalls Tryz.prog 350 [.int .i64 n] H (fun v H' => v = .int .i64 (sgI n) ∧ H' = H) := by
  refine AcT true Tryz.func350 ?_; intro hbel Q hQ
  refine runT ?_
  refine cond_split (fun h1 => ?_) (fun h1 => ?_)
  · have h1d := bsT h1
    have g'1 := (jn @h1 @h1d)
    refine runTf g'1 ?_
    exact hQ _ _ (end_plain0 (.inl rfl) hbel (x := .int .i64 1) (resT Tryz.results350) rfl ⟨by first | (unfold sgI; rw [if_pos (by omega)]; done) | (unfold sgI; rw [if_neg (by omega), if_pos (by omega)]; done) | (unfold sgI; rw [if_neg (by omega), if_neg (by omega)]; done), rfl⟩)
  · have h1d := bsT h1
    have g'2 := (jn @h1 @h1d)
    refine runTf g'2 ?_
    refine cond_split (fun h2 => ?_) (fun h2 => ?_)
    · have h2d := bsT h2
      have g'3 := (jn @h2 (jn @h2d g'2))
      refine runTf g'3 ?_
      exact hQ _ _ (end_plain0 (.inl rfl) hbel (x := .int .i64 (-1)) (resT Tryz.results350) rfl ⟨by first | (unfold sgI; rw [if_pos (by omega)]; done) | (unfold sgI; rw [if_neg (by omega), if_pos (by omega)]; done) | (unfold sgI; rw [if_neg (by omega), if_neg (by omega)]; done), rfl⟩)
    · have h2d := bsT h2
      have g'4 := (jn @h2 (jn @h2d g'2))
      refine runTf g'4 ?_
      exact hQ _ _ (end_plain0 (.inl rfl) hbel (x := .int .i64 0) (resT Tryz.results350) rfl ⟨by first | (unfold sgI; rw [if_pos (by omega)]; done) | (unfold sgI; rw [if_neg (by omega), if_pos (by omega)]; done) | (unfold sgI; rw [if_neg (by omega), if_neg (by omega)]; done), rfl⟩)
theorem crs_c (H : AHeap) (px : Int) (py : Int) (qx : Int) (qy : Int) (rx : Int) (ry : Int) (h1 : -1024 ≤ qx - px ∧ qx - px ≤ 1024) (h2 : -1024 ≤ qy - py ∧ qy - py ≤ 1024) (h3 : -8388608 ≤ rx - px ∧ rx - px ≤ 8388608) (h4 : -8388608 ≤ ry - py ∧ ry - py ≤ 8388608) : ACalls Tryz.prog 351 [.agg [.int .i64 px, .int .i64 py], .agg [.int .i64 qx, .int .i64 qy], .agg [.int .i64 rx, .int .i64 ry]] H (fun v H' => v = .int .i64 (crI px py qx qy rx ry) ∧ H' = H) := by
  have m1 := mul_bd (a := qx - px) (b := ry - py) (A := 1024) (B := 8388608) (by omega) (by omega)
  have m2 := mul_bd (a := qy - py) (b := rx - px) (A := 1024) (B := 8388608) (by omega) (by omega)
  refine AcT true Tryz.func351 ?_; intro hbel Q hQ
  refine runT ?_
  exact hQ _ _ (end_plain (.inl rfl) hbel (x := .int .i64 (((qx - px) * (ry - py)) - ((qy - py) * (rx - px)))) (resT Tryz.results351) rfl ⟨rfl, rfl⟩)
theorem bes_c (H : AHeap) (n : Int) (lo : Int) (hi : Int) (h1 : -16777216 ≤ n ∧ n ≤ 16777216) (h2 : -16777216 ≤ lo ∧ lo ≤ 16777216) (h3 : -16777216 ≤ hi ∧ hi ≤ 16777216) : ACalls Tryz.prog 213 [.int .i64 n, .int .i64 lo, .int .i64 hi] H (fun v H' => v = .int .i64 (besI n lo hi) ∧ H' = H) := by
  refine AcT true Tryz.func213 ?_; intro hbel Q hQ
  refine runT ?_
  exact hQ _ _ (end_plain0 (.inl rfl) hbel (x := .int .i64 (if (if (lo - n) < 0 then 0 else (lo - n)) < (n - hi) then (n - hi) else (if (lo - n) < 0 then 0 else (lo - n)))) (resT Tryz.results213) rfl ⟨rfl, rfl⟩)
theorem sqs_c (H : AHeap) (ax : Int) (ay : Int) (bx : Int) (b_ : Int) (h1 : -8388608 ≤ ax - bx ∧ ax - bx ≤ 8388608) (h2 : -8388608 ≤ ay - b_ ∧ ay - b_ ≤ 8388608) : ACalls Tryz.prog 352 [.agg [.int .i64 ax, .int .i64 ay], .agg [.int .i64 bx, .int .i64 b_]] H (fun v H' => v = .int .i64 (sqI ax ay bx b_) ∧ H' = H) := by
  have m1 := mul_bd (a := ax - bx) (b := ax - bx) (A := 8388608) (B := 8388608) (by omega) (by omega)
  have m2 := mul_bd (a := ay - b_) (b := ay - b_) (A := 8388608) (B := 8388608) (by omega) (by omega)
  refine AcT true Tryz.func352 ?_; intro hbel Q hQ
  refine runT ?_
  exact hQ _ _ (end_plain (.inl rfl) hbel (x := .int .i64 (((ax - bx) * (ax - bx)) + ((ay - b_) * (ay - b_)))) (resT Tryz.results352) rfl ⟨rfl, rfl⟩)
theorem scor_c (H : AHeap) (x0 : Int) (y0 : Int) (x1 : Int) (y1 : Int) : ACalls Tryz.prog 280 [.agg [.int .i64 x0, .int .i64 y0, .int .i64 x1, .int .i64 y1]] H (fun v H' => v = .agg [.int .i64 x0, .int .i64 y0, .int .i64 x1, .int .i64 y0, .int .i64 x0, .int .i64 y1, .int .i64 x1, .int .i64 y1] ∧ H' = H) := by
  refine AcT true Tryz.func280 ?_; intro hbel Q hQ
  refine runT ?_
  exact hQ _ _ (end_plain (.inl rfl) hbel (x := .agg [.int .i64 x0, .int .i64 y0, .int .i64 x1, .int .i64 y0, .int .i64 x0, .int .i64 y1, .int .i64 x1, .int .i64 y1]) (resT Tryz.results280) rfl ⟨rfl, rfl⟩)
theorem gap_c (H : AHeap) (px : Int) (py : Int) (x0 : Int) (y0 : Int) (x1 : Int) (y1 : Int) (hp : lnP px py = true) (hr : lnR x0 y0 x1 y1 = true) : ACalls Tryz.prog 127 [.agg [.int .i64 px, .int .i64 py], .agg [.int .i64 x0, .int .i64 y0, .int .i64 x1, .int .i64 y1]] H (fun v H' => v = .int .i64 (gapP px py x0 y0 x1 y1) ∧ H' = H) := by
  have hp2 := lnP_iff.1 hp
  have hr2 := lnR_iff.1 hr
  have b1 := bes_bd (n := px) (lo := x0) (hi := x1) (M := 2097152) (by omega) (by omega) (by omega)
  have b2 := bes_bd (n := py) (lo := y0) (hi := y1) (M := 2097152) (by omega) (by omega) (by omega)
  have m1 := mul_bd (a := besI px x0 x1) (b := besI px x0 x1) (A := 4194304) (B := 4194304) (by omega) (by omega)
  have m2 := mul_bd (a := besI py y0 y1) (b := besI py y0 y1) (A := 4194304) (B := 4194304) (by omega) (by omega)
  refine AcT true Tryz.func127 ?_; intro hbel Q hQ
  have g'5 := (jn @hp @hr)
  refine runTf g'5 ?_
  refine call_v (by kernel_rfl) (svpt_c _ px py) ?_
  refine runTf g'5 ?_
  refine call_v (by kernel_rfl) (svrc_c _ x0 y0 x1 y1) ?_
  refine runTf g'5 ?_
  refine call_d (by kernel_rfl) (bes_c _ px x0 x1 (by omega) (by omega) (by omega)) ?_
  refine runTf g'5 ?_
  refine call_d (by kernel_rfl) (bes_c _ py y0 y1 (by omega) (by omega) (by omega)) ?_
  refine runTf g'5 ?_
  exact hQ _ _ (end_plain (.inl rfl) hbel (x := .int .i64 (((besI px x0 x1) * (besI px x0 x1)) + ((besI py y0 y1) * (besI py y0 y1)))) (resT Tryz.results127) rfl ⟨rfl, rfl⟩)
theorem swth_c (H : AHeap) (cx : Int) (cy : Int) (px : Int) (py : Int) (qx : Int) (qy : Int) (k : Int) (h1 : -1024 ≤ qx - px ∧ qx - px ≤ 1024) (h2 : -1024 ≤ qy - py ∧ qy - py ≤ 1024) (h3 : -4194304 ≤ cx - px ∧ cx - px ≤ 4194304) (h4 : -4194304 ≤ cy - py ∧ cy - py ≤ 4194304) (h5 : 0 ≤ k ∧ k ≤ 1024) (h6 : (-2097152 ≤ px ∧ px ≤ 2097152) ∧ -2097152 ≤ py ∧ py ≤ 2097152) : ACalls Tryz.prog 281 [.agg [.int .i64 cx, .int .i64 cy], .agg [.int .i64 px, .int .i64 py], .agg [.int .i64 qx, .int .i64 qy], .int .i64 k] H (fun v H' => v = .bool (wtB cx cy px py qx qy k) ∧ H' = H) := by
  have m1 := mul_bd (a := cx - px) (b := qx - px) (A := 4194304) (B := 1024) (by omega) (by omega)
  have m2 := mul_bd (a := cy - py) (b := qy - py) (A := 4194304) (B := 1024) (by omega) (by omega)
  have m3 := mul_bd (a := qx - px) (b := qx - px) (A := 1024) (B := 1024) (by omega) (by omega)
  have m4 := mul_bd (a := qy - py) (b := qy - py) (A := 1024) (B := 1024) (by omega) (by omega)
  have m5 := mul_bd (a := k) (b := k) (A := 1024) (B := 1024) (by omega) (by omega)
  have n3 := sqz_nn (qx - px)
  have n4 := sqz_nn (qy - py)
  have n5 := sqz_nn k
  refine AcT true Tryz.func281 ?_; intro hbel Q hQ
  refine runT ?_
  refine cond_split (fun h1 => ?_) (fun h1 => ?_)
  · have h1d := bsT h1
    have g'6 := (jn @h1 @h1d)
    refine runTf g'6 ?_
    refine call_v (by kernel_rfl) (sqs_c _ cx cy px py (by omega) (by omega)) ?_
    refine runTf g'6 ?_
    exact hQ _ _ (end_plain (.inl rfl) hbel (x := .bool (decide ((sqI cx cy px py) ≤ (k * k)))) (resT Tryz.results281) rfl ⟨by first | (unfold wtB; simp [h1d]; done) | (unfold wtB; rw [if_pos (by omega)]; done) | (unfold wtB; rw [if_neg (by omega), if_pos (by omega)]; done) | (unfold wtB; rw [if_neg (by omega), if_neg (by omega)]; simp [h1d]; done), rfl⟩)
  · have h1d := bsT h1
    have g'7 := (jn @h1 @h1d)
    refine runTf g'7 ?_
    refine cond_split (fun h2 => ?_) (fun h2 => ?_)
    · have h2d := bsT h2
      have g'8 := (jn @h2 (jn @h2d g'7))
      refine runTf g'8 ?_
      refine call_v (by kernel_rfl) (sqs_c _ cx cy qx qy (by omega) (by omega)) ?_
      refine runTf g'8 ?_
      exact hQ _ _ (end_plain (.inl rfl) hbel (x := .bool (decide ((sqI cx cy qx qy) ≤ (k * k)))) (resT Tryz.results281) rfl ⟨by first | (unfold wtB; simp [h1d, h2d]; done) | (unfold wtB; rw [if_pos (by omega)]; done) | (unfold wtB; rw [if_neg (by omega), if_pos (by omega)]; done) | (unfold wtB; rw [if_neg (by omega), if_neg (by omega)]; simp [h1d, h2d]; done), rfl⟩)
    · have h2d := bsT h2
      have g'9 := (jn @h2 (jn @h2d g'7))
      refine runTf g'9 ?_
      refine call_v (by kernel_rfl) (crs_c _ px py qx qy cx cy (by omega) (by omega) (by omega) (by omega)) ?_
      refine runTf g'9 ?_
      refine gd_split (fun h3 => ?_) (fun h3 => ?_)
      · have h3d := bsT h3
        have g'10 := (jn @h3 (jn @h3d g'9))
        refine runTf g'10 ?_
        refine cond_split (fun h4 => ?_) (fun h4 => ?_)
        · have h4d := bsT h4
          have g'11 := (jn @h4 (jn @h4d g'10))
          refine runTf g'11 ?_
          exact hQ _ _ (end_plain (.inl rfl) hbel (x := .bool false) (resT Tryz.results281) rfl ⟨by first | (unfold wtB; simp [h1d, h2d, h3d, h4d]; done) | (unfold wtB; rw [if_pos (by omega)]; done) | (unfold wtB; rw [if_neg (by omega), if_pos (by omega)]; done) | (unfold wtB; rw [if_neg (by omega), if_neg (by omega)]; simp [h1d, h2d, h3d, h4d]; done), rfl⟩)
        · have h4d := bsT h4
          have m6 := mul_bd (a := crI px py qx qy cx cy) (b := crI px py qx qy cx cy) (A := 4194304) (B := 4194304) (by omega) (by omega)
          have m7 := mul_bd (a := k * k) (b := ((qx - px) * (qx - px)) + ((qy - py) * (qy - py))) (A := 1048576) (B := 2097152) (by omega) (by omega)
          have g'12 := (jn @h4 (jn @h4d g'10))
          refine runTf g'12 ?_
          exact hQ _ _ (end_plain (.inl rfl) hbel (x := .bool (decide (((crI px py qx qy cx cy) * (crI px py qx qy cx cy)) ≤ ((k * k) * (((qx - px) * (qx - px)) + ((qy - py) * (qy - py))))))) (resT Tryz.results281) rfl ⟨by first | (unfold wtB; simp [h1d, h2d, h3d, h4d]; done) | (unfold wtB; rw [if_pos (by omega)]; done) | (unfold wtB; rw [if_neg (by omega), if_pos (by omega)]; done) | (unfold wtB; rw [if_neg (by omega), if_neg (by omega)]; simp [h1d, h2d, h3d, h4d]; done), rfl⟩)
      · have h3d := bsT h3
        have g'13 := (jn @h3 (jn @h3d g'9))
        refine runTf g'13 ?_
        exact hQ _ _ (end_plain (.inl rfl) hbel (x := .bool false) (resT Tryz.results281) rfl ⟨by first | (unfold wtB; simp [h1d, h2d, h3d]; done) | (unfold wtB; rw [if_pos (by omega)]; done) | (unfold wtB; rw [if_neg (by omega), if_pos (by omega)]; done) | (unfold wtB; rw [if_neg (by omega), if_neg (by omega)]; simp [h1d, h2d, h3d]; done), rfl⟩)
open Go.RowKit
theorem mrect_c (H : AHeap) (px : Int) (py : Int) (qx : Int) (qy : Int) (x0 : Int) (y0 : Int) (x1 : Int) (y1 : Int) (hp : lnP px py = true) (hq : lnP qx qy = true) (hr : lnR x0 y0 x1 y1 = true) (hdx : -1024 ≤ qx - px ∧ qx - px ≤ 1024) (hdy : -1024 ≤ qy - py ∧ qy - py ≤ 1024) : ACalls Tryz.prog 279 [.agg [.int .i64 px, .int .i64 py], .agg [.int .i64 qx, .int .i64 qy], .agg [.int .i64 x0, .int .i64 y0, .int .i64 x1, .int .i64 y1]] H (fun v H' => v = .bool (mrB px py qx qy x0 y0 x1 y1) ∧ H' = H) := by
  have hp2 := lnP_iff.1 hp
  have hq2 := lnP_iff.1 hq
  have hr2 := lnR_iff.1 hr
  have hmn : ∀ a b : Int, (if b < a then b else a) = mnI a b := fun _ _ => rfl
  have hmx : ∀ a b : Int, (if a < b then b else a) = mxI a b := fun _ _ => rfl
  have hL0 : mrL px py qx qy x0 y0 x1 y1 1 = if sgI (crI px py qx qy x0 y0) < mrL px py qx qy x0 y0 x1 y1 0 then sgI (crI px py qx qy x0 y0) else mrL px py qx qy x0 y0 x1 y1 0 := rfl
  have hL1 : mrL px py qx qy x0 y0 x1 y1 2 = if sgI (crI px py qx qy x1 y0) < mrL px py qx qy x0 y0 x1 y1 1 then sgI (crI px py qx qy x1 y0) else mrL px py qx qy x0 y0 x1 y1 1 := rfl
  have hL2 : mrL px py qx qy x0 y0 x1 y1 3 = if sgI (crI px py qx qy x0 y1) < mrL px py qx qy x0 y0 x1 y1 2 then sgI (crI px py qx qy x0 y1) else mrL px py qx qy x0 y0 x1 y1 2 := rfl
  have hL3 : mrL px py qx qy x0 y0 x1 y1 4 = if sgI (crI px py qx qy x1 y1) < mrL px py qx qy x0 y0 x1 y1 3 then sgI (crI px py qx qy x1 y1) else mrL px py qx qy x0 y0 x1 y1 3 := rfl
  have hH0 : mrH px py qx qy x0 y0 x1 y1 1 = if mrH px py qx qy x0 y0 x1 y1 0 < sgI (crI px py qx qy x0 y0) then sgI (crI px py qx qy x0 y0) else mrH px py qx qy x0 y0 x1 y1 0 := rfl
  have hH1 : mrH px py qx qy x0 y0 x1 y1 2 = if mrH px py qx qy x0 y0 x1 y1 1 < sgI (crI px py qx qy x1 y0) then sgI (crI px py qx qy x1 y0) else mrH px py qx qy x0 y0 x1 y1 1 := rfl
  have hH2 : mrH px py qx qy x0 y0 x1 y1 3 = if mrH px py qx qy x0 y0 x1 y1 2 < sgI (crI px py qx qy x0 y1) then sgI (crI px py qx qy x0 y1) else mrH px py qx qy x0 y0 x1 y1 2 := rfl
  have hH3 : mrH px py qx qy x0 y0 x1 y1 4 = if mrH px py qx qy x0 y0 x1 y1 3 < sgI (crI px py qx qy x1 y1) then sgI (crI px py qx qy x1 y1) else mrH px py qx qy x0 y0 x1 y1 3 := rfl
  refine AcT true Tryz.func279 ?_; intro hbel Q hQ
  have g'1 := (jn @hmn @hmx)
  refine runTf g'1 ?_
  refine gd_split (fun h1 => ?_) (fun h1 => ?_)
  · have h1d := bsT h1
    have g'2 := (jn @h1 (jn @h1d g'1))
    refine runTf g'2 ?_
    refine gd_split (fun h2 => ?_) (fun h2 => ?_)
    · have h2d := bsT h2
      have g'3 := (jn @h2 (jn @h2d g'2))
      refine runTf g'3 ?_
      refine gd_split (fun h3 => ?_) (fun h3 => ?_)
      · have h3d := bsT h3
        have g'4 := (jn @h3 (jn @h3d g'3))
        refine runTf g'4 ?_
        refine cond_split (fun h4 => ?_) (fun h4 => ?_)
        · have h4d := bsT h4
          have g'5 := (jn @h4 (jn @h4d g'4))
          refine runTf g'5 ?_
          exact hQ _ _ (end_plain (.inl rfl) hbel (x := .bool false) (resT Tryz.results279) rfl ⟨by first | (simp [mrB, h1d, h2d, h3d, h4d]; done) | skip, rfl⟩)
        · have h4d := bsT h4
          have g'6 := (jn @h4 (jn @h4d g'4))
          refine runTf g'6 ?_
          refine call_v (by kernel_rfl) (scor_c _ x0 y0 x1 y1) ?_
          refine runTf g'6 ?_
          refine go_loop try_mixed (by kernel_rfl) (fun k F Hx => ∃ i : Nat, i + k = 4 ∧ F = [(3, .ptr (some (H.length, 0))), (4, .ptr (some (H.length + 1, 0))), (7, .int .i64 (mrL px py qx qy x0 y0 x1 y1 i)), (8, .int .i64 (mrH px py qx qy x0 y0 x1 y1 i)), (51, .agg [.int .i64 x0, .int .i64 y0, .int .i64 x1, .int .i64 y0, .int .i64 x0, .int .i64 y1, .int .i64 x1, .int .i64 y1]), (52, .int .i64 ((i : Nat) : Int))] ∧ Hx = H ++ [.cells true 0 [.int .i64 px, .int .i64 py], .cells true 0 [.int .i64 qx, .int .i64 qy]]) (4) ?_ ?_
          · refine ⟨_, _, _, ⟨0, by omega, rfl, rfl⟩, Abs.byG hbel [] rfl [0, 1] (by decide) ?_⟩
            exact absWf (jn @mrL.eq_1 @mrH.eq_1)
          · rintro k0 F Hx ⟨i, hm0, rfl, rfl⟩ J0 hJ0
            refine runTf g'6 ?_
            refine cond_split (fun h5 => ?_) (fun h5 => ?_)
            · have h5d := bsT h5
              obtain rfl | rfl | rfl | rfl := (by omega : i = 0 ∨ i = 1 ∨ i = 2 ∨ i = 3)
              · skip
                have g'7 := (jn @h5 (jn @h5d g'6))
                refine runTf g'7 ?_
                refine call_v (by kernel_rfl) (crs_c _ px py qx qy x0 y0 (by omega) (by omega) (by omega) (by omega)) ?_
                refine runTf g'7 ?_
                refine call_v (by kernel_rfl) (sgn_c _ (crI px py qx qy x0 y0)) ?_
                refine runTf g'7 ?_
                refine hJ0 _ _ ⟨k0 - 1, by omega, _, _, _, ⟨0 + 1, by omega, rfl, rfl⟩, Abs.byG hbel [] rfl [0, 1] (by decide) ?_⟩
                exact absWf (jn @hL0 (jn @hL1 (jn @hL2 (jn @hL3 (jn @hH0 (jn @hH1 (jn @hH2 @hH3)))))))
              · skip
                have g'8 := (jn @h5 (jn @h5d g'6))
                refine runTf g'8 ?_
                refine call_v (by kernel_rfl) (crs_c _ px py qx qy x1 y0 (by omega) (by omega) (by omega) (by omega)) ?_
                refine runTf g'8 ?_
                refine call_v (by kernel_rfl) (sgn_c _ (crI px py qx qy x1 y0)) ?_
                refine runTf g'8 ?_
                refine hJ0 _ _ ⟨k0 - 1, by omega, _, _, _, ⟨1 + 1, by omega, rfl, rfl⟩, Abs.byG hbel [] rfl [0, 1] (by decide) ?_⟩
                exact absWf (jn @hL0 (jn @hL1 (jn @hL2 (jn @hL3 (jn @hH0 (jn @hH1 (jn @hH2 @hH3)))))))
              · skip
                have g'9 := (jn @h5 (jn @h5d g'6))
                refine runTf g'9 ?_
                refine call_v (by kernel_rfl) (crs_c _ px py qx qy x0 y1 (by omega) (by omega) (by omega) (by omega)) ?_
                refine runTf g'9 ?_
                refine call_v (by kernel_rfl) (sgn_c _ (crI px py qx qy x0 y1)) ?_
                refine runTf g'9 ?_
                refine hJ0 _ _ ⟨k0 - 1, by omega, _, _, _, ⟨2 + 1, by omega, rfl, rfl⟩, Abs.byG hbel [] rfl [0, 1] (by decide) ?_⟩
                exact absWf (jn @hL0 (jn @hL1 (jn @hL2 (jn @hL3 (jn @hH0 (jn @hH1 (jn @hH2 @hH3)))))))
              · skip
                have g'10 := (jn @h5 (jn @h5d g'6))
                refine runTf g'10 ?_
                refine call_v (by kernel_rfl) (crs_c _ px py qx qy x1 y1 (by omega) (by omega) (by omega) (by omega)) ?_
                refine runTf g'10 ?_
                refine call_v (by kernel_rfl) (sgn_c _ (crI px py qx qy x1 y1)) ?_
                refine runTf g'10 ?_
                refine hJ0 _ _ ⟨k0 - 1, by omega, _, _, _, ⟨3 + 1, by omega, rfl, rfl⟩, Abs.byG hbel [] rfl [0, 1] (by decide) ?_⟩
                exact absWf (jn @hL0 (jn @hL1 (jn @hL2 (jn @hL3 (jn @hH0 (jn @hH1 (jn @hH2 @hH3)))))))
            · have h5d := bsT h5
              obtain rfl : i = 4 := by omega
              have g'11 := (jn @h5 (jn @h5d g'6))
              refine runTf g'11 ?_
              refine gd_split (fun h6 => ?_) (fun h6 => ?_)
              · have h6d := bsT h6
                have g'12 := (jn @h6 (jn @h6d g'11))
                refine runTf g'12 ?_
                exact hQ _ _ (end_plain (.inl rfl) hbel (x := .bool (decide (0 ≤ (mrH px py qx qy x0 y0 x1 y1 4)))) (resT Tryz.results279) rfl ⟨by first | (simp [mrB, h1d, h2d, h3d, h4d, h5d, h6d]; done) | skip, rfl⟩)
              · have h6d := bsT h6
                have g'13 := (jn @h6 (jn @h6d g'11))
                refine runTf g'13 ?_
                exact hQ _ _ (end_plain (.inl rfl) hbel (x := .bool false) (resT Tryz.results279) rfl ⟨by first | (simp [mrB, h1d, h2d, h3d, h4d, h5d, h6d]; done) | skip, rfl⟩)
      · have h3d := bsT h3
        have g'14 := (jn @h3 (jn @h3d g'3))
        refine runTf g'14 ?_
        exact hQ _ _ (end_plain (.inl rfl) hbel (x := .bool false) (resT Tryz.results279) rfl ⟨by first | (simp [mrB, h1d, h2d, h3d]; done) | skip, rfl⟩)
    · have h2d := bsT h2
      have g'15 := (jn @h2 (jn @h2d g'2))
      refine runTf g'15 ?_
      exact hQ _ _ (end_plain (.inl rfl) hbel (x := .bool false) (resT Tryz.results279) rfl ⟨by first | (simp [mrB, h1d, h2d]; done) | skip, rfl⟩)
  · have h1d := bsT h1
    have g'16 := (jn @h1 (jn @h1d g'1))
    refine runTf g'16 ?_
    exact hQ _ _ (end_plain (.inl rfl) hbel (x := .bool false) (resT Tryz.results279) rfl ⟨by first | (simp [mrB, h1d]; done) | skip, rfl⟩)
theorem touch_c (H : AHeap) (px : Int) (py : Int) (qx : Int) (qy : Int) (x0 : Int) (y0 : Int) (x1 : Int) (y1 : Int)  (hp : lnP px py = true) (hq : lnP qx qy = true) (hr : lnR x0 y0 x1 y1 = true) (hdx : -1024 ≤ qx - px ∧ qx - px ≤ 1024) (hdy : -1024 ≤ qy - py ∧ qy - py ≤ 1024) : ACalls Tryz.prog 205 [.agg [.int .i64 px, .int .i64 py], .agg [.int .i64 qx, .int .i64 qy], .agg [.int .i64 x0, .int .i64 y0, .int .i64 x1, .int .i64 y1], .int .i64 20] H (fun v H' => v = .bool (ptO px py qx qy x0 y0 x1 y1) ∧ H' = H) := by
  have hp2 := lnP_iff.1 hp
  have hq2 := lnP_iff.1 hq
  have hr2 := lnR_iff.1 hr
  have hb1 : decide (0 < besI qx (px - 1024) (px + 1024)) = false := decide_eq_false (by unfold besI; split <;> split <;> omega)
  have hb2 : decide (0 < besI qy (py - 1024) (py + 1024)) = false := decide_eq_false (by unfold besI; split <;> split <;> omega)
  refine AcT true Tryz.func205 ?_; intro hbel Q hQ
  have g'17 := (jn @hp (jn @hq (jn @hr (jn @hb1 @hb2))))
  refine runTf g'17 ?_
  refine call_v (by kernel_rfl) (svpt_c _ px py) ?_
  refine runTf g'17 ?_
  refine call_v (by kernel_rfl) (svpt_c _ qx qy) ?_
  refine runTf g'17 ?_
  refine call_v (by kernel_rfl) (svrc_c _ x0 y0 x1 y1) ?_
  refine runTf g'17 ?_
  refine call_v (by kernel_rfl) (bes_c _ qx (px - 1024) (px + 1024) (by omega) (by omega) (by omega)) ?_
  refine runTf g'17 ?_
  refine call_v (by kernel_rfl) (bes_c _ qy (py - 1024) (py + 1024) (by omega) (by omega) (by omega)) ?_
  refine runTf g'17 ?_
  refine call_v (by kernel_rfl) (mrect_c _ px py qx qy x0 y0 x1 y1 (by assumption) (by assumption) (by assumption) (by omega) (by omega)) ?_
  refine runTf g'17 ?_
  refine gd_split (fun h1 => ?_) (fun h1 => ?_)
  · have h1d := bsT h1
    have ho0 := h1d
    have g'18 := (jn @h1 (jn @h1d g'17))
    refine runTf g'18 ?_
    refine call_v (by kernel_rfl) (gap_c _ px py x0 y0 x1 y1 (by assumption) (by assumption)) ?_
    refine runTf g'18 ?_
    refine gd_split (fun h2 => ?_) (fun h2 => ?_)
    · have h2d := bsT h2
      have ho1 := decide_eq_false h2d
      have g'19 := (jn @h2 (jn @h2d g'18))
      refine runTf g'19 ?_
      refine call_v (by kernel_rfl) (gap_c _ qx qy x0 y0 x1 y1 (by assumption) (by assumption)) ?_
      refine runTf g'19 ?_
      refine cond_split (fun h3 => ?_) (fun h3 => ?_)
      · have h3d := bsT h3
        have hfinO : ptO px py qx qy x0 y0 x1 y1 = true := by unfold ptO; rw [decide_eq_true h3d]; simp
        have g'20 := (jn @h3 (jn @h3d g'19))
        refine runTf g'20 ?_
        exact hQ _ _ (end_plain (.inl rfl) hbel (x := .bool true) (resT Tryz.results205) rfl ⟨by rw [hfinO], rfl⟩)
      · have h3d := bsT h3
        have ho2 := decide_eq_false h3d
        have g'21 := (jn @h3 (jn @h3d g'19))
        refine runTf g'21 ?_
        refine call_v (by kernel_rfl) (scor_c _ x0 y0 x1 y1) ?_
        refine runTf g'21 ?_
        refine go_loop try_mixed (by kernel_rfl) (fun k F Hx => ∃ i : Nat, i + k = 4 ∧ ((1 ≤ i → wtB (ckX x0 x1 0) (ckY y0 y1 0) px py qx qy 20 = false) ∧ (2 ≤ i → wtB (ckX x0 x1 1) (ckY y0 y1 1) px py qx qy 20 = false) ∧ (3 ≤ i → wtB (ckX x0 x1 2) (ckY y0 y1 2) px py qx qy 20 = false) ∧ (4 ≤ i → wtB (ckX x0 x1 3) (ckY y0 y1 3) px py qx qy 20 = false)) ∧ F = [(3, .int .i64 20), (4, .ptr (some (H.length, 0))), (5, .ptr (some (H.length + 1, 0))), (77, .agg [.int .i64 x0, .int .i64 y0, .int .i64 x1, .int .i64 y0, .int .i64 x0, .int .i64 y1, .int .i64 x1, .int .i64 y1]), (78, .int .i64 ((i : Nat) : Int))] ∧ Hx = H ++ [.cells true 0 [.int .i64 px, .int .i64 py], .cells true 0 [.int .i64 qx, .int .i64 qy]]) (4) ?_ ?_
        · refine ⟨_, _, _, ⟨0, by omega, ⟨fun h => by omega, fun h => by omega, fun h => by omega, fun h => by omega⟩, rfl, rfl⟩, Abs.byG hbel [] rfl [0, 1] (by decide) ?_⟩
          exact absW
        · rintro k0 F Hx ⟨i, hm0, hal, rfl, rfl⟩ J0 hJ0
          refine runTf g'21 ?_
          refine cond_split (fun h4 => ?_) (fun h4 => ?_)
          · have h4d := bsT h4
            obtain rfl | rfl | rfl | rfl := (by omega : i = 0 ∨ i = 1 ∨ i = 2 ∨ i = 3)
            · skip
              have g'22 := (jn @h4 (jn @h4d g'21))
              refine runTf g'22 ?_
              refine call_v (by kernel_rfl) (swth_c _ x0 y0 px py qx qy 20 (by omega) (by omega) (by omega) (by omega) (by omega) (by omega)) ?_
              refine runTf g'22 ?_
              refine cond_split (fun h5 => ?_) (fun h5 => ?_)
              · have h5d := bsT h5
                have hfinO : ptO px py qx qy x0 y0 x1 y1 = true := by
                  have q : wtB (ckX x0 x1 0) (ckY y0 y1 0) px py qx qy 20 = true := h5d
                  unfold ptO; rw [q]; simp
                have g'23 := (jn @h5 (jn @h5d g'22))
                refine runTf g'23 ?_
                exact hQ _ _ (end_plain (.inl rfl) hbel (x := .bool true) (resT Tryz.results205) rfl ⟨by rw [hfinO], rfl⟩)
              · have h5d := bsT h5
                have hc0 : wtB (ckX x0 x1 0) (ckY y0 y1 0) px py qx qy 20 = false := h5d
                have g'24 := (jn @h5 (jn @h5d g'22))
                refine runTf g'24 ?_
                refine hJ0 _ _ ⟨k0 - 1, by omega, _, _, _, ⟨0 + 1, by omega, by refine ⟨fun h => ?_, fun h => ?_, fun h => ?_, fun h => ?_⟩ <;> first | omega | assumption | exact hal.1 (by omega) | exact hal.2.1 (by omega) | exact hal.2.2.1 (by omega), rfl, rfl⟩, Abs.byG hbel [] rfl [0, 1] (by decide) ?_⟩
                exact absW
            · skip
              have g'25 := (jn @h4 (jn @h4d g'21))
              refine runTf g'25 ?_
              refine call_v (by kernel_rfl) (swth_c _ x1 y0 px py qx qy 20 (by omega) (by omega) (by omega) (by omega) (by omega) (by omega)) ?_
              refine runTf g'25 ?_
              refine cond_split (fun h6 => ?_) (fun h6 => ?_)
              · have h6d := bsT h6
                have hfinO : ptO px py qx qy x0 y0 x1 y1 = true := by
                  have q : wtB (ckX x0 x1 1) (ckY y0 y1 1) px py qx qy 20 = true := h6d
                  unfold ptO; rw [q]; simp
                have g'26 := (jn @h6 (jn @h6d g'25))
                refine runTf g'26 ?_
                exact hQ _ _ (end_plain (.inl rfl) hbel (x := .bool true) (resT Tryz.results205) rfl ⟨by rw [hfinO], rfl⟩)
              · have h6d := bsT h6
                have hc1 : wtB (ckX x0 x1 1) (ckY y0 y1 1) px py qx qy 20 = false := h6d
                have g'27 := (jn @h6 (jn @h6d g'25))
                refine runTf g'27 ?_
                refine hJ0 _ _ ⟨k0 - 1, by omega, _, _, _, ⟨1 + 1, by omega, by refine ⟨fun h => ?_, fun h => ?_, fun h => ?_, fun h => ?_⟩ <;> first | omega | assumption | exact hal.1 (by omega) | exact hal.2.1 (by omega) | exact hal.2.2.1 (by omega), rfl, rfl⟩, Abs.byG hbel [] rfl [0, 1] (by decide) ?_⟩
                exact absW
            · skip
              have g'28 := (jn @h4 (jn @h4d g'21))
              refine runTf g'28 ?_
              refine call_v (by kernel_rfl) (swth_c _ x0 y1 px py qx qy 20 (by omega) (by omega) (by omega) (by omega) (by omega) (by omega)) ?_
              refine runTf g'28 ?_
              refine cond_split (fun h7 => ?_) (fun h7 => ?_)
              · have h7d := bsT h7
                have hfinO : ptO px py qx qy x0 y0 x1 y1 = true := by
                  have q : wtB (ckX x0 x1 2) (ckY y0 y1 2) px py qx qy 20 = true := h7d
                  unfold ptO; rw [q]; simp
                have g'29 := (jn @h7 (jn @h7d g'28))
                refine runTf g'29 ?_
                exact hQ _ _ (end_plain (.inl rfl) hbel (x := .bool true) (resT Tryz.results205) rfl ⟨by rw [hfinO], rfl⟩)
              · have h7d := bsT h7
                have hc2 : wtB (ckX x0 x1 2) (ckY y0 y1 2) px py qx qy 20 = false := h7d
                have g'30 := (jn @h7 (jn @h7d g'28))
                refine runTf g'30 ?_
                refine hJ0 _ _ ⟨k0 - 1, by omega, _, _, _, ⟨2 + 1, by omega, by refine ⟨fun h => ?_, fun h => ?_, fun h => ?_, fun h => ?_⟩ <;> first | omega | assumption | exact hal.1 (by omega) | exact hal.2.1 (by omega) | exact hal.2.2.1 (by omega), rfl, rfl⟩, Abs.byG hbel [] rfl [0, 1] (by decide) ?_⟩
                exact absW
            · skip
              have g'31 := (jn @h4 (jn @h4d g'21))
              refine runTf g'31 ?_
              refine call_v (by kernel_rfl) (swth_c _ x1 y1 px py qx qy 20 (by omega) (by omega) (by omega) (by omega) (by omega) (by omega)) ?_
              refine runTf g'31 ?_
              refine cond_split (fun h8 => ?_) (fun h8 => ?_)
              · have h8d := bsT h8
                have hfinO : ptO px py qx qy x0 y0 x1 y1 = true := by
                  have q : wtB (ckX x0 x1 3) (ckY y0 y1 3) px py qx qy 20 = true := h8d
                  unfold ptO; rw [q]; simp
                have g'32 := (jn @h8 (jn @h8d g'31))
                refine runTf g'32 ?_
                exact hQ _ _ (end_plain (.inl rfl) hbel (x := .bool true) (resT Tryz.results205) rfl ⟨by rw [hfinO], rfl⟩)
              · have h8d := bsT h8
                have hc3 : wtB (ckX x0 x1 3) (ckY y0 y1 3) px py qx qy 20 = false := h8d
                have g'33 := (jn @h8 (jn @h8d g'31))
                refine runTf g'33 ?_
                refine hJ0 _ _ ⟨k0 - 1, by omega, _, _, _, ⟨3 + 1, by omega, by refine ⟨fun h => ?_, fun h => ?_, fun h => ?_, fun h => ?_⟩ <;> first | omega | assumption | exact hal.1 (by omega) | exact hal.2.1 (by omega) | exact hal.2.2.1 (by omega), rfl, rfl⟩, Abs.byG hbel [] rfl [0, 1] (by decide) ?_⟩
                exact absW
          · have h4d := bsT h4
            have hfinO : ptO px py qx qy x0 y0 x1 y1 = false := by unfold ptO; rw [ho0, ho1, ho2, hal.1 (by omega), hal.2.1 (by omega), hal.2.2.1 (by omega), hal.2.2.2 (by omega)]; rfl
            have g'34 := (jn @h4 (jn @h4d g'21))
            refine runTf g'34 ?_
            exact hQ _ _ (end_plain (.inl rfl) hbel (x := .bool false) (resT Tryz.results205) rfl ⟨by rw [hfinO], rfl⟩)
    · have h2d := bsT h2
      have hfinO : ptO px py qx qy x0 y0 x1 y1 = true := by unfold ptO; rw [decide_eq_true h2d]; simp
      have g'35 := (jn @h2 (jn @h2d g'18))
      refine runTf g'35 ?_
      exact hQ _ _ (end_plain (.inl rfl) hbel (x := .bool true) (resT Tryz.results205) rfl ⟨by rw [hfinO], rfl⟩)
  · have h1d := bsT h1
    have hfinO : ptO px py qx qy x0 y0 x1 y1 = true := by unfold ptO; rw [h1d]; rfl
    have g'36 := (jn @h1 (jn @h1d g'17))
    refine runTf g'36 ?_
    exact hQ _ _ (end_plain (.inl rfl) hbel (x := .bool true) (resT Tryz.results205) rfl ⟨by rw [hfinO], rfl⟩)
open Go.RowKit
theorem poseB_pt {x y h : Int} : poseB x y h = (ptB x y && btw h 0 255) := by rw [Bool.eq_iff_iff, poseB_iff, Bool.and_eq_true]
theorem tm_a (h : Int) : (Int.tmod h 256 = h % 256 ∧ (0 ≤ h ∨ h % 256 = 0)) ∨ (Int.tmod h 256 = h % 256 - 256 ∧ h < 0) := by
  rcases Int.lt_or_le h 0 with k | k
  · have e : Int.tmod h 256 = -((-h) % 256) := by
      have := Int.neg_tmod (-h) 256
      rw [Int.neg_neg] at this
      rw [this, Int.tmod_eq_emod_of_nonneg (by omega)]
    rw [e]; omega
  · left; exact ⟨Int.tmod_eq_emod_of_nonneg k, .inl k⟩
theorem trn (h : Int) : Int.tmod (Int.tmod h 256 + 256) 256 = (((h % 256).toNat : Nat) : Int) := by
  have a := tm_a h
  rw [Int.tmod_eq_emod_of_nonneg (by omega)]
  omega
theorem ddown_c (H : AHeap) (a : Int) (b : Int) (hb : 0 < b) (hw : -4611686018427387904 ≤ a ∧ a ≤ 4611686018427387904) : ACalls Tryz.prog 204 [.int .i64 a, .int .i64 b] H (fun v H' => v = .int .i64 (a / b) ∧ H' = H) := by
  have htd := tdiv_bd (a := a) (b := b) hb hw
  refine AcT true Tryz.func204 ?_; intro hbel Q hQ
  refine runT ?_
  refine cond_split (fun h1 => ?_) (fun h1 => ?_)
  · have h1d := bsT h1
    have hfinq : Int.tdiv a b - 1 = a / b := by rw [← floor_eq hb, if_pos h1d]
    have g'1 := (jn @h1 @h1d)
    refine runTf g'1 ?_
    exact hQ _ _ (end_plain0 (.inl rfl) hbel (x := .int .i64 ((Int.tdiv a b) - 1)) (resT Tryz.results204) rfl ⟨congrArg (AV.int .i64) hfinq, rfl⟩)
  · have h1d := bsT h1
    have hfinq : Int.tdiv a b = a / b := by rw [← floor_eq hb, if_neg (by omega)]
    have g'2 := (jn @h1 @h1d)
    refine runTf g'2 ?_
    exact hQ _ _ (end_plain0 (.inl rfl) hbel (x := .int .i64 (Int.tdiv a b)) (resT Tryz.results204) rfl ⟨congrArg (AV.int .i64) hfinq, rfl⟩)
theorem dvpt_c (H : AHeap) (x : Int) (y : Int) : ACalls Tryz.prog 203 [.agg [.int .i64 x, .int .i64 y]] H (fun v H' => v = .bool (ptB x y) ∧ H' = H) := by
  refine AcT true Tryz.func203 ?_; intro hbel Q hQ
  refine runT ?_
  refine call_v (by kernel_rfl) (dwithin_c _ x 1048576 (by decide)) ?_
  refine runT ?_
  refine gd_split (fun h1 => ?_) (fun h1 => ?_)
  · have h1d := bsT h1
    have g'3 := (jn @h1 @h1d)
    refine runTf g'3 ?_
    refine call_v (by kernel_rfl) (dwithin_c _ y 1048576 (by decide)) ?_
    refine runTf g'3 ?_
    exact hQ _ _ (end_plain (.inl rfl) hbel (x := .bool (within y 1048576)) (resT Tryz.results203) rfl ⟨by simp [ptB, h1d], rfl⟩)
  · have h1d := bsT h1
    have g'4 := (jn @h1 @h1d)
    refine runTf g'4 ?_
    exact hQ _ _ (end_plain (.inl rfl) hbel (x := .bool false) (resT Tryz.results203) rfl ⟨by simp [ptB, h1d], rfl⟩)
theorem dplace_c (H : AHeap) (x : Int) (y : Int) (h : Int) : ACalls Tryz.prog 121 [.agg [.int .i64 x, .int .i64 y, .int .i64 h]] H (fun v H' => v = .agg [.int .i64 x, .int .i64 y] ∧ H' = H) := by
  refine AcT true Tryz.func121 ?_; intro hbel Q hQ
  refine runT ?_
  exact hQ _ _ (end_plain (.inl rfl) hbel (x := .agg [.int .i64 x, .int .i64 y]) (resT Tryz.results121) rfl ⟨rfl, rfl⟩)
theorem dvps_c (H : AHeap) (x : Int) (y : Int) (h : Int) : ACalls Tryz.prog 132 [.agg [.int .i64 x, .int .i64 y, .int .i64 h]] H (fun v H' => v = .bool (poseB x y h) ∧ H' = H) := by
  refine AcT true Tryz.func132 ?_; intro hbel Q hQ
  refine runT ?_
  refine call_v (by kernel_rfl) (dplace_c _ x y h) ?_
  refine runT ?_
  refine call_v (by kernel_rfl) (dvpt_c _ x y) ?_
  refine runT ?_
  refine gd_split (fun h1 => ?_) (fun h1 => ?_)
  · have h1d := bsT h1
    have g'5 := (jn @h1 @h1d)
    refine runTf g'5 ?_
    refine call_v (by kernel_rfl) (dbetween_c _ h 0 255) ?_
    refine runTf g'5 ?_
    exact hQ _ _ (end_plain (.inl rfl) hbel (x := .bool (btw h 0 255)) (resT Tryz.results132) rfl ⟨by rw [poseB_pt]; simp [h1d], rfl⟩)
  · have h1d := bsT h1
    have g'6 := (jn @h1 @h1d)
    refine runTf g'6 ?_
    exact hQ _ _ (end_plain (.inl rfl) hbel (x := .bool false) (resT Tryz.results132) rfl ⟨by rw [poseB_pt]; simp [h1d], rfl⟩)
theorem dturn_c (H : AHeap) (h : Int) (hh : -1000 ≤ h ∧ h ≤ 1000) : ACalls Tryz.prog 135 [.int .i64 h] H (fun v H' => v = .int .i64 (((h % 256).toNat : Nat) : Int) ∧ H' = H) := by
  have htm := tm_a h
  have htr := trn h
  refine AcT true Tryz.func135 ?_; intro hbel Q hQ
  have g'7 := @htr
  refine runTf g'7 ?_
  exact hQ _ _ (end_plain0 (.inl rfl) hbel (x := .int .i64 (((h % 256).toNat : Nat) : Int)) (resT Tryz.results135) rfl ⟨rfl, rfl⟩)
theorem dahead_c (H : AHeap) (h : Int) (n : Int) (hn : -1000 ≤ n ∧ n ≤ 1000) : ACalls Tryz.prog 136 [.int .i64 h, .int .i64 n] H (fun v H' => v = .agg [.int .i64 (wayX h (mxI n 0)), .int .i64 (wayY h (mxI n 0))] ∧ H' = H) := by
  have hz : (if 0 < n then n else 0) = mxI n 0 := by unfold mxI; split <;> split <;> omega
  have hzb : 0 ≤ mxI n 0 ∧ mxI n 0 ≤ 1000 := by unfold mxI; split <;> omega
  have hdv := vecOK_iff.1 (dirV_ok h)
  have hm1 := mul_bd (a := mxI n 0) (b := (dirV h).1) (A := 1000) (B := 8065) (by omega) (by omega)
  have hm2 := mul_bd (a := mxI n 0) (b := (dirV h).2.1) (A := 1000) (B := 8065) (by omega) (by omega)
  refine AcT true Tryz.func136 ?_; intro hbel Q hQ
  have g'8 := @hz
  refine runTf g'8 ?_
  refine call_v (by kernel_rfl) (dir_c _ h) ?_
  refine runTf g'8 ?_
  refine call_d (by kernel_rfl) (ddown_c _ ((mxI n 0) * ((dirV h).1)) ((dirV h).2.2) (by omega) (by omega)) ?_
  refine runTf g'8 ?_
  refine call_d (by kernel_rfl) (ddown_c _ ((mxI n 0) * ((dirV h).2.1)) ((dirV h).2.2) (by omega) (by omega)) ?_
  refine runTf g'8 ?_
  exact hQ _ _ (end_plain (.inl rfl) hbel (x := .agg [.int .i64 (((mxI n 0) * ((dirV h).1)) / ((dirV h).2.2)), .int .i64 (((mxI n 0) * ((dirV h).2.1)) / ((dirV h).2.2))]) (resT Tryz.results136) rfl ⟨rfl, rfl⟩)
theorem dclip1_c (H : AHeap) (n : Int) (k : Int) (hk : 0 ≤ k ∧ k ≤ 1000) : ACalls Tryz.prog 117 [.int .i64 n, .int .i64 k] H (fun v H' => v = .int .i64 (clgI n (0 - k) k) ∧ H' = H) := by
  refine AcT true Tryz.func117 ?_; intro hbel Q hQ
  refine runT ?_
  exact hQ _ _ (end_plain0 (.inl rfl) hbel (x := .int .i64 (if (0 - k) < (if k < n then k else n) then (if k < n then k else n) else (0 - k))) (resT Tryz.results117) rfl ⟨rfl, rfl⟩)
theorem dclip_c (H : AHeap) (tu : Int) (le : Int) (sl : Int) (ra : Int) (eT : Int) (eL : Int) (eX : Int) (eY : Int) (hb : bndB tu le sl ra = true) : ACalls Tryz.prog 42 [.agg [.int .i64 tu, .int .i64 le, .int .i64 sl, .int .i64 ra], .agg [.int .i64 eT, .int .i64 eL, .int .i64 eX, .int .i64 eY]] H (fun v H' => v = .tup [.agg [.int .i64 (clgI eT (0 - tu) tu), .int .i64 (clgI eL (0 - le) le), .int .i64 (clgI eX (0 - sl) sl), .int .i64 (clgI eY (0 - sl) sl)], .int .i64 0] ∧ H' = H) := by
  have hbi := hb
  simp only [bndB, Bool.and_eq_true, btw_iff] at hbi
  refine AcT true Tryz.func42 ?_; intro hbel Q hQ
  have g'9 := @hb
  refine runTf g'9 ?_
  refine call_v (by kernel_rfl) (vbnd_c _ tu le sl ra) ?_
  refine runTf g'9 ?_
  refine call_d (by kernel_rfl) (dclip1_c _ eT tu (by omega)) ?_
  refine runTf g'9 ?_
  refine call_d (by kernel_rfl) (dclip1_c _ eL le (by omega)) ?_
  refine runTf g'9 ?_
  refine call_d (by kernel_rfl) (dclip1_c _ eX sl (by omega)) ?_
  refine runTf g'9 ?_
  refine call_d (by kernel_rfl) (dclip1_c _ eY sl (by omega)) ?_
  refine runTf g'9 ?_
  exact hQ _ _ (end_plain (.inl rfl) hbel (x := .tup [.agg [.int .i64 (clgI eT (0 - tu) tu), .int .i64 (clgI eL (0 - le) le), .int .i64 (clgI eX (0 - sl) sl), .int .i64 (clgI eY (0 - sl) sl)], .int .i64 0]) (resT Tryz.results42) rfl ⟨rfl, rfl⟩)
theorem dnext_c (H : AHeap) (ax : Int) (ay : Int) (ah : Int) (t : Int) (f : Int) (eT : Int) (eL : Int) (eX : Int) (eY : Int) : ACalls Tryz.prog 119 [.agg [.int .i64 ax, .int .i64 ay, .int .i64 ah], .agg [.int .i64 t, .int .i64 f], .agg [.int .i64 eT, .int .i64 eL, .int .i64 eX, .int .i64 eY]] H (fun v H' => v = .tup [.agg [.int .i64 (nxX ax ay ah t f eT eL eX eY), .int .i64 (nxY ax ay ah t f eT eL eX eY), .int .i64 (nxH ax ay ah t f eT eL eX eY)], .int .i64 (nxE ax ay ah t f eT eL eX eY)] ∧ H' = H) := by
  have hnhf : (((((ah + t) + eT) % 256).toNat : Nat) : Int) = nhI ah t eT := rfl
  refine AcT true Tryz.func119 ?_; intro hbel Q hQ
  have g'10 := @hnhf
  refine runTf g'10 ?_
  refine call_v (by kernel_rfl) (dvps_c _ ax ay ah) ?_
  refine runTf g'10 ?_
  refine gd_split (fun h1 => ?_) (fun h1 => ?_)
  · have h1d := bsT h1
    have hP := h1d
    have hPi := poseB_iff.1 hP
    have hbt := btw_iff.1 hPi.2
    have hpp := hPi.1
    simp only [ptB, Bool.and_eq_true, within_iff] at hpp
    have g'11 := (jn @h1 (jn @h1d g'10))
    refine runTf g'11 ?_
    refine call_v (by kernel_rfl) (vcmd_c _ t f) ?_
    refine runTf g'11 ?_
    refine cond_split (fun h2 => ?_) (fun h2 => ?_)
    · have h2d := bsT h2
      have hfinE : nxE ax ay ah t f eT eL eX eY = 1 := by unfold nxE; rw [hP, h2d]; rfl
      obtain ⟨hX1, hY1, hH1⟩ := nx_err hfinE (by decide)
      have hfinX := hX1
      have hfinY := hY1
      have hfinH := hH1
      have g'12 := (jn @h2 (jn @h2d g'11))
      refine runTf g'12 ?_
      exact hQ _ _ (end_plain (.inl rfl) hbel (x := .tup [.agg [.int .i64 0, .int .i64 0, .int .i64 0], .int .i64 1]) (resT Tryz.results119) rfl ⟨by first | (rw [hfinX, hfinY, hfinH, hfinE]; done) | (rw [hfinX, hfinY, hfinH, hfinE]; rfl), rfl⟩)
    · have h2d := bsT h2
      have hC := h2d
      have hCi := hC
      simp only [cmdB, Bool.and_eq_true, btw_iff, within_iff] at hCi
      have g'13 := (jn @h2 (jn @h2d g'11))
      refine runTf g'13 ?_
      refine call_v (by kernel_rfl) (dwithin_c _ eT 64 (by decide)) ?_
      refine runTf g'13 ?_
      refine gd_split (fun h3 => ?_) (fun h3 => ?_)
      · have h3d := bsT h3
        have hw1 := within_iff.1 h3d
        have hww1 := h3d
        have g'14 := (jn @h3 (jn @h3d g'13))
        refine runTf g'14 ?_
        refine call_v (by kernel_rfl) (dwithin_c _ eL 64 (by decide)) ?_
        refine runTf g'14 ?_
        refine gd_split (fun h4 => ?_) (fun h4 => ?_)
        · have h4d := bsT h4
          have hw2 := within_iff.1 h4d
          have hww2 := h4d
          have g'15 := (jn @h4 (jn @h4d g'14))
          refine runTf g'15 ?_
          refine call_v (by kernel_rfl) (dwithin_c _ eX 64 (by decide)) ?_
          refine runTf g'15 ?_
          refine gd_split (fun h5 => ?_) (fun h5 => ?_)
          · have h5d := bsT h5
            have hw3 := within_iff.1 h5d
            have hww3 := h5d
            have g'16 := (jn @h5 (jn @h5d g'15))
            refine runTf g'16 ?_
            refine call_v (by kernel_rfl) (dwithin_c _ eY 64 (by decide)) ?_
            refine runTf g'16 ?_
            refine cond_split (fun h6 => ?_) (fun h6 => ?_)
            · have h6d := bsT h6
              have herr : errB eT eL eX eY = false := by unfold errB; simp [h6d]
              have hfinE : nxE ax ay ah t f eT eL eX eY = 2 := by unfold nxE; rw [hP, hC, herr]; rfl
              obtain ⟨hX1, hY1, hH1⟩ := nx_err hfinE (by decide)
              have hfinX := hX1
              have hfinY := hY1
              have hfinH := hH1
              have g'17 := (jn @h6 (jn @h6d g'16))
              refine runTf g'17 ?_
              exact hQ _ _ (end_plain (.inl rfl) hbel (x := .tup [.agg [.int .i64 0, .int .i64 0, .int .i64 0], .int .i64 2]) (resT Tryz.results119) rfl ⟨by first | (rw [hfinX, hfinY, hfinH, hfinE]; done) | (rw [hfinX, hfinY, hfinH, hfinE]; rfl), rfl⟩)
            · have h6d := bsT h6
              have hw4 := within_iff.1 h6d
              have hww4 := h6d
              have herr : errB eT eL eX eY = true := by unfold errB; rw [hww1, hww2, hww3, hww4]; rfl
              have g'18 := (jn @h6 (jn @h6d g'16))
              refine runTf g'18 ?_
              refine call_v (by kernel_rfl) (dturn_c _ ((ah + t) + eT) (by omega)) ?_
              refine runTf g'18 ?_
              refine cond_split (fun h7 => ?_) (fun h7 => ?_)
              · have h7d := bsT h7
                have h7n := bnT h7
                have hf0 : f = 0 := by simpa using h7d
                have hfinE : nxE ax ay ah t f eT eL eX eY = 0 := by unfold nxE; rw [hP, hC, herr, if_pos hf0]; rfl
                obtain ⟨hX1, hY1, hfinH⟩ := nx_ok hfinE
                have hfinX : nxX ax ay ah t f eT eL eX eY = ax := hX1.trans (if_pos hf0)
                have hfinY : nxY ax ay ah t f eT eL eX eY = ay := hY1.trans (if_pos hf0)
                have g'19 := (jn @h7 (jn @h7n (jn @int_bne (jn @int_beq g'18))))
                refine runTf g'19 ?_
                exact hQ _ _ (end_plain (.inl rfl) hbel (x := .tup [.agg [.int .i64 ax, .int .i64 ay, .int .i64 (nhI ah t eT)], .int .i64 0]) (resT Tryz.results119) rfl ⟨by first | (rw [hfinX, hfinY, hfinH, hfinE]; done) | (rw [hfinX, hfinY, hfinH, hfinE]; rfl), rfl⟩)
              · have h7d := bsT h7
                have h7n := bnT h7
                have hf0 : ¬ f = 0 := by simpa using h7d
                have hrx : rwX ax (nhI ah t eT) f eL eX = ax + (wayX (nhI ah t eT) (mxI (f + eL) 0) + eX) := if_neg hf0
                have hry : rwY ay (nhI ah t eT) f eL eY = ay + (wayY (nhI ah t eT) (mxI (f + eL) 0) + eY) := if_neg hf0
                have hwb := way_bd (nhI ah t eT) (m := mxI (f + eL) 0) (by unfold mxI; split <;> omega)
                have hmx3 : mxI (f + eL) 0 ≤ 96 := by unfold mxI; split <;> omega
                have hnh : btw (nhI ah t eT) 0 255 = true := by rw [btw_iff]; unfold nhI; omega
                have g'20 := (jn @h7 (jn @h7n (jn @int_bne (jn @int_beq g'18))))
                refine runTf g'20 ?_
                refine call_v (by kernel_rfl) (dahead_c _ (nhI ah t eT) (f + eL) (by omega)) ?_
                refine runTf g'20 ?_
                refine call_v (by kernel_rfl) (dplace_c _ (ax + ((wayX (nhI ah t eT) (mxI (f + eL) 0)) + eX)) (ay + ((wayY (nhI ah t eT) (mxI (f + eL) 0)) + eY)) (nhI ah t eT)) ?_
                refine runTf g'20 ?_
                refine call_v (by kernel_rfl) (dvpt_c _ (ax + ((wayX (nhI ah t eT) (mxI (f + eL) 0)) + eX)) (ay + ((wayY (nhI ah t eT) (mxI (f + eL) 0)) + eY))) ?_
                refine runTf g'20 ?_
                refine cond_split (fun h8 => ?_) (fun h8 => ?_)
                · have h8d := bsT h8
                  have hpo : poseB (rwX ax (nhI ah t eT) f eL eX) (rwY ay (nhI ah t eT) f eL eY) (nhI ah t eT) = false := by rw [← Bool.not_eq_true, poseB_iff, hrx, hry]; intro q; rw [h8d] at q; exact absurd q.1 (by decide)
                  have hfinE : nxE ax ay ah t f eT eL eX eY = 2 := by unfold nxE; rw [hP, hC, herr]; simp [hf0, hpo]
                  obtain ⟨hX1, hY1, hH1⟩ := nx_err hfinE (by decide)
                  have hfinX := hX1
                  have hfinY := hY1
                  have hfinH := hH1
                  have g'21 := (jn @h8 (jn @h8d g'20))
                  refine runTf g'21 ?_
                  exact hQ _ _ (end_plain (.inl rfl) hbel (x := .tup [.agg [.int .i64 0, .int .i64 0, .int .i64 0], .int .i64 2]) (resT Tryz.results119) rfl ⟨by first | (rw [hfinX, hfinY, hfinH, hfinE]; done) | (rw [hfinX, hfinY, hfinH, hfinE]; rfl), rfl⟩)
                · have h8d := bsT h8
                  have hpo : poseB (rwX ax (nhI ah t eT) f eL eX) (rwY ay (nhI ah t eT) f eL eY) (nhI ah t eT) = true := by rw [poseB_iff, hrx, hry]; exact ⟨h8d, hnh⟩
                  have hfinE : nxE ax ay ah t f eT eL eX eY = 0 := by unfold nxE; rw [hP, hC, herr]; simp [hf0, hpo]
                  obtain ⟨hX1, hY1, hfinH⟩ := nx_ok hfinE
                  have hfinX := hX1.trans hrx
                  have hfinY := hY1.trans hry
                  have g'22 := (jn @h8 (jn @h8d g'20))
                  refine runTf g'22 ?_
                  exact hQ _ _ (end_plain (.inl rfl) hbel (x := .tup [.agg [.int .i64 (ax + ((wayX (nhI ah t eT) (mxI (f + eL) 0)) + eX)), .int .i64 (ay + ((wayY (nhI ah t eT) (mxI (f + eL) 0)) + eY)), .int .i64 (nhI ah t eT)], .int .i64 0]) (resT Tryz.results119) rfl ⟨by first | (rw [hfinX, hfinY, hfinH, hfinE]; done) | (rw [hfinX, hfinY, hfinH, hfinE]; rfl), rfl⟩)
          · have h5d := bsT h5
            have herr : errB eT eL eX eY = false := by unfold errB; simp [h5d]
            have hfinE : nxE ax ay ah t f eT eL eX eY = 2 := by unfold nxE; rw [hP, hC, herr]; rfl
            obtain ⟨hX1, hY1, hH1⟩ := nx_err hfinE (by decide)
            have hfinX := hX1
            have hfinY := hY1
            have hfinH := hH1
            have g'23 := (jn @h5 (jn @h5d g'15))
            refine runTf g'23 ?_
            exact hQ _ _ (end_plain (.inl rfl) hbel (x := .tup [.agg [.int .i64 0, .int .i64 0, .int .i64 0], .int .i64 2]) (resT Tryz.results119) rfl ⟨by first | (rw [hfinX, hfinY, hfinH, hfinE]; done) | (rw [hfinX, hfinY, hfinH, hfinE]; rfl), rfl⟩)
        · have h4d := bsT h4
          have herr : errB eT eL eX eY = false := by unfold errB; simp [h4d]
          have hfinE : nxE ax ay ah t f eT eL eX eY = 2 := by unfold nxE; rw [hP, hC, herr]; rfl
          obtain ⟨hX1, hY1, hH1⟩ := nx_err hfinE (by decide)
          have hfinX := hX1
          have hfinY := hY1
          have hfinH := hH1
          have g'24 := (jn @h4 (jn @h4d g'14))
          refine runTf g'24 ?_
          exact hQ _ _ (end_plain (.inl rfl) hbel (x := .tup [.agg [.int .i64 0, .int .i64 0, .int .i64 0], .int .i64 2]) (resT Tryz.results119) rfl ⟨by first | (rw [hfinX, hfinY, hfinH, hfinE]; done) | (rw [hfinX, hfinY, hfinH, hfinE]; rfl), rfl⟩)
      · have h3d := bsT h3
        have herr : errB eT eL eX eY = false := by unfold errB; simp [h3d]
        have hfinE : nxE ax ay ah t f eT eL eX eY = 2 := by unfold nxE; rw [hP, hC, herr]; rfl
        obtain ⟨hX1, hY1, hH1⟩ := nx_err hfinE (by decide)
        have hfinX := hX1
        have hfinY := hY1
        have hfinH := hH1
        have g'25 := (jn @h3 (jn @h3d g'13))
        refine runTf g'25 ?_
        exact hQ _ _ (end_plain (.inl rfl) hbel (x := .tup [.agg [.int .i64 0, .int .i64 0, .int .i64 0], .int .i64 2]) (resT Tryz.results119) rfl ⟨by first | (rw [hfinX, hfinY, hfinH, hfinE]; done) | (rw [hfinX, hfinY, hfinH, hfinE]; rfl), rfl⟩)
  · have h1d := bsT h1
    have hfinE : nxE ax ay ah t f eT eL eX eY = 1 := by unfold nxE; rw [h1d]; rfl
    obtain ⟨hX1, hY1, hH1⟩ := nx_err hfinE (by decide)
    have hfinX := hX1
    have hfinY := hY1
    have hfinH := hH1
    have g'26 := (jn @h1 (jn @h1d g'10))
    refine runTf g'26 ?_
    exact hQ _ _ (end_plain (.inl rfl) hbel (x := .tup [.agg [.int .i64 0, .int .i64 0, .int .i64 0], .int .i64 1]) (resT Tryz.results119) rfl ⟨by first | (rw [hfinX, hfinY, hfinH, hfinE]; done) | (rw [hfinX, hfinY, hfinH, hfinE]; rfl), rfl⟩)
open Go.RowKit
theorem bld_nz {W Hh : Int} {xs : List Int} (h : bldB W Hh xs = true) (h0 : ∀ z ∈ xs, 0 ≤ z) : ∀ v ∈ xs, 1 ≤ v ∧ v ≤ 2 := fun v hv => by
  unfold bldB at h
  rw [Bool.and_eq_true, Bool.not_eq_true', List.any_eq_false] at h
  have h1 := h.2 v hv
  have h2 := (vld_iff.1 h.1).le v hv
  have h3 := h0 v hv
  have : ¬ v = 0 := by simpa using h1
  omega
theorem u8_nz {v : Int} (h : 1 ≤ v ∧ v ≤ 2) : ¬ UInt8.ofNat v.toNat = 0 := by
  rcases (by omega : v = 1 ∨ v = 2) with rfl | rfl <;> decide
theorem cnt_0 {xs : List Int} (h : ∀ v ∈ xs, 1 ≤ v ∧ v ≤ 2) : Lib.countByte (Lib.bytesOf xs) 0 = 0 := by
  unfold Lib.countByte
  refine List.count_eq_zero.2 fun hm => ?_
  unfold Lib.bytesOf at hm
  obtain ⟨v, hv, e⟩ := List.mem_map.1 hm
  exact u8_nz (h v hv) e
theorem idx_0 : ∀ {xs : List Int}, (∀ v ∈ xs, 1 ≤ v ∧ v ≤ 2) → Lib.indexByte (Lib.bytesOf xs) 0 = -1
  | [], _ => rfl
  | v :: xs, h => by
    have ih := idx_0 (xs := xs) fun u hu => h u (List.mem_cons_of_mem _ hu)
    have hv := u8_nz (h v (List.mem_cons_self ..))
    show (if (UInt8.ofNat v.toNat == 0) = true then _ else _) = _
    rw [if_neg (by simpa using hv)]
    show (if (Lib.indexByte (Lib.bytesOf xs) 0 == -1) = true then _ else _) = _
    rw [ih]; rfl
theorem rel_slb {E : Env} {w : World} {H : AHeap} {b n : Nat} {own : Bool} {cap : Option Nat} {xs : List Int} {v : Value} (hE : Emb E H w) (hb : H[b]? = some (.cells own 1 (ints .u8 xs))) (hn : n = xs.length) (h : Rel E (.sl (some (b, 0)) n cap) v) :
    (n = 0 ∧ v = .slice none 0 0) ∨ (∃ a c, v = .slice (some a) n c ∧ (n = 0 ∨ (a = ⟨(E.loc b).blk, (E.loc b).off, none⟩ ∧ ∀ i, i < n → w.cell? ⟨(E.loc b).blk, (E.loc b).off + i, none⟩ = some (.int .u8 (xs.getD i 0))))) := by
  cases h with
  | nils _ _ h1 h2 => exact .inl ⟨rfl, rfl⟩
  | sl _ _ _ _ c a h1 q1 q2 q3 q4 q5 =>
    refine .inr ⟨a, c, rfl, ?_⟩
    rcases Nat.eq_zero_or_pos n with h0 | h0
    · exact .inl h0
    · refine .inr ⟨by rcases q4 with q4 | q4; omega; simpa using q4, fun i hi => ?_⟩
      have hB : BlkOk E w (E.loc b) (.cells own 1 (ints .u8 xs)) := hE.blk b _ hb
      have hi2 : i < xs.length := by omega
      obtain ⟨k1, u, k2, k3⟩ := hB.1 i (.int .u8 xs[i]) (by simp [ints, hi2])
      have e : u = .int .u8 xs[i] := by cases k3; rfl
      rw [k2, e, List.getD_eq_getElem?_getD, List.getElem?_eq_getElem hi2]; rfl
open Go.RowKit
open Go.RowKit
open Go.RowKit
open Go.RowKit
open Go.RowKit
open Go.RowKit
open Go.RowKit
theorem psqr_c (H : AHeap) (x : Int) (y : Int) : ACalls Tryz.prog 125 [.agg [.int .i64 x, .int .i64 y]] H (fun v H' => v = .tup [.agg [.int .i64 (mkV (sqO x y) (x * 64)), .int .i64 (mkV (sqO x y) (y * 64)), .int .i64 (mkV (sqO x y) (x * 64 + 64)), .int .i64 (mkV (sqO x y) (y * 64 + 64))], .bool (sqO x y)] ∧ H' = H) := by
  refine AcT true Tryz.func125 ?_; intro hbel Q hQ
  refine runT ?_
  refine call_v (by kernel_rfl) (pwithin_c _ x 16384 (by omega)) ?_
  refine runT ?_
  refine gd_split (fun h1 => ?_) (fun h1 => ?_)
  · have h1d := bsT h1
    have wx := within_iff.1 h1d
    have g'24 := (jn @h1 @h1d)
    refine runTf g'24 ?_
    refine call_v (by kernel_rfl) (pwithin_c _ y 16384 (by omega)) ?_
    refine runTf g'24 ?_
    refine cond_split (fun h2 => ?_) (fun h2 => ?_)
    · have h2d := bsT h2
      have wy : ¬ (-16384 ≤ y ∧ y ≤ 16384) := mt within_iff.2 (by rw [h2d]; decide)
      have g'25 := (jn @h2 (jn @h2d g'24))
      refine runTf g'25 ?_
      exact hQ _ _ (end_plain (.inl rfl) hbel (x := .tup [.agg [.int .i64 0, .int .i64 0, .int .i64 0, .int .i64 0], .bool false]) (resT Tryz.results125) rfl ⟨by simp [mkV, sqO, h1d, h2d], rfl⟩)
    · have h2d := bsT h2
      have wy := within_iff.1 h2d
      have g'26 := (jn @h2 (jn @h2d g'24))
      refine runTf g'26 ?_
      refine call_v (by kernel_rfl) (psquare_c _ x y (by omega) (by omega)) ?_
      refine runTf g'26 ?_
      exact hQ _ _ (end_plain (.inl rfl) hbel (x := .tup [.agg [.int .i64 (x * 64), .int .i64 (y * 64), .int .i64 (x * 64 + 64), .int .i64 (y * 64 + 64)], .bool true]) (resT Tryz.results125) rfl ⟨by simp [mkV, sqO, h1d, h2d], rfl⟩)
  · have h1d := bsT h1
    have wx : ¬ (-16384 ≤ x ∧ x ≤ 16384) := mt within_iff.2 (by rw [h1d]; decide)
    have g'27 := (jn @h1 @h1d)
    refine runTf g'27 ?_
    exact hQ _ _ (end_plain (.inl rfl) hbel (x := .tup [.agg [.int .i64 0, .int .i64 0, .int .i64 0, .int .i64 0], .bool false]) (resT Tryz.results125) rfl ⟨by simp [mkV, sqO, h1d], rfl⟩)
theorem psqr_t (H : AHeap) (x y : Int) (h : sqO x y = true) : ACalls Tryz.prog 125 [.agg [.int .i64 x, .int .i64 y]] H (fun v H' => v = .tup [.agg [.int .i64 (x * 64), .int .i64 (y * 64), .int .i64 (x * 64 + 64), .int .i64 (y * 64 + 64)], .bool true] ∧ H' = H) := by
  have q := psqr_c H x y
  simp only [h, mkV, if_true] at q; exact q
theorem psqr_f (H : AHeap) (x y : Int) (h : sqO x y = false) : ACalls Tryz.prog 125 [.agg [.int .i64 x, .int .i64 y]] H (fun v H' => v = .tup [.agg [.int .i64 0, .int .i64 0, .int .i64 0, .int .i64 0], .bool false] ∧ H' = H) := by
  have q := psqr_c H x y
  simp only [h, mkV, if_false, Bool.false_eq_true] at q; exact q
open Go.RowKit
/-- A point in a free cell is in the plan. -/
theorem free_inF {W H x y : Int} {xs : List Int} (h : atI W H xs (x / 64) (y / 64) = 1) : (0 ≤ x ∧ x ≤ W * 64) ∧ 0 ≤ y ∧ y ≤ H * 64 := by
  unfold atI at h
  split at h
  · rename_i hi
    have := inB_iff.1 hi
    omega
  · omega
theorem fdiv64 (a : Int) : a.fdiv (2 ^ min 6 IntKind.i64.bits) = a / 64 := by
  show a.fdiv 64 = _
  exact Int.fdiv_eq_ediv_of_nonneg a (by decide)
theorem bcount0_c (H : AHeap) (s s2 : AV) (xs : List Int) (hs : Sl H 1 s xs.length (ints .u8 xs)) (h2 : Sl H 1 s2 1 [.int .u8 0]) (hnz : ∀ v ∈ xs, 1 ≤ v ∧ v ≤ 2) (hx0 : 0 < xs.length) : ACalls Tryz.prog 202 [s, s2] H (fun v H' => v = .int .i64 0 ∧ H' = H) := fun E w vs hE hv => by
  obtain ⟨b, own, cap, rfl, hb⟩ := hs
  obtain ⟨b2, own2, cap2, rfl, hb2⟩ := h2
  obtain ⟨v1, r1, rfl, k1, hv1⟩ := rels_cons hv
  obtain ⟨v2, r2, rfl, k2, hv2⟩ := rels_cons hv1
  obtain rfl := rels_nil hv2
  obtain ⟨h0, -⟩ | ⟨a, c, rfl, h0 | ⟨rfl, hc⟩⟩ := rel_slb hE hb rfl k1
  · omega
  · omega
  obtain ⟨h0, -⟩ | ⟨a2, c2, rfl, h0 | ⟨rfl, hc2⟩⟩ := rel_slb (xs := [0]) hE hb2 rfl k2
  · exact absurd h0 (by decide)
  · exact absurd h0 (by decide)
  refine (Tryz.bytes_Count_one _ _ _ _ _ _ _ xs 0 w rfl (fun i hi => by first | (simp; done) | simpa using hc i hi) (by simpa using hc2 0 (by decide))).mono fun e w' ⟨he, hw⟩ => ?_
  subst hw
  have hz : Lib.countByte (Lib.bytesOf xs) (0 : Int).toNat.toUInt8 = 0 := cnt_0 hnz
  rw [hz] at he
  exact ⟨E, _, H, _, he, ⟨rfl, rfl⟩, .refl E, .int _ _, hE⟩
theorem bindex0_c (H : AHeap) (s : AV) (xs : List Int) (hs : Sl H 1 s xs.length (ints .u8 xs)) (hnz : ∀ v ∈ xs, 1 ≤ v ∧ v ≤ 2) : ACalls Tryz.prog 208 [s, .int .u8 0] H (fun v H' => v = .int .i64 (-1) ∧ H' = H) := fun E w vs hE hv => by
  obtain ⟨b, own, cap, rfl, hb⟩ := hs
  obtain ⟨v1, r1, rfl, k1, hv1⟩ := rels_cons hv
  obtain ⟨v2, r2, rfl, k2, hv2⟩ := rels_cons hv1
  obtain rfl := rels_nil hv2
  obtain rfl := rel_int k2
  obtain ⟨h0, rfl⟩ | ⟨a, c, rfl, h⟩ := rel_slb hE hb rfl k1
  · refine (Tryz.bytes_IndexByte_nil 0 w).mono fun e w' ⟨he, hw⟩ => ?_
    subst hw
    exact ⟨E, _, H, _, he, ⟨rfl, rfl⟩, .refl E, .int _ _, hE⟩
  · have hc : ∀ i, i < xs.length → w.cell? (a.add i) = some (.int .u8 (xs.getD i 0)) := fun i hi => by
      rcases h with h0 | ⟨rfl, hc⟩
      · omega
      · rw [add_addr]; exact hc i hi
    refine (Tryz.bytes_IndexByte_at a _ c xs 0 w rfl hc).mono fun e w' ⟨he, hw⟩ => ?_
    subst hw
    have hz : Lib.indexByte (Lib.bytesOf xs) (0 : Int).toNat.toUInt8 = -1 := idx_0 hnz
    rw [hz] at he
    exact ⟨E, _, H, _, he, ⟨rfl, rfl⟩, .refl E, .int _ _, hE⟩
def finB (W Hh x y : Int) : Bool := decide (0 ≤ x) && (decide (0 ≤ y) && (decide (x ≤ W * 64) && decide (y ≤ Hh * 64)))
theorem pcount0_c (H : AHeap) (W : Int) (Hh : Int) (pp : AV) (xs : List Int)  (hpp : Sl H 1 pp xs.length (ints .u8 xs)) (hBl : bldB W Hh xs = true) (hnz : ∀ v ∈ xs, 1 ≤ v ∧ v ≤ 2) : ACalls Tryz.prog 118 [.agg [.int .i64 W, .int .i64 Hh, pp], .int .u8 0] H (fun v H' => v = .int .i64 0 ∧ H' = H) := by
  obtain ⟨bpp, opp, cpp, rfl, hbpp⟩ := hpp
  have hblpp := getElem?_lt hbpp
  have hb0pp := fun l => get_app (l := l) hbpp
  have hV : vldB W Hh xs = true := by have hh := hBl; unfold bldB at hh; rw [Bool.and_eq_true] at hh; exact hh.1
  have hVV := vld_iff.1 hV
  have hw0 := hVV.w0
  have hw1 := hVV.w1
  have hh0 := hVV.h0
  have hh1 := hVV.h1
  have hx0 : 0 < xs.length := by have := (hVV.idx (show inB W Hh 0 0 = true from inB_iff.2 (by omega))).2.2.2.2.1; omega
  refine AcT true Tryz.func118 ?_; intro hbel Q hQ
  have g'1 := (jn @hbpp (jn @hb0pp @hV))
  refine runTf g'1 ?_
  refine call_v (by kernel_rfl) (valid_a _ W Hh _ xs (.inr ⟨_, _, _, rfl, by first | exact hb0pp _ | exact hbpp⟩)) ?_
  refine runTf g'1 ?_
  refine call_v (by kernel_rfl) (bcount0_c _ _ _ xs ⟨_, _, _, rfl, by first | exact hb0pp _ | exact hbpp⟩ ⟨_, _, _, rfl, by first | (rw [get_newk]; rfl) | (rw [get_new0]; rfl)⟩ hnz hx0) ?_
  refine runTf g'1 ?_
  exact hQ _ _ (end_plain (.inl rfl) hbel (x := .int .i64 0) (resT Tryz.results118) rfl ⟨rfl, rfl⟩)
theorem fcheck0_c (H : AHeap) (W : Int) (Hh : Int) (pp : AV) (xs : List Int) (hpp : Sl H 1 pp xs.length (ints .u8 xs)) (hBl : bldB W Hh xs = true) (hnz : ∀ v ∈ xs, 1 ≤ v ∧ v ≤ 2) : ACalls Tryz.prog 123 [.agg [.int .i64 W, .int .i64 Hh, pp]] H (fun v H' => v = .int .i64 0 ∧ H' = H) := by
  obtain ⟨bpp, opp, cpp, rfl, hbpp⟩ := hpp
  have hblpp := getElem?_lt hbpp
  have hb0pp := fun l => get_app (l := l) hbpp
  have hV : vldB W Hh xs = true := by have hh := hBl; unfold bldB at hh; rw [Bool.and_eq_true] at hh; exact hh.1
  have hVV := vld_iff.1 hV
  have hw0 := hVV.w0
  have hw1 := hVV.w1
  have hh0 := hVV.h0
  have hh1 := hVV.h1
  have hx0 : 0 < xs.length := by have := (hVV.idx (show inB W Hh 0 0 = true from inB_iff.2 (by omega))).2.2.2.2.1; omega
  refine AcT true Tryz.func123 ?_; intro hbel Q hQ
  have g'2 := (jn @hbpp (jn @hb0pp @hV))
  refine runTf g'2 ?_
  refine call_v (by kernel_rfl) (valid_a _ W Hh _ xs (.inr ⟨_, _, _, rfl, by first | exact hb0pp _ | exact hbpp⟩)) ?_
  refine runTf g'2 ?_
  refine call_v (by kernel_rfl) (bindex0_c _ _ xs ⟨_, _, _, rfl, by first | exact hb0pp _ | exact hbpp⟩ hnz) ?_
  refine runTf g'2 ?_
  exact hQ _ _ (end_plain (.inl rfl) hbel (x := .int .i64 0) (resT Tryz.results123) rfl ⟨rfl, rfl⟩)
theorem fdiv6_c (H : AHeap) (n : Int) (hn : -16777216 ≤ n ∧ n ≤ 16777216) : ACalls Tryz.prog 124 [.int .i64 n] H (fun v H' => v = .int .i64 (n / 64) ∧ H' = H) := by
  refine AcT true Tryz.func124 ?_; intro hbel Q hQ
  have g'3 := @fdiv64
  refine runTf g'3 ?_
  exact hQ _ _ (end_plain0 (.inl rfl) hbel (x := .int .i64 (n / 64)) (resT Tryz.results124) rfl ⟨rfl, rfl⟩)
theorem fvalue_c (H : AHeap) (W : Int) (Hh : Int) (pp : AV) (xs : List Int) (x : Int) (y : Int) (hpp : Sl H 1 pp xs.length (ints .u8 xs)) (hV : vldB W Hh xs = true) : ACalls Tryz.prog 126 [.agg [.int .i64 W, .int .i64 Hh, pp], .agg [.int .i64 x, .int .i64 y]] H (fun v H' => v = .int .u8 (atI W Hh xs x y) ∧ H' = H) := by
  obtain ⟨bpp, opp, cpp, rfl, hbpp⟩ := hpp
  have hblpp := getElem?_lt hbpp
  have hb0pp := fun l => get_app (l := l) hbpp
  have hVV := vld_iff.1 hV
  have hx6 : xs.length ≤ 1000000 := by have h4 := hVV.len; have := Int.mul_le_mul hVV.w1 hVV.h1 (by have := hVV.h0; omega) (by decide); omega
  refine AcT true Tryz.func126 ?_; intro hbel Q hQ
  have g'4 := (jn @hbpp @hb0pp)
  refine runTf g'4 ?_
  refine gd_split (fun h1 => ?_) (fun h1 => ?_)
  · have h1d := bsT h1
    have g'5 := (jn @h1 (jn @h1d g'4))
    refine runTf g'5 ?_
    refine gd_split (fun h2 => ?_) (fun h2 => ?_)
    · have h2d := bsT h2
      have g'6 := (jn @h2 (jn @h2d g'5))
      refine runTf g'6 ?_
      refine gd_split (fun h3 => ?_) (fun h3 => ?_)
      · have h3d := bsT h3
        have g'7 := (jn @h3 (jn @h3d g'6))
        refine runTf g'7 ?_
        refine cond_split (fun h4 => ?_) (fun h4 => ?_)
        · have h4d := bsT h4
          have hfinA : atI W Hh xs x y = 2 := if_neg (by rw [Bool.not_eq_true, inB_false]; omega)
          have g'8 := (jn @h4 (jn @h4d g'7))
          refine runTf g'8 ?_
          exact hQ _ _ (end_plain (.inl rfl) hbel (x := .int .u8 2) (resT Tryz.results126) rfl ⟨by rw [hfinA], rfl⟩)
        · have h4d := bsT h4
          have hin : inB W Hh x y = true := inB_iff.2 (by omega)
          obtain ⟨j1, j2, j3, j4, j5, -⟩ := hVV.idx hin
          have hfinA : atI W Hh xs x y = gi xs ((y * W) + x).toNat := if_pos hin
          have q5 := ints_get (k := .u8) (xs := xs) (j := ((y * W) + x).toNat) (by omega)
          have g'9 := (jn @h4 (jn @h4d (jn @q5 g'7)))
          refine runTf g'9 ?_
          exact hQ _ _ (end_plain (.inl rfl) hbel (x := .int .u8 (gi xs (((y * W) + x).toNat))) (resT Tryz.results126) rfl ⟨by rw [hfinA], rfl⟩)
      · have h3d := bsT h3
        have hfinA : atI W Hh xs x y = 2 := if_neg (by rw [Bool.not_eq_true, inB_false]; omega)
        have g'10 := (jn @h3 (jn @h3d g'6))
        refine runTf g'10 ?_
        exact hQ _ _ (end_plain (.inl rfl) hbel (x := .int .u8 2) (resT Tryz.results126) rfl ⟨by rw [hfinA], rfl⟩)
    · have h2d := bsT h2
      have hfinA : atI W Hh xs x y = 2 := if_neg (by rw [Bool.not_eq_true, inB_false]; omega)
      have g'11 := (jn @h2 (jn @h2d g'5))
      refine runTf g'11 ?_
      exact hQ _ _ (end_plain (.inl rfl) hbel (x := .int .u8 2) (resT Tryz.results126) rfl ⟨by rw [hfinA], rfl⟩)
  · have h1d := bsT h1
    have hfinA : atI W Hh xs x y = 2 := if_neg (by rw [Bool.not_eq_true, inB_false]; omega)
    have g'12 := (jn @h1 (jn @h1d g'4))
    refine runTf g'12 ?_
    exact hQ _ _ (end_plain (.inl rfl) hbel (x := .int .u8 2) (resT Tryz.results126) rfl ⟨by rw [hfinA], rfl⟩)
theorem finside_c (H : AHeap) (W : Int) (Hh : Int) (pp : AV) (xs : List Int) (x : Int) (y : Int) (hpp : Sl H 1 pp xs.length (ints .u8 xs)) (hV : vldB W Hh xs = true) : ACalls Tryz.prog 128 [.agg [.int .i64 W, .int .i64 Hh, pp], .agg [.int .i64 x, .int .i64 y]] H (fun v H' => v = .bool (finB W Hh x y) ∧ H' = H) := by
  obtain ⟨bpp, opp, cpp, rfl, hbpp⟩ := hpp
  have hblpp := getElem?_lt hbpp
  have hb0pp := fun l => get_app (l := l) hbpp
  have hVV := vld_iff.1 hV
  have hw1 := hVV.w1
  have hw0 := hVV.w0
  have hh1 := hVV.h1
  have hh0 := hVV.h0
  refine AcT true Tryz.func128 ?_; intro hbel Q hQ
  have g'13 := (jn @hbpp @hb0pp)
  refine runTf g'13 ?_
  refine gd_split (fun h1 => ?_) (fun h1 => ?_)
  · have h1d := bsT h1
    have g'14 := (jn @h1 (jn @h1d g'13))
    refine runTf g'14 ?_
    refine gd_split (fun h2 => ?_) (fun h2 => ?_)
    · have h2d := bsT h2
      have g'15 := (jn @h2 (jn @h2d g'14))
      refine runTf g'15 ?_
      refine gd_split (fun h3 => ?_) (fun h3 => ?_)
      · have h3d := bsT h3
        have g'16 := (jn @h3 (jn @h3d g'15))
        refine runTf g'16 ?_
        exact hQ _ _ (end_plain (.inl rfl) hbel (x := .bool (decide (y ≤ (Hh * 64)))) (resT Tryz.results128) rfl ⟨by first | (simp [finB, h1d, h2d, h3d]; done) | (simp [finB, h1d, h2d, h3d]; omega), rfl⟩)
      · have h3d := bsT h3
        have g'17 := (jn @h3 (jn @h3d g'15))
        refine runTf g'17 ?_
        exact hQ _ _ (end_plain (.inl rfl) hbel (x := .bool false) (resT Tryz.results128) rfl ⟨by first | (simp [finB, h1d, h2d, h3d]; done) | (simp [finB, h1d, h2d, h3d]; omega), rfl⟩)
    · have h2d := bsT h2
      have g'18 := (jn @h2 (jn @h2d g'14))
      refine runTf g'18 ?_
      exact hQ _ _ (end_plain (.inl rfl) hbel (x := .bool false) (resT Tryz.results128) rfl ⟨by first | (simp [finB, h1d, h2d]; done) | (simp [finB, h1d, h2d]; omega), rfl⟩)
  · have h1d := bsT h1
    have g'19 := (jn @h1 (jn @h1d g'13))
    refine runTf g'19 ?_
    exact hQ _ _ (end_plain (.inl rfl) hbel (x := .bool false) (resT Tryz.results128) rfl ⟨by first | (simp [finB, h1d]; done) | (simp [finB, h1d]; omega), rfl⟩)
theorem pof_c (H : AHeap) (x : Int) (y : Int) (hp : ptB x y = true) : ACalls Tryz.prog 122 [.agg [.int .i64 x, .int .i64 y]] H (fun v H' => v = .tup [.agg [.int .i64 (x / 64), .int .i64 (y / 64)], .bool true] ∧ H' = H) := by
  have hpp := hp
  simp only [ptB, Bool.and_eq_true, within_iff] at hpp
  refine AcT true Tryz.func122 ?_; intro hbel Q hQ
  have g'20 := @hp
  refine runTf g'20 ?_
  refine call_v (by kernel_rfl) (pvpt_c _ x y) ?_
  refine runTf g'20 ?_
  refine call_d (by kernel_rfl) (pdown_c _ x 64 (by omega) (by omega)) ?_
  refine runTf g'20 ?_
  refine call_d (by kernel_rfl) (pdown_c _ y 64 (by omega) (by omega)) ?_
  refine runTf g'20 ?_
  exact hQ _ _ (end_plain (.inl rfl) hbel (x := .tup [.agg [.int .i64 (x / 64), .int .i64 (y / 64)], .bool true]) (resT Tryz.results122) rfl ⟨rfl, rfl⟩)
theorem fits_c (H : AHeap) (W : Int) (Hh : Int) (pp : AV) (xs : List Int) (x : Int) (y : Int)  (hpp : Sl H 1 pp xs.length (ints .u8 xs)) (hBl : bldB W Hh xs = true) (hnz : ∀ v ∈ xs, 1 ≤ v ∧ v ≤ 2) (hp : ptB x y = true) (hno : ∀ cx cy : Int, (cx * 64 - 20 ≤ x ∧ x ≤ cx * 64 + 84) → (cy * 64 - 20 ≤ y ∧ y ≤ cy * 64 + 84) → atI W Hh xs cx cy = 1) : ACalls Tryz.prog 44 [.agg [.int .i64 W, .int .i64 Hh, pp], .agg [.int .i64 x, .int .i64 y], .int .i64 20] H (fun v H' => v = .bool true ∧ H' = H) := by
  obtain ⟨bpp, opp, cpp, rfl, hbpp⟩ := hpp
  have hblpp := getElem?_lt hbpp
  have hb0pp := fun l => get_app (l := l) hbpp
  have hV : vldB W Hh xs = true := by have hh := hBl; unfold bldB at hh; rw [Bool.and_eq_true] at hh; exact hh.1
  have hVV := vld_iff.1 hV
  have hw0 := hVV.w0
  have hw1 := hVV.w1
  have hh0 := hVV.h0
  have hh1 := hVV.h1
  have hx0 : 0 < xs.length := by have := (hVV.idx (show inB W Hh 0 0 = true from inB_iff.2 (by omega))).2.2.2.2.1; omega
  have hpp := hp
  simp only [ptB, Bool.and_eq_true, within_iff] at hpp
  have hfr := free_inF (hno (x / 64) (y / 64) (by omega) (by omega))
  have hlp : lnP x y = true := lnP_iff.2 (by omega)
  have hfin0 : finB W Hh x y = true := by unfold finB; rw [decide_eq_true (by omega), decide_eq_true (by omega), decide_eq_true (by omega), decide_eq_true (by omega)]; rfl
  refine AcT true Tryz.func44 ?_; intro hbel Q hQ
  have g'21 := (jn @hbpp (jn @hb0pp @hfin0))
  refine runTf g'21 ?_
  refine call_v (by kernel_rfl) (pof_c _ x y (by assumption)) ?_
  refine runTf g'21 ?_
  refine call_v (by kernel_rfl) (fcheck0_c _ W Hh _ xs ⟨_, _, _, rfl, by first | exact hb0pp _ | exact hbpp⟩ hBl hnz) ?_
  refine runTf g'21 ?_
  refine call_v (by kernel_rfl) (fdiv6_c _ (y - 20) (by omega)) ?_
  refine runTf g'21 ?_
  refine go_loop try_mixed (by kernel_rfl) (fun k F Hx => ∃ n : Nat, n + k = ((y + 20) / 64 - (y - 20) / 64 + 3).toNat ∧ F = [(2, .int .i64 20), (3, .ptr (some (H.length, 0))), (4, .ptr (some (H.length + 1, 0))), (9, .int .i64 ((((y - 20) / 64) - 1) + ((n : Nat) : Int)))] ∧ Hx = H ++ [.cells true 0 [.int .i64 W, .int .i64 Hh, .sl (some (bpp, 0)) xs.length cpp], .cells true 0 [.int .i64 x, .int .i64 y]]) (((y + 20) / 64 - (y - 20) / 64 + 3).toNat) ?_ ?_
  · refine ⟨_, _, _, ⟨0, by omega, rfl, rfl⟩, Abs.byG hbel [] rfl [0, 1] (by decide) ?_⟩
    exact absWf (jn @Int.natCast_zero @Int.add_zero)
  · rintro k0 F Hx ⟨n, hm0, rfl, rfl⟩ J0 hJ0
    refine runTf g'21 ?_
    refine call_v (by kernel_rfl) (fdiv6_c _ (y + 20) (by omega)) ?_
    refine runTf g'21 ?_
    refine cond_split (fun h1 => ?_) (fun h1 => ?_)
    · have h1d := bsT h1
      have g'22 := (jn @h1 (jn @h1d g'21))
      refine runTf g'22 ?_
      refine call_v (by kernel_rfl) (fdiv6_c _ (x - 20) (by omega)) ?_
      refine runTf g'22 ?_
      refine go_loop try_mixed (by kernel_rfl) (fun k F Hx => ∃ m : Nat, m + k = ((x + 20) / 64 - (x - 20) / 64 + 3).toNat ∧ F = [(2, .int .i64 20), (3, .ptr (some (H.length, 0))), (4, .ptr (some (H.length + 1, 0))), (9, .int .i64 ((((y - 20) / 64) - 1) + ((n : Nat) : Int))), (10, .int .i64 ((((x - 20) / 64) - 1) + ((m : Nat) : Int)))] ∧ Hx = H ++ [.cells true 0 [.int .i64 W, .int .i64 Hh, .sl (some (bpp, 0)) xs.length cpp], .cells true 0 [.int .i64 x, .int .i64 y]]) (((x + 20) / 64 - (x - 20) / 64 + 3).toNat) ?_ ?_
      · refine ⟨_, _, _, ⟨0, by omega, rfl, rfl⟩, Abs.byG hbel [] rfl [0, 1] (by decide) ?_⟩
        exact absWf (jn @Int.natCast_zero @Int.add_zero)
      · rintro k1 F Hx ⟨m, hm1, rfl, rfl⟩ J1 hJ1
        refine runTf g'22 ?_
        refine call_v (by kernel_rfl) (fdiv6_c _ (x + 20) (by omega)) ?_
        refine runTf g'22 ?_
        refine cond_split (fun h2 => ?_) (fun h2 => ?_)
        · have h2d := bsT h2
          have hmt : m < ((x + 20) / 64 - (x - 20) / 64 + 3).toNat := by omega
          have g'23 := (jn @h2 (jn @h2d g'22))
          refine runTf g'23 ?_
          rcases Bool.eq_false_or_eq_true (sqO ((((x - 20) / 64) - 1) + ((m : Nat) : Int)) ((((y - 20) / 64) - 1) + ((n : Nat) : Int))) with h3 | h3
          · have h3d := h3
            refine call_v (by kernel_rfl) (psqr_t _ ((((x - 20) / 64) - 1) + ((m : Nat) : Int)) ((((y - 20) / 64) - 1) + ((n : Nat) : Int)) (by assumption)) ?_
            have g'24 := (jn @h3 (jn @h3d g'23))
            refine runTf g'24 ?_
            refine call_v (by kernel_rfl) (fvalue_c _ W Hh _ xs ((((x - 20) / 64) - 1) + ((m : Nat) : Int)) ((((y - 20) / 64) - 1) + ((n : Nat) : Int)) ⟨_, _, _, rfl, by first | exact hb0pp _ | exact hbpp⟩ hV) ?_
            refine runTf g'24 ?_
            refine gd_split (fun h4 => ?_) (fun h4 => ?_)
            · have h4d := bsT h4
              have h4n := bnT h4
              have hat2 := h4d
              have hlr : lnR (((((x - 20) / 64) - 1) + ((m : Nat) : Int)) * 64) (((((y - 20) / 64) - 1) + ((n : Nat) : Int)) * 64) (((((x - 20) / 64) - 1) + ((m : Nat) : Int)) * 64 + 64) (((((y - 20) / 64) - 1) + ((n : Nat) : Int)) * 64 + 64) = true := lnR_iff.2 (by omega)
              have g'25 := (jn @h4 (jn @h4n (jn @int_bne (jn @int_beq g'24))))
              refine runTf g'25 ?_
              refine call_v (by kernel_rfl) (gap_c _ x y (((((x - 20) / 64) - 1) + ((m : Nat) : Int)) * 64) (((((y - 20) / 64) - 1) + ((n : Nat) : Int)) * 64) (((((x - 20) / 64) - 1) + ((m : Nat) : Int)) * 64 + 64) (((((y - 20) / 64) - 1) + ((n : Nat) : Int)) * 64 + 64) (by assumption) (by assumption)) ?_
              refine runTf g'25 ?_
              refine cond_split (fun h5 => ?_) (fun h5 => ?_)
              · have h5d := bsT h5
                have bx1 := bes_ge (n := x) (lo := ((((x - 20) / 64) - 1) + ((m : Nat) : Int)) * 64) (hi := ((((x - 20) / 64) - 1) + ((m : Nat) : Int)) * 64 + 64)
                have by1 := bes_ge (n := y) (lo := ((((y - 20) / 64) - 1) + ((n : Nat) : Int)) * 64) (hi := ((((y - 20) / 64) - 1) + ((n : Nat) : Int)) * 64 + 64)
                have kk := bes_le (n := x) (lo := ((((x - 20) / 64) - 1) + ((m : Nat) : Int)) * 64) (hi := ((((x - 20) / 64) - 1) + ((m : Nat) : Int)) * 64 + 64) (n' := y) (lo' := ((((y - 20) / 64) - 1) + ((n : Nat) : Int)) * 64) (hi' := ((((y - 20) / 64) - 1) + ((n : Nat) : Int)) * 64 + 64) ⟨bx1.1, bx1.2.1⟩ ⟨by1.1, by1.2.1⟩ (by have q := h5d; unfold gapP at q; exact q)
                have h1n := hno ((((x - 20) / 64) - 1) + ((m : Nat) : Int)) ((((y - 20) / 64) - 1) + ((n : Nat) : Int)) (by omega) (by omega)
                exact absurd (h1n.symm.trans (by first | exact hat2 | simpa using hat2)) (by decide)
              · have h5d := bsT h5
                have g'26 := (jn @h5 (jn @h5d g'25))
                refine runTf g'26 ?_
                refine hJ1 _ _ ⟨k1 - 1, by omega, _, _, _, ⟨m + 1, by omega, rfl, rfl⟩, Abs.byG hbel [] rfl [0, 1] (by decide) ?_⟩
                exact absWf (jn @Int.natCast_add (jn @Int.natCast_one @Int.add_assoc))
            · have h4d := bsT h4
              have h4n := bnT h4
              have g'27 := (jn @h4 (jn @h4n (jn @int_bne (jn @int_beq g'24))))
              refine runTf g'27 ?_
              refine hJ1 _ _ ⟨k1 - 1, by omega, _, _, _, ⟨m + 1, by omega, rfl, rfl⟩, Abs.byG hbel [] rfl [0, 1] (by decide) ?_⟩
              exact absWf (jn @Int.natCast_add (jn @Int.natCast_one @Int.add_assoc))
          · have h3d := h3
            refine call_v (by kernel_rfl) (psqr_f _ ((((x - 20) / 64) - 1) + ((m : Nat) : Int)) ((((y - 20) / 64) - 1) + ((n : Nat) : Int)) (by assumption)) ?_
            have g'28 := (jn @h3 (jn @h3d g'23))
            refine runTf g'28 ?_
            refine hJ1 _ _ ⟨k1 - 1, by omega, _, _, _, ⟨m + 1, by omega, rfl, rfl⟩, Abs.byG hbel [] rfl [0, 1] (by decide) ?_⟩
            exact absWf (jn @Int.natCast_add (jn @Int.natCast_one @Int.add_assoc))
        · have h2d := bsT h2
          have g'29 := (jn @h2 (jn @h2d g'22))
          refine runTf g'29 ?_
          refine hJ0 _ _ ⟨k0 - 1, by omega, _, _, _, ⟨n + 1, by omega, rfl, rfl⟩, Abs.byG hbel [] rfl [0, 1] (by decide) ?_⟩
          exact absWf (jn @Int.natCast_add (jn @Int.natCast_one @Int.add_assoc))
    · have h1d := bsT h1
      have g'30 := (jn @h1 (jn @h1d g'21))
      refine runTf g'30 ?_
      refine call_v (by kernel_rfl) (finside_c _ W Hh _ xs x y ⟨_, _, _, rfl, by first | exact hb0pp _ | exact hbpp⟩ hV) ?_
      refine runTf g'30 ?_
      exact hQ _ _ (end_plain (.inl rfl) hbel (x := .bool true) (resT Tryz.results44) rfl ⟨by first | rfl | (rw [hfin0]; rfl), rfl⟩)
open Go.RowKit
theorem dblk_c (H : AHeap) (W : Int) (Hh : Int) (pp : AV) (xs : List Int) (px : Int) (py : Int) (qx : Int) (qy : Int) (hpp : Sl H 1 pp xs.length (ints .u8 xs)) (hBl : bldB W Hh xs = true) (hnz : ∀ v ∈ xs, 1 ≤ v ∧ v ≤ 2) (hp : ptB px py = true) (hq : ptB qx qy = true) (hdx : -1024 ≤ qx - px ∧ qx - px ≤ 1024) (hdy : -1024 ≤ qy - py ∧ qy - py ≤ 1024) (hno : ∀ cx cy : Int, TouP px py qx qy (cx * 64) (cy * 64) → atI W Hh xs cx cy = 1) : ACalls Tryz.prog 120 [.agg [.int .i64 W, .int .i64 Hh, pp], .agg [.int .i64 px, .int .i64 py], .agg [.int .i64 qx, .int .i64 qy]] H (fun v H' => v = .bool false ∧ H' = H) := by
  obtain ⟨bpp, opp, cpp, rfl, hbpp⟩ := hpp
  have hblpp := getElem?_lt hbpp
  have hb0pp := fun l => get_app (l := l) hbpp
  have hV : vldB W Hh xs = true := by have hh := hBl; unfold bldB at hh; rw [Bool.and_eq_true] at hh; exact hh.1
  have hVV := vld_iff.1 hV
  have hW0 := hVV.w0
  have hW1 := hVV.w1
  have hh0 := hVV.h0
  have hh1 := hVV.h1
  have hx0 : 0 < xs.length := by have := (hVV.idx (show inB W Hh 0 0 = true from inB_iff.2 (by omega))).2.2.2.2.1; omega
  have hw1 := within_iff.2 hdx
  have hw2 := within_iff.2 hdy
  have hpi := hp
  have hqi := hq
  simp only [ptB, Bool.and_eq_true, within_iff] at hpi hqi
  have hmn : ∀ a b : Int, (if b < a then b else a) = mnI a b := fun _ _ => rfl
  have hmx : ∀ a b : Int, (if a < b then b else a) = mxI a b := fun _ _ => rfl
  have hx1 : -1048576 ≤ mnI px qx ∧ mnI px qx ≤ 1048576 ∧ mnI px qx ≤ mxI px qx ∧ mxI px qx ≤ 1048576 := by unfold mnI mxI; split <;> split <;> omega
  have hy1 : -1048576 ≤ mnI py qy ∧ mnI py qy ≤ 1048576 ∧ mnI py qy ≤ mxI py qy ∧ mxI py qy ≤ 1048576 := by unfold mnI mxI; split <;> split <;> omega
  have hlp : lnP px py = true := lnP_iff.2 (by omega)
  have hlq : lnP qx qy = true := lnP_iff.2 (by omega)
  refine AcT true Tryz.func120 ?_; intro hbel Q hQ
  have g'1 := (jn @hbpp (jn @hb0pp (jn @hV (jn @hp (jn @hq (jn @hw1 (jn @hw2 (jn @hmn @hmx))))))))
  refine runTf g'1 ?_
  refine call_v (by kernel_rfl) (valid_a _ W Hh _ xs (.inr ⟨_, _, _, rfl, by first | exact hb0pp _ | exact hbpp⟩)) ?_
  refine runTf g'1 ?_
  refine call_v (by kernel_rfl) (pcount0_c _ W Hh _ xs ⟨_, _, _, rfl, by first | exact hb0pp _ | exact hbpp⟩ hBl hnz) ?_
  refine runTf g'1 ?_
  refine call_v (by kernel_rfl) (dvpt_c _ px py) ?_
  refine runTf g'1 ?_
  refine call_v (by kernel_rfl) (dvpt_c _ qx qy) ?_
  refine runTf g'1 ?_
  refine call_v (by kernel_rfl) (dwithin_c _ (qx - px) 1024 (by decide)) ?_
  refine runTf g'1 ?_
  refine call_v (by kernel_rfl) (dwithin_c _ (qy - py) 1024 (by decide)) ?_
  refine runTf g'1 ?_
  refine call_d (by kernel_rfl) (ddown_c _ ((mnI px qx) - 20) 64 (by omega) (by omega)) ?_
  refine runTf g'1 ?_
  refine call_d (by kernel_rfl) (ddown_c _ ((mxI px qx) + 20) 64 (by omega) (by omega)) ?_
  refine runTf g'1 ?_
  refine call_d (by kernel_rfl) (ddown_c _ ((mnI py qy) - 20) 64 (by omega) (by omega)) ?_
  refine runTf g'1 ?_
  refine call_d (by kernel_rfl) (ddown_c _ ((mxI py qy) + 20) 64 (by omega) (by omega)) ?_
  refine runTf g'1 ?_
  refine go_loop try_mixed (by kernel_rfl) (fun k F Hx => ∃ n : Nat, n + k = ((mxI py qy + 20) / 64 - (mnI py qy - 20) / 64 + 2).toNat ∧ F = [(3, .ptr (some (H.length, 0))), (4, .ptr (some (H.length + 1, 0))), (5, .ptr (some (H.length + 2, 0))), (7, .int .i64 ((((mnI px qx) - 20) / 64) - 1)), (8, .int .i64 (((mxI px qx) + 20) / 64)), (10, .int .i64 (((mxI py qy) + 20) / 64)), (11, .int .i64 (((((mnI py qy) - 20) / 64) - 1) + ((n : Nat) : Int)))] ∧ Hx = H ++ [.cells true 0 [.int .i64 W, .int .i64 Hh, .sl (some (bpp, 0)) xs.length cpp], .cells true 0 [.int .i64 px, .int .i64 py], .cells true 0 [.int .i64 qx, .int .i64 qy]]) (((mxI py qy + 20) / 64 - (mnI py qy - 20) / 64 + 2).toNat) ?_ ?_
  · refine ⟨_, _, _, ⟨0, by omega, rfl, rfl⟩, Abs.byG hbel [] rfl [0, 1, 2] (by decide) ?_⟩
    exact absWf (jn @Int.natCast_zero @Int.add_zero)
  · rintro k0 F Hx ⟨n, hm0, rfl, rfl⟩ J0 hJ0
    refine runTf g'1 ?_
    refine cond_split (fun h1 => ?_) (fun h1 => ?_)
    · have h1d := bsT h1
      have hnt : n < ((mxI py qy + 20) / 64 - (mnI py qy - 20) / 64 + 2).toNat := by omega
      have g'2 := (jn @h1 (jn @h1d g'1))
      refine runTf g'2 ?_
      refine go_loop try_mixed (by kernel_rfl) (fun k F Hx => ∃ m : Nat, m + k = ((mxI px qx + 20) / 64 - (mnI px qx - 20) / 64 + 2).toNat ∧ F = [(3, .ptr (some (H.length, 0))), (4, .ptr (some (H.length + 1, 0))), (5, .ptr (some (H.length + 2, 0))), (7, .int .i64 ((((mnI px qx) - 20) / 64) - 1)), (8, .int .i64 (((mxI px qx) + 20) / 64)), (10, .int .i64 (((mxI py qy) + 20) / 64)), (11, .int .i64 (((((mnI py qy) - 20) / 64) - 1) + ((n : Nat) : Int))), (12, .int .i64 (((((mnI px qx) - 20) / 64) - 1) + ((m : Nat) : Int)))] ∧ Hx = H ++ [.cells true 0 [.int .i64 W, .int .i64 Hh, .sl (some (bpp, 0)) xs.length cpp], .cells true 0 [.int .i64 px, .int .i64 py], .cells true 0 [.int .i64 qx, .int .i64 qy]]) (((mxI px qx + 20) / 64 - (mnI px qx - 20) / 64 + 2).toNat) ?_ ?_
      · refine ⟨_, _, _, ⟨0, by omega, rfl, rfl⟩, Abs.byG hbel [] rfl [0, 1, 2] (by decide) ?_⟩
        exact absWf (jn @Int.natCast_zero @Int.add_zero)
      · rintro k1 F Hx ⟨m, hm1, rfl, rfl⟩ J1 hJ1
        refine runTf g'2 ?_
        refine cond_split (fun h2 => ?_) (fun h2 => ?_)
        · have h2d := bsT h2
          have hmt : m < ((mxI px qx + 20) / 64 - (mnI px qx - 20) / 64 + 2).toNat := by omega
          have g'3 := (jn @h2 (jn @h2d g'2))
          refine runTf g'3 ?_
          refine gd_split (fun h3 => ?_) (fun h3 => ?_)
          · have h3d := bsT h3
            have g'4 := (jn @h3 (jn @h3d g'3))
            refine runTf g'4 ?_
            refine gd_split (fun h4 => ?_) (fun h4 => ?_)
            · have h4d := bsT h4
              have g'5 := (jn @h4 (jn @h4d g'4))
              refine runTf g'5 ?_
              refine gd_split (fun h5 => ?_) (fun h5 => ?_)
              · have h5d := bsT h5
                have g'6 := (jn @h5 (jn @h5d g'5))
                refine runTf g'6 ?_
                refine gd_split (fun h6 => ?_) (fun h6 => ?_)
                · have h6d := bsT h6
                  have hin : inB W Hh (((((mnI px qx) - 20) / 64) - 1) + ((m : Nat) : Int)) (((((mnI py qy) - 20) / 64) - 1) + ((n : Nat) : Int)) = true := inB_iff.2 (by omega)
                  obtain ⟨j1, j2, j3, j4, j5, -⟩ := hVV.idx hin
                  have q7 := ints_get (k := .u8) (xs := xs) (j := (((((((mnI py qy) - 20) / 64) - 1) + ((n : Nat) : Int)) * W) + (((((mnI px qx) - 20) / 64) - 1) + ((m : Nat) : Int))).toNat) (by omega)
                  have g'7 := (jn @h6 (jn @h6d (jn @q7 g'6)))
                  refine runTf g'7 ?_
                  refine cond_split (fun h8 => ?_) (fun h8 => ?_)
                  · have h8d := bsT h8
                    have h8n := bnT h8
                    have g'8 := (jn @h8 (jn @h8n (jn @int_bne (jn @int_beq g'7))))
                    refine runTf g'8 ?_
                    refine hJ1 _ _ ⟨k1 - 1, by omega, _, _, _, ⟨m + 1, by omega, rfl, rfl⟩, Abs.byG hbel [] rfl [0, 1, 2] (by decide) ?_⟩
                    exact absWf (jn @Int.natCast_add (jn @Int.natCast_one @Int.add_assoc))
                  · have h8d := bsT h8
                    have h8n := bnT h8
                    have hat2 : atI W Hh xs (((((mnI px qx) - 20) / 64) - 1) + ((m : Nat) : Int)) (((((mnI py qy) - 20) / 64) - 1) + ((n : Nat) : Int)) = 2 := (if_pos hin).trans (by first | exact h8d | simpa using h8d)
                    have g'9 := (jn @h8 (jn @h8n (jn @int_bne (jn @int_beq g'7))))
                    refine runTf g'9 ?_
                    have hlr : lnR ((((((mnI px qx) - 20) / 64) - 1) + ((m : Nat) : Int)) * 64) ((((((mnI py qy) - 20) / 64) - 1) + ((n : Nat) : Int)) * 64) (((((((mnI px qx) - 20) / 64) - 1) + ((m : Nat) : Int)) + 1) * 64) (((((((mnI py qy) - 20) / 64) - 1) + ((n : Nat) : Int)) + 1) * 64) = true := lnR_iff.2 (by omega)
                    refine call_v (by kernel_rfl) (touch_c _ px py qx qy ((((((mnI px qx) - 20) / 64) - 1) + ((m : Nat) : Int)) * 64) ((((((mnI py qy) - 20) / 64) - 1) + ((n : Nat) : Int)) * 64) (((((((mnI px qx) - 20) / 64) - 1) + ((m : Nat) : Int)) + 1) * 64) (((((((mnI py qy) - 20) / 64) - 1) + ((n : Nat) : Int)) + 1) * 64) (by assumption) (by assumption) (by assumption) (by omega) (by omega)) ?_
                    refine runTf g'9 ?_
                    refine cond_split (fun h9 => ?_) (fun h9 => ?_)
                    · have h9d := bsT h9
                      have hpt : TouP px py qx qy ((((((mnI px qx) - 20) / 64) - 1) + ((m : Nat) : Int)) * 64) ((((((mnI py qy) - 20) / 64) - 1) + ((n : Nat) : Int)) * 64) := pt_tou (by rw [show (((((mnI px qx) - 20) / 64) - 1) + ((m : Nat) : Int)) * 64 + 64 = ((((((mnI px qx) - 20) / 64) - 1) + ((m : Nat) : Int)) + 1) * 64 by omega, show (((((mnI py qy) - 20) / 64) - 1) + ((n : Nat) : Int)) * 64 + 64 = ((((((mnI py qy) - 20) / 64) - 1) + ((n : Nat) : Int)) + 1) * 64 by omega]; exact h9d)
                      exact absurd ((hno (((((mnI px qx) - 20) / 64) - 1) + ((m : Nat) : Int)) (((((mnI py qy) - 20) / 64) - 1) + ((n : Nat) : Int)) hpt).symm.trans hat2) (by decide)
                    · have h9d := bsT h9
                      have g'10 := (jn @h9 (jn @h9d g'9))
                      refine runTf g'10 ?_
                      refine hJ1 _ _ ⟨k1 - 1, by omega, _, _, _, ⟨m + 1, by omega, rfl, rfl⟩, Abs.byG hbel [] rfl [0, 1, 2] (by decide) ?_⟩
                      exact absWf (jn @Int.natCast_add (jn @Int.natCast_one @Int.add_assoc))
                · have h6d := bsT h6
                  have hat2 : atI W Hh xs (((((mnI px qx) - 20) / 64) - 1) + ((m : Nat) : Int)) (((((mnI py qy) - 20) / 64) - 1) + ((n : Nat) : Int)) = 2 := if_neg (by rw [Bool.not_eq_true, inB_false]; omega)
                  have g'11 := (jn @h6 (jn @h6d g'6))
                  refine runTf g'11 ?_
                  have hlr : lnR ((((((mnI px qx) - 20) / 64) - 1) + ((m : Nat) : Int)) * 64) ((((((mnI py qy) - 20) / 64) - 1) + ((n : Nat) : Int)) * 64) (((((((mnI px qx) - 20) / 64) - 1) + ((m : Nat) : Int)) + 1) * 64) (((((((mnI py qy) - 20) / 64) - 1) + ((n : Nat) : Int)) + 1) * 64) = true := lnR_iff.2 (by omega)
                  refine call_v (by kernel_rfl) (touch_c _ px py qx qy ((((((mnI px qx) - 20) / 64) - 1) + ((m : Nat) : Int)) * 64) ((((((mnI py qy) - 20) / 64) - 1) + ((n : Nat) : Int)) * 64) (((((((mnI px qx) - 20) / 64) - 1) + ((m : Nat) : Int)) + 1) * 64) (((((((mnI py qy) - 20) / 64) - 1) + ((n : Nat) : Int)) + 1) * 64) (by assumption) (by assumption) (by assumption) (by omega) (by omega)) ?_
                  refine runTf g'11 ?_
                  refine cond_split (fun h10 => ?_) (fun h10 => ?_)
                  · have h10d := bsT h10
                    have hpt : TouP px py qx qy ((((((mnI px qx) - 20) / 64) - 1) + ((m : Nat) : Int)) * 64) ((((((mnI py qy) - 20) / 64) - 1) + ((n : Nat) : Int)) * 64) := pt_tou (by rw [show (((((mnI px qx) - 20) / 64) - 1) + ((m : Nat) : Int)) * 64 + 64 = ((((((mnI px qx) - 20) / 64) - 1) + ((m : Nat) : Int)) + 1) * 64 by omega, show (((((mnI py qy) - 20) / 64) - 1) + ((n : Nat) : Int)) * 64 + 64 = ((((((mnI py qy) - 20) / 64) - 1) + ((n : Nat) : Int)) + 1) * 64 by omega]; exact h10d)
                    exact absurd ((hno (((((mnI px qx) - 20) / 64) - 1) + ((m : Nat) : Int)) (((((mnI py qy) - 20) / 64) - 1) + ((n : Nat) : Int)) hpt).symm.trans hat2) (by decide)
                  · have h10d := bsT h10
                    have g'12 := (jn @h10 (jn @h10d g'11))
                    refine runTf g'12 ?_
                    refine hJ1 _ _ ⟨k1 - 1, by omega, _, _, _, ⟨m + 1, by omega, rfl, rfl⟩, Abs.byG hbel [] rfl [0, 1, 2] (by decide) ?_⟩
                    exact absWf (jn @Int.natCast_add (jn @Int.natCast_one @Int.add_assoc))
              · have h5d := bsT h5
                have hat2 : atI W Hh xs (((((mnI px qx) - 20) / 64) - 1) + ((m : Nat) : Int)) (((((mnI py qy) - 20) / 64) - 1) + ((n : Nat) : Int)) = 2 := if_neg (by rw [Bool.not_eq_true, inB_false]; omega)
                have g'13 := (jn @h5 (jn @h5d g'5))
                refine runTf g'13 ?_
                have hlr : lnR ((((((mnI px qx) - 20) / 64) - 1) + ((m : Nat) : Int)) * 64) ((((((mnI py qy) - 20) / 64) - 1) + ((n : Nat) : Int)) * 64) (((((((mnI px qx) - 20) / 64) - 1) + ((m : Nat) : Int)) + 1) * 64) (((((((mnI py qy) - 20) / 64) - 1) + ((n : Nat) : Int)) + 1) * 64) = true := lnR_iff.2 (by omega)
                refine call_v (by kernel_rfl) (touch_c _ px py qx qy ((((((mnI px qx) - 20) / 64) - 1) + ((m : Nat) : Int)) * 64) ((((((mnI py qy) - 20) / 64) - 1) + ((n : Nat) : Int)) * 64) (((((((mnI px qx) - 20) / 64) - 1) + ((m : Nat) : Int)) + 1) * 64) (((((((mnI py qy) - 20) / 64) - 1) + ((n : Nat) : Int)) + 1) * 64) (by assumption) (by assumption) (by assumption) (by omega) (by omega)) ?_
                refine runTf g'13 ?_
                refine cond_split (fun h11 => ?_) (fun h11 => ?_)
                · have h11d := bsT h11
                  have hpt : TouP px py qx qy ((((((mnI px qx) - 20) / 64) - 1) + ((m : Nat) : Int)) * 64) ((((((mnI py qy) - 20) / 64) - 1) + ((n : Nat) : Int)) * 64) := pt_tou (by rw [show (((((mnI px qx) - 20) / 64) - 1) + ((m : Nat) : Int)) * 64 + 64 = ((((((mnI px qx) - 20) / 64) - 1) + ((m : Nat) : Int)) + 1) * 64 by omega, show (((((mnI py qy) - 20) / 64) - 1) + ((n : Nat) : Int)) * 64 + 64 = ((((((mnI py qy) - 20) / 64) - 1) + ((n : Nat) : Int)) + 1) * 64 by omega]; exact h11d)
                  exact absurd ((hno (((((mnI px qx) - 20) / 64) - 1) + ((m : Nat) : Int)) (((((mnI py qy) - 20) / 64) - 1) + ((n : Nat) : Int)) hpt).symm.trans hat2) (by decide)
                · have h11d := bsT h11
                  have g'14 := (jn @h11 (jn @h11d g'13))
                  refine runTf g'14 ?_
                  refine hJ1 _ _ ⟨k1 - 1, by omega, _, _, _, ⟨m + 1, by omega, rfl, rfl⟩, Abs.byG hbel [] rfl [0, 1, 2] (by decide) ?_⟩
                  exact absWf (jn @Int.natCast_add (jn @Int.natCast_one @Int.add_assoc))
            · have h4d := bsT h4
              have hat2 : atI W Hh xs (((((mnI px qx) - 20) / 64) - 1) + ((m : Nat) : Int)) (((((mnI py qy) - 20) / 64) - 1) + ((n : Nat) : Int)) = 2 := if_neg (by rw [Bool.not_eq_true, inB_false]; omega)
              have g'15 := (jn @h4 (jn @h4d g'4))
              refine runTf g'15 ?_
              have hlr : lnR ((((((mnI px qx) - 20) / 64) - 1) + ((m : Nat) : Int)) * 64) ((((((mnI py qy) - 20) / 64) - 1) + ((n : Nat) : Int)) * 64) (((((((mnI px qx) - 20) / 64) - 1) + ((m : Nat) : Int)) + 1) * 64) (((((((mnI py qy) - 20) / 64) - 1) + ((n : Nat) : Int)) + 1) * 64) = true := lnR_iff.2 (by omega)
              refine call_v (by kernel_rfl) (touch_c _ px py qx qy ((((((mnI px qx) - 20) / 64) - 1) + ((m : Nat) : Int)) * 64) ((((((mnI py qy) - 20) / 64) - 1) + ((n : Nat) : Int)) * 64) (((((((mnI px qx) - 20) / 64) - 1) + ((m : Nat) : Int)) + 1) * 64) (((((((mnI py qy) - 20) / 64) - 1) + ((n : Nat) : Int)) + 1) * 64) (by assumption) (by assumption) (by assumption) (by omega) (by omega)) ?_
              refine runTf g'15 ?_
              refine cond_split (fun h12 => ?_) (fun h12 => ?_)
              · have h12d := bsT h12
                have hpt : TouP px py qx qy ((((((mnI px qx) - 20) / 64) - 1) + ((m : Nat) : Int)) * 64) ((((((mnI py qy) - 20) / 64) - 1) + ((n : Nat) : Int)) * 64) := pt_tou (by rw [show (((((mnI px qx) - 20) / 64) - 1) + ((m : Nat) : Int)) * 64 + 64 = ((((((mnI px qx) - 20) / 64) - 1) + ((m : Nat) : Int)) + 1) * 64 by omega, show (((((mnI py qy) - 20) / 64) - 1) + ((n : Nat) : Int)) * 64 + 64 = ((((((mnI py qy) - 20) / 64) - 1) + ((n : Nat) : Int)) + 1) * 64 by omega]; exact h12d)
                exact absurd ((hno (((((mnI px qx) - 20) / 64) - 1) + ((m : Nat) : Int)) (((((mnI py qy) - 20) / 64) - 1) + ((n : Nat) : Int)) hpt).symm.trans hat2) (by decide)
              · have h12d := bsT h12
                have g'16 := (jn @h12 (jn @h12d g'15))
                refine runTf g'16 ?_
                refine hJ1 _ _ ⟨k1 - 1, by omega, _, _, _, ⟨m + 1, by omega, rfl, rfl⟩, Abs.byG hbel [] rfl [0, 1, 2] (by decide) ?_⟩
                exact absWf (jn @Int.natCast_add (jn @Int.natCast_one @Int.add_assoc))
          · have h3d := bsT h3
            have hat2 : atI W Hh xs (((((mnI px qx) - 20) / 64) - 1) + ((m : Nat) : Int)) (((((mnI py qy) - 20) / 64) - 1) + ((n : Nat) : Int)) = 2 := if_neg (by rw [Bool.not_eq_true, inB_false]; omega)
            have g'17 := (jn @h3 (jn @h3d g'3))
            refine runTf g'17 ?_
            have hlr : lnR ((((((mnI px qx) - 20) / 64) - 1) + ((m : Nat) : Int)) * 64) ((((((mnI py qy) - 20) / 64) - 1) + ((n : Nat) : Int)) * 64) (((((((mnI px qx) - 20) / 64) - 1) + ((m : Nat) : Int)) + 1) * 64) (((((((mnI py qy) - 20) / 64) - 1) + ((n : Nat) : Int)) + 1) * 64) = true := lnR_iff.2 (by omega)
            refine call_v (by kernel_rfl) (touch_c _ px py qx qy ((((((mnI px qx) - 20) / 64) - 1) + ((m : Nat) : Int)) * 64) ((((((mnI py qy) - 20) / 64) - 1) + ((n : Nat) : Int)) * 64) (((((((mnI px qx) - 20) / 64) - 1) + ((m : Nat) : Int)) + 1) * 64) (((((((mnI py qy) - 20) / 64) - 1) + ((n : Nat) : Int)) + 1) * 64) (by assumption) (by assumption) (by assumption) (by omega) (by omega)) ?_
            refine runTf g'17 ?_
            refine cond_split (fun h13 => ?_) (fun h13 => ?_)
            · have h13d := bsT h13
              have hpt : TouP px py qx qy ((((((mnI px qx) - 20) / 64) - 1) + ((m : Nat) : Int)) * 64) ((((((mnI py qy) - 20) / 64) - 1) + ((n : Nat) : Int)) * 64) := pt_tou (by rw [show (((((mnI px qx) - 20) / 64) - 1) + ((m : Nat) : Int)) * 64 + 64 = ((((((mnI px qx) - 20) / 64) - 1) + ((m : Nat) : Int)) + 1) * 64 by omega, show (((((mnI py qy) - 20) / 64) - 1) + ((n : Nat) : Int)) * 64 + 64 = ((((((mnI py qy) - 20) / 64) - 1) + ((n : Nat) : Int)) + 1) * 64 by omega]; exact h13d)
              exact absurd ((hno (((((mnI px qx) - 20) / 64) - 1) + ((m : Nat) : Int)) (((((mnI py qy) - 20) / 64) - 1) + ((n : Nat) : Int)) hpt).symm.trans hat2) (by decide)
            · have h13d := bsT h13
              have g'18 := (jn @h13 (jn @h13d g'17))
              refine runTf g'18 ?_
              refine hJ1 _ _ ⟨k1 - 1, by omega, _, _, _, ⟨m + 1, by omega, rfl, rfl⟩, Abs.byG hbel [] rfl [0, 1, 2] (by decide) ?_⟩
              exact absWf (jn @Int.natCast_add (jn @Int.natCast_one @Int.add_assoc))
        · have h2d := bsT h2
          have g'19 := (jn @h2 (jn @h2d g'2))
          refine runTf g'19 ?_
          refine hJ0 _ _ ⟨k0 - 1, by omega, _, _, _, ⟨n + 1, by omega, rfl, rfl⟩, Abs.byG hbel [] rfl [0, 1, 2] (by decide) ?_⟩
          exact absWf (jn @Int.natCast_add (jn @Int.natCast_one @Int.add_assoc))
    · have h1d := bsT h1
      have g'20 := (jn @h1 (jn @h1d g'1))
      refine runTf g'20 ?_
      exact hQ _ _ (end_plain (.inl rfl) hbel (x := .bool false) (resT Tryz.results120) rfl ⟨rfl, rfl⟩)
theorem dstep_c (H : AHeap) (W : Int) (Hh : Int) (pp : AV) (xs : List Int) (ax : Int) (ay : Int) (ah : Int) (t : Int) (f : Int) (eT : Int) (eL : Int) (eX : Int) (eY : Int) (hpp : Sl H 1 pp xs.length (ints .u8 xs)) (hBl : bldB W Hh xs = true) (hnz : ∀ v ∈ xs, 1 ≤ v ∧ v ≤ 2) (hP : poseB ax ay ah = true) (hnoS : ∀ cx cy : Int, 0 < f → nxE ax ay ah t f eT eL eX eY = 0 → TouP ax ay (nxX ax ay ah t f eT eL eX eY) (nxY ax ay ah t f eT eL eX eY) (cx * 64) (cy * 64) → atI W Hh xs cx cy = 1) : ACalls Tryz.prog 43 [.agg [.int .i64 W, .int .i64 Hh, pp], .agg [.int .i64 ax, .int .i64 ay, .int .i64 ah], .agg [.int .i64 t, .int .i64 f], .agg [.int .i64 eT, .int .i64 eL, .int .i64 eX, .int .i64 eY]] H (fun v H' => v = .tup [.agg [.int .i64 (nxX ax ay ah t f eT eL eX eY), .int .i64 (nxY ax ay ah t f eT eL eX eY), .int .i64 (nxH ax ay ah t f eT eL eX eY)], .bool false, .int .i64 (nxE ax ay ah t f eT eL eX eY)] ∧ H' = H) := by
  obtain ⟨bpp, opp, cpp, rfl, hbpp⟩ := hpp
  have hblpp := getElem?_lt hbpp
  have hb0pp := fun l => get_app (l := l) hbpp
  have hV : vldB W Hh xs = true := by have hh := hBl; unfold bldB at hh; rw [Bool.and_eq_true] at hh; exact hh.1
  have hVV := vld_iff.1 hV
  have hw0 := hVV.w0
  have hw1 := hVV.w1
  have hh0 := hVV.h0
  have hh1 := hVV.h1
  have hx0 : 0 < xs.length := by have := (hVV.idx (show inB W Hh 0 0 = true from inB_iff.2 (by omega))).2.2.2.2.1; omega
  refine AcT true Tryz.func43 ?_; intro hbel Q hQ
  have g'21 := (jn @hbpp (jn @hb0pp @hV))
  refine runTf g'21 ?_
  refine call_v (by kernel_rfl) (valid_a _ W Hh _ xs (.inr ⟨_, _, _, rfl, by first | exact hb0pp _ | exact hbpp⟩)) ?_
  refine runTf g'21 ?_
  refine call_v (by kernel_rfl) (pcount0_c _ W Hh _ xs ⟨_, _, _, rfl, by first | exact hb0pp _ | exact hbpp⟩ hBl hnz) ?_
  refine runTf g'21 ?_
  refine call_v (by kernel_rfl) (dnext_c _ ax ay ah t f eT eL eX eY) ?_
  refine runTf g'21 ?_
  refine cond_split (fun h1 => ?_) (fun h1 => ?_)
  · have h1d := bsT h1
    have h1n := bnT h1
    have hne : ¬ nxE ax ay ah t f eT eL eX eY = 0 := by first | exact h1d | simpa using h1d
    obtain ⟨hfinA, hfinB, hfinC⟩ := nx_err rfl hne
    have g'22 := (jn @h1 (jn @h1n (jn @int_bne (jn @int_beq g'21))))
    refine runTf g'22 ?_
    exact hQ _ _ (end_plain (.inl rfl) hbel (x := .tup [.agg [.int .i64 0, .int .i64 0, .int .i64 0], .bool false, .int .i64 (nxE ax ay ah t f eT eL eX eY)]) (resT Tryz.results43) rfl ⟨by first | rfl | (rw [hfinA, hfinB, hfinC]; done) | (rw [hfinE]; done) | (rw [hfinE]; rfl), rfl⟩)
  · have h1d := bsT h1
    have h1n := bnT h1
    have hne : nxE ax ay ah t f eT eL eX eY = 0 := by first | exact h1d | simpa using h1d
    have hfinE := hne
    have hpn := poseB_iff.1 (nx_pose hne hP)
    have hpp := poseB_iff.1 hP
    have hpp0 := hpp.1
    have hpn0 := hpn.1
    have hwd := nx_dist hne
    have g'23 := (jn @h1 (jn @h1n (jn @int_bne (jn @int_beq g'21))))
    refine runTf g'23 ?_
    refine gd_split (fun h2 => ?_) (fun h2 => ?_)
    · have h2d := bsT h2
      have hnoB := fun cx cy => hnoS cx cy h2d hne
      have g'24 := (jn @h2 (jn @h2d g'23))
      refine runTf g'24 ?_
      refine call_d (by kernel_rfl) (dplace_c _ ax ay ah) ?_
      refine runTf g'24 ?_
      refine call_d (by kernel_rfl) (dplace_c _ (nxX ax ay ah t f eT eL eX eY) (nxY ax ay ah t f eT eL eX eY) (nxH ax ay ah t f eT eL eX eY)) ?_
      refine runTf g'24 ?_
      refine call_d (by kernel_rfl) (dblk_c _ W Hh _ xs ax ay (nxX ax ay ah t f eT eL eX eY) (nxY ax ay ah t f eT eL eX eY) ⟨_, _, _, rfl, by first | exact hb0pp _ | exact hbpp⟩ hBl hnz (by assumption) (by assumption) (by omega) (by omega) hnoB) ?_
      refine runTf g'24 ?_
      exact hQ _ _ (end_plain (.inl rfl) hbel (x := .tup [.agg [.int .i64 (nxX ax ay ah t f eT eL eX eY), .int .i64 (nxY ax ay ah t f eT eL eX eY), .int .i64 (nxH ax ay ah t f eT eL eX eY)], .bool false, .int .i64 0]) (resT Tryz.results43) rfl ⟨by first | rfl | (rw [hfinA, hfinB, hfinC]; done) | (rw [hfinE]; done) | (rw [hfinE]; rfl), rfl⟩)
    · have h2d := bsT h2
      have g'25 := (jn @h2 (jn @h2d g'23))
      refine runTf g'25 ?_
      exact hQ _ _ (end_plain (.inl rfl) hbel (x := .tup [.agg [.int .i64 (nxX ax ay ah t f eT eL eX eY), .int .i64 (nxY ax ay ah t f eT eL eX eY), .int .i64 (nxH ax ay ah t f eT eL eX eY)], .bool false, .int .i64 0]) (resT Tryz.results43) rfl ⟨by first | rfl | (rw [hfinA, hfinB, hfinC]; done) | (rw [hfinE]; done) | (rw [hfinE]; rfl), rfl⟩)
open Go.RowKit
theorem hhas_c (H : AHeap) (f : Int) (c : Int) (h : Int) : ACalls Tryz.prog 179 [.agg [.int .i64 f, .int .i64 c], .int .i64 h] H (fun v H' => v = .bool (hsgB f c h) ∧ H' = H) := by
  refine AcT true Tryz.func179 ?_; intro hbel Q hQ
  refine runT ?_
  refine call_d (by kernel_rfl) (varc_c _ f c) ?_
  refine runT ?_
  refine gd_split (fun h1 => ?_) (fun h1 => ?_)
  · have h1d := bsT h1
    have g'1 := (jn @h1 @h1d)
    refine runTf g'1 ?_
    refine call_d (by kernel_rfl) (mark_c _ (IntKind.i64.wrap (h - f))) ?_
    refine runTf g'1 ?_
    exact hQ _ _ (end_plain (.inl rfl) hbel (x := .bool (decide (((((IntKind.i64.wrap (h - f)) % 256).toNat : Nat) : Int) < c))) (resT Tryz.results179) rfl ⟨by first | (simp [hsgB, h1d]; done) | (unfold hsgB; simp [h1d]; done), rfl⟩)
  · have h1d := bsT h1
    have g'2 := (jn @h1 @h1d)
    refine runTf g'2 ?_
    exact hQ _ _ (end_plain (.inl rfl) hbel (x := .bool false) (resT Tryz.results179) rfl ⟨by first | (simp [hsgB, h1d]; done) | (unfold hsgB; simp [h1d]; done), rfl⟩)
theorem bhas_c (H : AHeap) (x0 : Int) (y0 : Int) (x1 : Int) (y1 : Int) (f : Int) (c : Int) (px : Int) (py : Int) (ph : Int) : ACalls Tryz.prog 94 [.agg [.int .i64 x0, .int .i64 y0, .int .i64 x1, .int .i64 y1, .int .i64 f, .int .i64 c], .agg [.int .i64 px, .int .i64 py, .int .i64 ph]] H (fun v H' => v = .bool (hbB px py ph (x0, y0, x1, y1, f, c)) ∧ H' = H) := by
  refine AcT true Tryz.func94 ?_; intro hbel Q hQ
  refine runT ?_
  refine call_d (by kernel_rfl) (bxv_c _ x0 y0 x1 y1 f c) ?_
  refine runT ?_
  refine gd_split (fun h1 => ?_) (fun h1 => ?_)
  · have h1d := bsT h1
    have g'3 := (jn @h1 @h1d)
    refine runTf g'3 ?_
    refine gd_split (fun h2 => ?_) (fun h2 => ?_)
    · have h2d := bsT h2
      have g'4 := (jn @h2 (jn @h2d g'3))
      refine runTf g'4 ?_
      refine gd_split (fun h3 => ?_) (fun h3 => ?_)
      · have h3d := bsT h3
        have g'5 := (jn @h3 (jn @h3d g'4))
        refine runTf g'5 ?_
        refine gd_split (fun h4 => ?_) (fun h4 => ?_)
        · have h4d := bsT h4
          have g'6 := (jn @h4 (jn @h4d g'5))
          refine runTf g'6 ?_
          refine gd_split (fun h5 => ?_) (fun h5 => ?_)
          · have h5d := bsT h5
            have g'7 := (jn @h5 (jn @h5d g'6))
            refine runTf g'7 ?_
            refine call_d (by kernel_rfl) (xarc_c _ x0 y0 x1 y1 f c) ?_
            refine runTf g'7 ?_
            refine call_d (by kernel_rfl) (hhas_c _ f c ph) ?_
            refine runTf g'7 ?_
            exact hQ _ _ (end_plain (.inl rfl) hbel (x := .bool (hsgB f c ph)) (resT Tryz.results94) rfl ⟨by first | (simp [hbB, h1d, h2d, h3d, h4d, h5d]; done) | (unfold hbB; simp [h1d, h2d, h3d, h4d, h5d]; done) | (unfold hbB; simp [h1d, h2d, h3d, h4d, h5d]; omega), rfl⟩)
          · have h5d := bsT h5
            have g'8 := (jn @h5 (jn @h5d g'6))
            refine runTf g'8 ?_
            exact hQ _ _ (end_plain (.inl rfl) hbel (x := .bool false) (resT Tryz.results94) rfl ⟨by first | (simp [hbB, h1d, h2d, h3d, h4d, h5d]; done) | (unfold hbB; simp [h1d, h2d, h3d, h4d, h5d]; done) | (unfold hbB; simp [h1d, h2d, h3d, h4d, h5d]; omega), rfl⟩)
        · have h4d := bsT h4
          have g'9 := (jn @h4 (jn @h4d g'5))
          refine runTf g'9 ?_
          exact hQ _ _ (end_plain (.inl rfl) hbel (x := .bool false) (resT Tryz.results94) rfl ⟨by first | (simp [hbB, h1d, h2d, h3d, h4d]; done) | (unfold hbB; simp [h1d, h2d, h3d, h4d]; done) | (unfold hbB; simp [h1d, h2d, h3d, h4d]; omega), rfl⟩)
      · have h3d := bsT h3
        have g'10 := (jn @h3 (jn @h3d g'4))
        refine runTf g'10 ?_
        exact hQ _ _ (end_plain (.inl rfl) hbel (x := .bool false) (resT Tryz.results94) rfl ⟨by first | (simp [hbB, h1d, h2d, h3d]; done) | (unfold hbB; simp [h1d, h2d, h3d]; done) | (unfold hbB; simp [h1d, h2d, h3d]; omega), rfl⟩)
    · have h2d := bsT h2
      have g'11 := (jn @h2 (jn @h2d g'3))
      refine runTf g'11 ?_
      exact hQ _ _ (end_plain (.inl rfl) hbel (x := .bool false) (resT Tryz.results94) rfl ⟨by first | (simp [hbB, h1d, h2d]; done) | (unfold hbB; simp [h1d, h2d]; done) | (unfold hbB; simp [h1d, h2d]; omega), rfl⟩)
  · have h1d := bsT h1
    have g'12 := (jn @h1 @h1d)
    refine runTf g'12 ?_
    exact hQ _ _ (end_plain (.inl rfl) hbel (x := .bool false) (resT Tryz.results94) rfl ⟨by first | (simp [hbB, h1d]; done) | (unfold hbB; simp [h1d]; done) | (unfold hbB; simp [h1d]; omega), rfl⟩)
theorem bcov1_c (H : AHeap) (x0 : Int) (y0 : Int) (x1 : Int) (y1 : Int) (f : Int) (c : Int) (px : Int) (py : Int) (ph : Int) (bz : Nat) (hz : ∃ o, H[bz]? = some (.cells o 0 [.int .i64 px, .int .i64 py, .int .i64 ph])) : ACalls Tryz.prog 93 [.agg [.int .i64 x0, .int .i64 y0, .int .i64 x1, .int .i64 y1, .int .i64 f, .int .i64 c], .ptr (some (bz, 0))] H (fun v H' => v = .bool (hbB px py ph (x0, y0, x1, y1, f, c)) ∧ H' = H) := by
  obtain ⟨oz, hbz⟩ := hz
  have hblz := getElem?_lt hbz
  have hb0z := fun l => get_app (l := l) hbz
  refine AcT true Tryz.func93 ?_; intro hbel Q hQ
  have g'13 := (jn @hbz @hb0z)
  refine runTf g'13 ?_
  refine call_v (by kernel_rfl) (bhas_c _ x0 y0 x1 y1 f c px py ph) ?_
  refine runTf g'13 ?_
  exact hQ _ _ (end_plain (.inl rfl) hbel (x := .bool (hbB px py ph (x0, y0, x1, y1, f, c))) (resT Tryz.results93) rfl ⟨rfl, rfl⟩)
theorem bcov_c (H : AHeap) (s : AV) (l : List T6) (px : Int) (py : Int) (ph : Int) (hs : Sl H 6 s l.length (r6 l)) (hl : l.length ≤ 1000000000) : ACalls Tryz.prog 29 [s, .agg [.int .i64 px, .int .i64 py, .int .i64 ph]] H (fun v H' => v = .bool (covB l px py ph) ∧ H' = H) := by
  obtain ⟨bs, os, cs, rfl, hbs⟩ := hs
  have hbls := getElem?_lt hbs
  have hb0s := fun l => get_app (l := l) hbs
  refine AcT true Tryz.func29 ?_; intro hbel Q hQ
  have g'14 := (jn @hbs @hb0s)
  refine runTf g'14 ?_
  refine call_v (by kernel_rfl) (has_box _ _ l ⟨_, _, _, rfl, by first | exact hb0s _ | exact hbs⟩ (by omega) _ [.ptr (some (H.length, 0))] (by kernel_rfl) (by simp [AV.bels, AV.bel]) (hbB px py ph) (fun j hj => bcov1_c _ _ _ _ _ _ _ px py ph _ ⟨_, by first | (rw [get_newk]; rfl) | (rw [get_new0]; rfl)⟩)) ?_
  refine runTf g'14 ?_
  exact hQ _ _ (end_plain (.inl rfl) hbel (x := .bool (l.any (hbB px py ph))) (resT Tryz.results29) rfl ⟨rfl, rfl⟩)
theorem nar_c (H : AHeap) (s : AV) (l : List T6) (hs : Sl H 6 s l.length (r6 l)) (hl : l.length ≤ 9223372036854775807) : ACalls Tryz.prog 35 [s] H (fun v H' => v = .bool (narB l) ∧ H' = H) := by
  obtain ⟨bs, os, cs, rfl, hbs⟩ := hs
  have hbls := getElem?_lt hbs
  have hb0s := fun l => get_app (l := l) hbs
  refine AcT true Tryz.func35 ?_; intro hbel Q hQ
  have g'15 := (jn @hbs @hb0s)
  refine runTf g'15 ?_
  refine go_loop try_mixed (by kernel_rfl) (fun k F Hx => ∃ i : Nat, i + k = l.length ∧ (∀ j : Nat, j < i → ¬ 6 < g66 l j) ∧ F = [(0, .sl (some (bs, 0)) l.length cs), (3, .int .i64 ((i : Nat) : Int))] ∧ H = Hx) (l.length) ?_ ?_
  · refine ⟨_, _, _, ⟨0, by omega, (fun j h => by omega), rfl, rfl⟩, Abs.by0 hbel ?_⟩
    exact absW
  · rintro k0 F Hx ⟨i, hm0, hal, rfl, rfl⟩ J0 hJ0
    refine runTf g'15 ?_
    refine cond_split (fun h1 => ?_) (fun h1 => ?_)
    · have h1d := bsT h1
      have hlt : i < l.length := by omega
      have q2 := r6_at5 (l := l) (j := i) (by omega)
      have g'16 := (jn @h1 (jn @h1d (jn @r6_len (jn @q2 g'15))))
      refine runTf g'16 ?_
      refine cond_split (fun h3 => ?_) (fun h3 => ?_)
      · have h3d := bsT h3
        have hfinN := nar_f hlt h3d
        have g'17 := (jn @h3 (jn @h3d g'16))
        refine runTf g'17 ?_
        exact hQ _ _ (end_plain0 (.inl rfl) hbel (x := .bool false) (resT Tryz.results35) rfl ⟨by first | (rw [hfinN]; done) | (rw [hfinN]; rfl), rfl⟩)
      · have h3d := bsT h3
        have hn6 := h3d
        have g'18 := (jn @h3 (jn @h3d g'16))
        refine runTf g'18 ?_
        refine hJ0 _ _ ⟨k0 - 1, by omega, _, _, _, ⟨i + 1, by omega, fun j hj => by
                    rcases Nat.lt_or_ge j i with h | h
                    · exact hal j h
                    · rw [show j = i by omega]; omega, rfl, rfl⟩, Abs.by0 hbel ?_⟩
        exact absW
    · have h1d := bsT h1
      obtain rfl : i = l.length := by omega
      have hfinN := nar_e hal
      have g'19 := (jn @h1 (jn @h1d g'15))
      refine runTf g'19 ?_
      exact hQ _ _ (end_plain0 (.inl rfl) hbel (x := .bool (decide (((l.length : Nat) : Int) ≤ 3))) (resT Tryz.results35) rfl ⟨by first | (rw [hfinN]; done) | (rw [hfinN]; rfl), rfl⟩)
theorem below_c (H : AHeap) (W : Int) (Hh : Int) (kk : AV) (ks : List Int) (W2 : Int) (Hh2 : Int) (pp : AV) (xs : List Int) (hkk : Sl H 1 kk ks.length (ints .u8 ks)) (hpp : Sl H 1 pp xs.length (ints .u8 xs)) (hVk : vldB W Hh ks = true) (hVx : vldB W2 Hh2 xs = true) (he1 : W = W2) (he2 : Hh = Hh2) (hbe : BelP ks xs) : ACalls Tryz.prog 33 [.agg [.int .i64 W, .int .i64 Hh, kk], .agg [.int .i64 W2, .int .i64 Hh2, pp]] H (fun v H' => v = .bool true ∧ H' = H) := by
  obtain ⟨bkk, okk, ckk, rfl, hbkk⟩ := hkk
  have hblkk := getElem?_lt hbkk
  have hb0kk := fun l => get_app (l := l) hbkk
  obtain ⟨bpp, opp, cpp, rfl, hbpp⟩ := hpp
  have hblpp := getElem?_lt hbpp
  have hb0pp := fun l => get_app (l := l) hbpp
  have hba : (W != W2) = false := by rw [he1]; simp
  have hbb : (Hh != Hh2) = false := by rw [he2]; simp
  have hlk := hbe.1
  have hVV := vld_iff.1 hVk
  have hx6 : ks.length ≤ 1000000 := by have h4 := hVV.len; have := Int.mul_le_mul hVV.w1 hVV.h1 (by have := hVV.h0; omega) (by decide); omega
  refine AcT true Tryz.func33 ?_; intro hbel Q hQ
  have g'20 := (jn @hbkk (jn @hb0kk (jn @hbpp (jn @hb0pp (jn @hVk (jn @hVx (jn @hba @hbb)))))))
  refine runTf g'20 ?_
  refine call_v (by kernel_rfl) (valid_a _ W Hh _ ks (.inr ⟨_, _, _, rfl, by first | exact hb0kk _ | exact hbkk⟩)) ?_
  refine runTf g'20 ?_
  refine call_v (by kernel_rfl) (valid_a _ W2 Hh2 _ xs (.inr ⟨_, _, _, rfl, by first | exact hb0pp _ | exact hbpp⟩)) ?_
  refine runTf g'20 ?_
  refine go_loop try_mixed (by kernel_rfl) (fun k F Hx => ∃ i : Nat, i + k = ks.length ∧ F = [(3, .ptr (some (H.length, 0))), (30, .sl (some (bkk, 0)) ks.length ckk), (31, .int .i64 ((ks.length : Nat) : Int)), (32, .int .i64 ((i : Nat) : Int))] ∧ Hx = H ++ [.cells true 0 [.int .i64 W2, .int .i64 Hh2, .sl (some (bpp, 0)) xs.length cpp]]) (ks.length) ?_ ?_
  · refine ⟨_, _, _, ⟨0, by omega, rfl, rfl⟩, Abs.byG hbel [] rfl [1] (by decide) ?_⟩
    exact absW
  · rintro k0 F Hx ⟨i, hm0, rfl, rfl⟩ J0 hJ0
    refine runTf g'20 ?_
    refine cond_split (fun h1 => ?_) (fun h1 => ?_)
    · have h1d := bsT h1
      have hlt : i < ks.length := by omega
      have q2 := ints_get (k := .u8) (xs := ks) (j := i) (by omega)
      have g'21 := (jn @h1 (jn @h1d (jn @q2 g'20)))
      refine runTf g'21 ?_
      refine gd_split (fun h3 => ?_) (fun h3 => ?_)
      · have h3d := bsT h3
        have h3n := bnT h3
        have hne : ¬ gi ks i = 0 := by first | exact h3d | simpa using h3d
        have q4 := ints_get (k := .u8) (xs := xs) (j := i) (by omega)
        have g'22 := (jn @h3 (jn @h3n (jn @int_bne (jn @int_beq (jn @q4 g'21)))))
        refine runTf g'22 ?_
        refine cond_split (fun h5 => ?_) (fun h5 => ?_)
        · have h5d := bsT h5
          have h5n := bnT h5
          exact absurd ((hbe.2 i).resolve_left hne).symm (by first | exact h5d | simpa using h5d)
        · have h5d := bsT h5
          have h5n := bnT h5
          have g'23 := (jn @h5 (jn @h5n g'22))
          refine runTf g'23 ?_
          refine hJ0 _ _ ⟨k0 - 1, by omega, _, _, _, ⟨i + 1, by omega, rfl, rfl⟩, Abs.byG hbel [] rfl [0] (by decide) ?_⟩
          exact absW
      · have h3d := bsT h3
        have h3n := bnT h3
        have g'24 := (jn @h3 (jn @h3n (jn @int_bne (jn @int_beq g'21))))
        refine runTf g'24 ?_
        refine hJ0 _ _ ⟨k0 - 1, by omega, _, _, _, ⟨i + 1, by omega, rfl, rfl⟩, Abs.byG hbel [] rfl [0] (by decide) ?_⟩
        exact absW
    · have h1d := bsT h1
      have g'25 := (jn @h1 (jn @h1d g'20))
      refine runTf g'25 ?_
      exact hQ _ _ (end_plain (.inl rfl) hbel (x := .bool true) (resT Tryz.results33) rfl ⟨rfl, rfl⟩)
open Go.RowKit
/-- A bit of what is hidden. -/
def vlC (vl : List Int) (i : Nat) : Bool := (IntKind.u8.wrap ((BitVec.ofInt IntKind.u8.bits (Int.fdiv (gi vl (i / 8)) (2 ^ (min (i % 8) 8))) &&& BitVec.ofInt IntKind.u8.bits 1).toNat : Nat)) != 0
def vlK (xs vl : List Int) : Nat → List Int
  | 0 => xs
  | i + 1 => if (decide (((i : Nat) : Int) < IntKind.i64.wrap (8 * ((vl.length : Nat) : Int))) && vlC vl i) = true then (vlK xs vl i).set i 0 else vlK xs vl i
/-- What is left of the plan. -/
def vlP (xs vl : List Int) : List Int := vlK xs vl xs.length
theorem vlK_bel (xs vl : List Int) : ∀ i : Nat, i ≤ xs.length → BelP (vlK xs vl i) xs
  | 0, _ => ⟨rfl, fun i => .inr rfl⟩
  | i + 1, hi => by
    have ih := vlK_bel xs vl i (by omega)
    unfold vlK
    split
    · refine ⟨by rw [List.length_set]; exact ih.1, fun j => ?_⟩
      rw [gi_setL (by rw [ih.1]; omega)]
      split
      · exact .inl rfl
      · exact ih.2 j
    · exact ih
theorem vlP_bel (xs vl : List Int) : BelP (vlP xs vl) xs := vlK_bel xs vl _ (Nat.le_refl _)
theorem vl_idx {vl : List Int} {i : Nat} (h : ((i : Nat) : Int) < IntKind.i64.wrap (8 * ((vl.length : Nat) : Int))) (hi : i < 64) : i / 8 < vl.length := by
  rcases Nat.lt_or_ge vl.length 8 with k | k
  · rw [wrap_in (by omega) (by omega)] at h; omega
  · omega
theorem vlK_o {xs vl : List Int} {n : Nat} (h : ¬ ((n : Nat) : Int) < IntKind.i64.wrap (8 * ((vl.length : Nat) : Int))) : vlK xs vl (n + 1) = vlK xs vl n := if_neg (by rw [decide_eq_false h]; simp)
theorem vlK_out {xs vl : List Int} {i : Nat} (h : ¬ ((i : Nat) : Int) < IntKind.i64.wrap (8 * ((vl.length : Nat) : Int))) : ∀ {j : Nat}, vlK xs vl (i + j) = vlK xs vl i
  | 0 => rfl
  | j + 1 => (vlK_o (n := i + j) (by omega)).trans (vlK_out h)
theorem vlK_t {xs vl : List Int} {i : Nat} (h : ((i : Nat) : Int) < IntKind.i64.wrap (8 * ((vl.length : Nat) : Int))) (k : vlC vl i = true) : vlK xs vl (i + 1) = (vlK xs vl i).set i 0 := if_pos (by rw [decide_eq_true h, k]; rfl)
theorem vlK_f {xs vl : List Int} {i : Nat} (k : vlC vl i = false) : vlK xs vl (i + 1) = vlK xs vl i := if_neg (by rw [k]; simp)
theorem rem_nat8 (a : Nat) : Int.tmod (a : Int) 8 = ((a % 8 : Nat) : Int) := rfl
theorem quo_nat8' (a : Nat) : Int.tdiv (a : Int) 8 = ((a / 8 : Nat) : Int) := rfl
open Go.RowKit
section
variable {W Hh : Int} {xs : List Int} {sc : List (Int × Int)}
end
set_option linter.unusedSimpArgs false
set_option linter.unusedVariables false
open Go.RowKit
open Go.RowKit
open Go.RowKit
theorem ints_all {k : IntKind} {l : List Int} : (ints k l).take l.length = ints k l ∧ (ints k l).take (l.length * 1) = ints k l := ⟨List.take_of_length_le (by rw [ints_len]; omega), List.take_of_length_le (by rw [ints_len]; omega)⟩
section
variable {W Hh : Int} {xs : List Int} {l : List T6} {sc : List (Int × Int)} {g : Int}
end
set_option linter.unusedSimpArgs false
set_option linter.unusedVariables false
open Go.RowKit
set_option maxHeartbeats 4000000
set_option maxRecDepth 100000
theorem veil_c (H : AHeap) (W : Int) (Hh : Int) (pp : AV) (xs : List Int) (v : AV) (vls : List Int) (hpp : Sl H 1 pp xs.length (ints .u8 xs)) (hv : Sl H 1 v vls.length (ints .u8 vls)) (hx0 : 0 < xs.length) (hx6 : xs.length ≤ 64) (hv6 : vls.length ≤ 9223372036854775807) : ACalls Tryz.prog 30 [.agg [.int .i64 W, .int .i64 Hh, pp], v] H (fun v H' => v = .agg [.int .i64 W, .int .i64 Hh, .sl (some (H.length, 0)) ((vlP xs vls).length) none] ∧ H' = H ++ [.cells true 1 (ints .u8 (vlP xs vls))]) := by
  obtain ⟨bpp, opp, cpp, rfl, hbpp⟩ := hpp
  have hblpp := getElem?_lt hbpp
  have hb0pp := fun l => get_app (l := l) hbpp
  obtain ⟨bv, ov, cv, rfl, hbv⟩ := hv
  have hblv := getElem?_lt hbv
  have hb0v := fun l => get_app (l := l) hbv
  have hsfz : (xs.length == 0) = false := beq_eq_false_iff_ne.2 (by omega)
  have hsfd : decide (0 < xs.length) = true := decide_eq_true hx0
  (refine ACalls_pieces Tryz.func30 _ rfl (Nat.le_of_ble_eq_true (by kernel_rfl)) rfl ?_; intro hbel Q hQ hQ' c hc; unfold Tryz.f30 at hc; simp only [Option.some.injEq] at hc; subst hc; clear hQ')
  refine AW_step false try_mixed (by kernel_rfl) (fun F Hx => look F 1 = .sl (some (bv, 0)) vls.length cv ∧ look F 2 = .ptr (some (H.length, 0)) ∧ look F 4 = .ptr (some (H.length + 1, 0)) ∧ Hx = H ++ [.cells true 0 [.int .i64 W, .int .i64 Hh, .sl (some (bpp, 0)) xs.length cpp], .cells true 0 [.int .i64 0, .int .i64 0, .sl none 0 (some 0)]]) ?_ ?_
  · skip
    have g'1 := (jn @hbpp (jn @hb0pp (jn @hbv (jn @hb0v (jn @rem_nat8 (jn @quo_nat8' (jn @hsfz @hsfd)))))))
    refine runTf g'1 ?_
    refine inv_of ?_
    exact absT
  rintro F Hx ⟨f1, f2, f3, rfl⟩
  refine AW_special false try_mixed [[0, 1, 2, 3, 4, 5, 6, 7, 8, 9, 10], [0, 1, 2, 3, 4, 5, 6, 9, 7, 8, 10], [0, 1, 2, 3, 5, 6, 9, 4, 7, 8, 10]] (by kernel_rfl) (fun F2 H2 => F2 = [(1, .sl (some (bv, 0)) vls.length cv), (4, .ptr (some (H.length, 0))), (5, .ptr (some (H.length + 2, 0)))] ∧ H2 = H ++ [.cells true 0 [.int .i64 0, .int .i64 0, .sl none 0 (some 0)], .cells true 1 (ints .u8 xs), .cells true 0 [.int .i64 W, .int .i64 Hh, .sl (some (H.length + 1, 0)) xs.length none]]) ?_ ?_
  · refine reps_cons ?_ (reps_cons ?_ (reps_cons ?_ (reps_nil))) <;> intro J hJ
    · skip
      have g'2 := (jn @hbpp (jn @hb0pp (jn @hbv (jn @hb0v (jn @f1 (jn @f2 (jn @f3 (jn @ints_len (jn @ints_ones (jn @ints_all (jn @rem_nat8 (jn @quo_nat8' (jn @hsfz @hsfd)))))))))))))
      refine runDf g'2 ?_
      refine inv_of (hJ _ _ ⟨_, _, _, ⟨rfl, rfl⟩, Abs.byG hbel [] rfl [1, 3, 4] (by decide) ?_⟩)
      exact absRf (jn @f1 (jn @f2 @f3))
    · skip
      have g'3 := (jn @hbpp (jn @hb0pp (jn @hbv (jn @hb0v (jn @f1 (jn @f2 (jn @f3 (jn @ints_len (jn @ints_ones (jn @ints_all (jn @rem_nat8 (jn @quo_nat8' (jn @hsfz @hsfd)))))))))))))
      refine runDf g'3 ?_
      refine inv_of (hJ _ _ ⟨_, _, _, ⟨rfl, rfl⟩, Abs.byG hbel [] rfl [1, 4, 3] (by decide) ?_⟩)
      exact absRf (jn @f1 (jn @f2 @f3))
    · skip
      have g'4 := (jn @hbpp (jn @hb0pp (jn @hbv (jn @hb0v (jn @f1 (jn @f2 (jn @f3 (jn @ints_len (jn @ints_ones (jn @ints_all (jn @rem_nat8 (jn @quo_nat8' (jn @hsfz @hsfd)))))))))))))
      refine runDf g'4 ?_
      refine inv_of (hJ _ _ ⟨_, _, _, ⟨rfl, rfl⟩, Abs.byG hbel [] rfl [1, 4, 2] (by decide) ?_⟩)
      exact absRf (jn @f1 (jn @f2 @f3))
  rintro F2 H2 ⟨rfl, rfl⟩
  refine AW_fin false try_mixed (by kernel_rfl) ?_
  have g'5 := (jn @hbpp (jn @hb0pp (jn @hbv (jn @hb0v (jn @ints_len (jn @ints_ones (jn @rem_nat8 (jn @quo_nat8' (jn @hsfz @hsfd)))))))))
  refine runTf g'5 ?_
  refine go_loop try_mixed (by kernel_rfl) (fun k F Hx => ∃ i : Nat, i + k = xs.length ∧ F = [(1, .sl (some (bv, 0)) vls.length cv), (4, .ptr (some (H.length, 0))), (5, .ptr (some (H.length + 2, 0))), (6, .int .i64 ((i : Nat) : Int))] ∧ Hx = H ++ [.cells true 0 [.int .i64 0, .int .i64 0, .sl none 0 (some 0)], .cells true 1 (ints .u8 (vlK xs vls i)), .cells true 0 [.int .i64 W, .int .i64 Hh, .sl (some (H.length + 1, 0)) ((vlK xs vls i).length) none]]) (xs.length) ?_ ?_
  · refine ⟨_, _, _, ⟨0, by omega, rfl, rfl⟩, Abs.byG hbel [] rfl [0, 1, 2] (by decide) ?_⟩
    exact absRf @vlK.eq_1
  · rintro k0 F Hx ⟨i, hm0, rfl, rfl⟩ J0 hJ0
    have hvl := (vlK_bel xs vls i (by omega)).1
    refine runTf g'5 ?_
    refine gd_split (fun h4 => ?_) (fun h4 => ?_)
    · have h4d := bsT h4
      have hlt : i < xs.length := by omega
      have g'6 := (jn @h4 (jn @h4d g'5))
      refine runTf g'6 ?_
      refine cond_split (fun h5 => ?_) (fun h5 => ?_)
      · have h5d := bsT h5
        have hb8 := h5d
        have hi8 := vl_idx hb8 (by omega)
        have q6 := ints_get (k := .u8) (xs := vls) (j := i / 8) (by omega)
        have g'7 := (jn @h5 (jn @h5d (jn @q6 g'6)))
        refine runTf g'7 ?_
        refine cond_split (fun h7 => ?_) (fun h7 => ?_)
        · have h7d := bsT h7
          have h7n := bnT h7
          have hst := vlK_t (xs := xs) hb8 (show vlC vls i = true from h7)
          have g'8 := (jn @h7 (jn @h7n (jn @int_bne (jn @int_beq (jn @ints_set1 (jn @List.length_set.{0} g'7))))))
          refine runTf g'8 ?_
          refine hJ0 _ _ ⟨k0 - 1, by omega, _, _, _, ⟨i + 1, by omega, rfl, rfl⟩, Abs.byG hbel [] rfl [0, 1, 2] (by decide) ?_⟩
          exact absRf (jn @hst @List.length_set.{0})
        · have h7d := bsT h7
          have h7n := bnT h7
          have hst := vlK_f (xs := xs) (show vlC vls i = false from h7)
          have g'9 := (jn @h7 (jn @h7n (jn @int_bne (jn @int_beq g'7))))
          refine runTf g'9 ?_
          refine hJ0 _ _ ⟨k0 - 1, by omega, _, _, _, ⟨i + 1, by omega, rfl, rfl⟩, Abs.byG hbel [] rfl [0, 1, 2] (by decide) ?_⟩
          exact absRf (jn @hst @List.length_set.{0})
      · have h5d := bsT h5
        have hfinV : vlP xs vls = vlK xs vls i := by
          have q := vlK_out (xs := xs) (j := xs.length - i) h5d
          rwa [show i + (xs.length - i) = xs.length by omega] at q
        have g'10 := (jn @h5 (jn @h5d g'6))
        refine runTf g'10 ?_
        refine hQ _ _ (end_byG (.inl rfl) hbel (x1 := .agg [.int .i64 W, .int .i64 Hh, .sl (some (H.length + 1, 0)) ((vlK xs vls i).length) none]) (l2 := [.cells true 1 (ints .u8 (vlK xs vls i))]) (.agg [.int .i64 W, .int .i64 Hh, .sl (some (H.length, 0)) ((vlK xs vls i).length) none]) (resT Tryz.results30) [] rfl [1] (by decide) ⟨by first | (rw [hfinV]; done) | (rw [hfinV]; rfl), by first | (rw [hfinV]; done) | (rw [hfinV]; rfl)⟩ ?_)
        exact absW
    · have h4d := bsT h4
      have hfinV : vlP xs vls = vlK xs vls i := by unfold vlP; rw [show i = xs.length by omega]
      have g'11 := (jn @h4 (jn @h4d g'5))
      refine runTf g'11 ?_
      refine hQ _ _ (end_byG (.inl rfl) hbel (x1 := .agg [.int .i64 W, .int .i64 Hh, .sl (some (H.length + 1, 0)) ((vlK xs vls i).length) none]) (l2 := [.cells true 1 (ints .u8 (vlK xs vls i))]) (.agg [.int .i64 W, .int .i64 Hh, .sl (some (H.length, 0)) ((vlK xs vls i).length) none]) (resT Tryz.results30) [] rfl [1] (by decide) ⟨by first | (rw [hfinV]; done) | (rw [hfinV]; rfl), by first | (rw [hfinV]; done) | (rw [hfinV]; rfl)⟩ ?_)
      exact absW
open Go.RowKit
theorem lws_c (H : AHeap) (W : Int) (Hh : Int) (pp : AV) (xs : List Int) (tu : Int) (le : Int) (sl : Int) (ra : Int) (ax : Int) (ay : Int) (ah : Int) (s : AV) (l : List T6) (v : AV) (vls : List Int) (t : Int) (f : Int) (eT : Int) (eL : Int) (eX : Int) (eY : Int) (mk : AV) (mks : List Int) (er : AV) (ers : List Int) (hpp : Sl H 1 pp xs.length (ints .u8 xs)) (hs : Sl H 6 s l.length (r6 l)) (hv : Sl H 1 v vls.length (ints .u8 vls)) (hmk : Sl H 1 mk mks.length (ints .i64 mks)) (her : Sl H 1 er ers.length (ints .i64 ers)) (hp0 : ∀ z ∈ xs, 0 ≤ z) (hvl : vls.length ≤ 9223372036854775807) (hll : l.length ≤ 9223372036854775807) : ACalls Tryz.prog 6 [.agg [.int .i64 W, .int .i64 Hh, pp, .int .i64 tu, .int .i64 le, .int .i64 sl, .int .i64 ra, .int .i64 ax, .int .i64 ay, .int .i64 ah], .agg [s, v], .agg [.int .i64 t, .int .i64 f, .int .i64 eT, .int .i64 eL, .int .i64 eX, .int .i64 eY, mk, er]] H (fun v H' => v = .bool true ∧ H' = H) := by
  obtain ⟨bpp, opp, cpp, rfl, hbpp⟩ := hpp
  have hblpp := getElem?_lt hbpp
  have hb0pp := fun l => get_app (l := l) hbpp
  obtain ⟨bs, os, cs, rfl, hbs⟩ := hs
  have hbls := getElem?_lt hbs
  have hb0s := fun l => get_app (l := l) hbs
  obtain ⟨bv, ov, cv, rfl, hbv⟩ := hv
  have hblv := getElem?_lt hbv
  have hb0v := fun l => get_app (l := l) hbv
  obtain ⟨bmk, omk, cmk, rfl, hbmk⟩ := hmk
  have hblmk := getElem?_lt hbmk
  have hb0mk := fun l => get_app (l := l) hbmk
  obtain ⟨ber, oer, cer, rfl, hber⟩ := her
  have hbler := getElem?_lt hber
  have hb0er := fun l => get_app (l := l) hber
  (refine ACalls_pieces Tryz.func6 _ rfl (Nat.le_of_ble_eq_true (by kernel_rfl)) rfl ?_; intro hbel Q hQ hQ' c hc; unfold Tryz.f6 at hc; simp only [Option.some.injEq] at hc; subst hc; clear hQ')
  refine AW_seqQ fun Q1 hn1 hr1 he1 => ?_
  have hQ1 := fun F H' h => hr1 F H' (hQ F H' h)
  refine AW_fin false try_mixed (by kernel_rfl) ?_
  have g'1 := (jn @hbpp (jn @hb0pp (jn @hbs (jn @hb0s (jn @hbv (jn @hb0v (jn @hbmk (jn @hb0mk (jn @hber @hb0er)))))))))
  refine runTf g'1 ?_
  refine hn1 _ _ ?_
  refine AW_seqQ fun Q2 hn2 hr2 he2 => ?_
  have hQ2 := fun F H' h => hr2 F H' (hQ F H' h)
  refine AW_fin false try_mixed (by kernel_rfl) ?_
  refine runTf g'1 ?_
  refine call_v (by kernel_rfl) (sawk_c _) ?_
  refine runTf g'1 ?_
  refine gd_split (fun h1 => ?_) (fun h1 => ?_)
  · have h1d := bsT h1
    have hl64 : xs.length ≤ 64 := by omega
    have g'2 := (jn @h1 (jn @h1d g'1))
    refine runTf g'2 ?_
    refine call_v (by kernel_rfl) (nar_c _ _ l ⟨_, _, _, rfl, by first | exact hb0s _ | exact hbs⟩ (by omega)) ?_
    refine runTf g'2 ?_
    refine cond_split (fun h2 => ?_) (fun h2 => ?_)
    · have h2d := bsT h2
      have g'3 := (jn @h2 (jn @h2d g'2))
      refine runTf g'3 ?_
      refine call_v (by kernel_rfl) (sawk_c _) ?_
      refine runTf g'3 ?_
      exact hQ2 _ _ (end_plain (.inl rfl) hbel (x := .bool true) (resT Tryz.results6) rfl ⟨by first | rfl | simp, rfl⟩)
    · have h2d := bsT h2
      have hl3 := narB_len h2d
      have g'4 := (jn @h2 (jn @h2d g'2))
      refine runTf g'4 ?_
      refine hn2 _ _ ?_
      refine AW_seqQ fun Q3 hn3 hr3 he3 => ?_
      have hQ3 := fun F H' h => hr3 F H' (hQ F H' h)
      refine AW_fin false try_mixed (by kernel_rfl) ?_
      refine runTf g'4 ?_
      refine call_v (by kernel_rfl) (bld_c _ W Hh _ xs ⟨_, _, _, rfl, by first | exact hb0pp _ | exact hbpp⟩) ?_
      refine runTf g'4 ?_
      refine gd_split (fun h3 => ?_) (fun h3 => ?_)
      · have h3d := bsT h3
        have hBl := h3d
        have hV : vldB W Hh xs = true := by have hh := hBl; unfold bldB at hh; rw [Bool.and_eq_true] at hh; exact hh.1
        have hVV := vld_iff.1 hV
        have hw0 := hVV.w0
        have hh0 := hVV.h0
        have hnz := bld_nz hBl hp0
        have hx0 : 0 < xs.length := by have := (hVV.idx (show inB W Hh 0 0 = true from inB_iff.2 (by omega))).2.2.2.2.1; omega
        have hblp := vlP_bel xs vls
        have hVk := bel_vld hblp hV
        have hkl := hblp.1
        have g'5 := (jn @h3 (jn @h3d g'4))
        refine runTf g'5 ?_
        refine call_v (by kernel_rfl) (bbnd_c _ tu le sl ra) ?_
        refine runTf g'5 ?_
        refine gd_split (fun h4 => ?_) (fun h4 => ?_)
        · have h4d := bsT h4
          have hb := h4d
          have hbi := hb
          simp only [bndB, Bool.and_eq_true, btw_iff] at hbi
          have g'6 := (jn @h4 (jn @h4d g'5))
          refine runTf g'6 ?_
          refine call_v (by kernel_rfl) (bset_c _ _ l ⟨_, _, _, rfl, by first | exact hb0s _ | exact hbs⟩ (by omega)) ?_
          refine runTf g'6 ?_
          refine gd_split (fun h5 => ?_) (fun h5 => ?_)
          · have h5d := bsT h5
            have hS := h5d
            have g'7 := (jn @h5 (jn @h5d g'6))
            refine runTf g'7 ?_
            refine cond_split (fun h6 => ?_) (fun h6 => ?_)
            · have h6d := bsT h6
              have h6n := bnT h6
              have g'8 := (jn @h6 (jn @h6n (jn @int_bne (jn @int_beq g'7))))
              refine runTf g'8 ?_
              exact hQ3 _ _ (end_plain (.inl rfl) hbel (x := .bool true) (resT Tryz.results6) rfl ⟨by first | rfl | simp, rfl⟩)
            · have h6d := bsT h6
              have h6n := bnT h6
              have g'9 := (jn @h6 (jn @h6n (jn @int_bne (jn @int_beq g'7))))
              refine runTf g'9 ?_
              refine hn3 _ _ ?_
              refine AW_seqQ fun Q4 hn4 hr4 he4 => ?_
              have hQ4 := fun F H' h => hr4 F H' (hQ F H' h)
              refine AW_fin false try_mixed (by kernel_rfl) ?_
              refine runTf g'9 ?_
              refine call_v (by kernel_rfl) (veil_c _ W Hh _ xs _ vls ⟨_, _, _, rfl, by first | exact hb0pp _ | exact hbpp⟩ ⟨_, _, _, rfl, by first | exact hb0v _ | exact hbv⟩ hx0 (by omega) (by omega)) ?_
              refine runTf g'9 ?_
              refine hn4 _ _ ?_
              refine AW_special false try_mixed [[0, 1, 2, 3, 4, 5, 6, 7, 8, 9, 10, 11, 12], [0, 1, 2, 3, 4, 5, 6, 7, 8, 11, 9, 10, 12], [0, 1, 2, 3, 5, 6, 7, 8, 11, 4, 9, 10, 12]] (by kernel_rfl) (fun F2 H2 => F2 = [(3, .ptr (some (H.length, 0))), (4, .ptr (some (H.length + 1, 0))), (5, .ptr (some (H.length + 2, 0))), (6, .bool false), (7, .ptr (some (H.length + 4, 0))), (8, .ptr (some (H.length + 5, 0)))] ∧ H2 = H ++ [.cells true 0 [.int .i64 W, .int .i64 Hh, .sl (some (bpp, 0)) xs.length cpp, .int .i64 tu, .int .i64 le, .int .i64 sl, .int .i64 ra, .int .i64 ax, .int .i64 ay, .int .i64 ah], .cells true 0 [.sl (some (bs, 0)) l.length cs, .sl (some (bv, 0)) vls.length cv], .cells true 0 [.int .i64 t, .int .i64 f, .int .i64 eT, .int .i64 eL, .int .i64 eX, .int .i64 eY, .sl (some (bmk, 0)) mks.length cmk, .sl (some (ber, 0)) ers.length cer], .cells true 1 (ints .u8 (vlP xs vls)), .cells true 0 [.int .i64 W, .int .i64 Hh, .sl (some (H.length + 3, 0)) ((vlP xs vls).length) none], .cells true 0 [.int .i64 (clgI (IntKind.i64.wrap (eX * 50)) (-5000) 5000), .int .i64 (clgI (IntKind.i64.wrap (eY * 50)) (-5000) 5000)]]) ?_ ?_
              · refine reps_cons ?_ (reps_cons ?_ (reps_cons ?_ (reps_nil))) <;> intro J hJ
                · skip
                  refine runDf g'9 ?_
                  refine call_d (by kernel_rfl) (bclipg_c _ (IntKind.i64.wrap (eX * 50)) (-5000) 5000) ?_
                  refine runDf g'9 ?_
                  refine call_d (by kernel_rfl) (bclipg_c _ (IntKind.i64.wrap (eY * 50)) (-5000) 5000) ?_
                  refine runDf g'9 ?_
                  refine inv_of (hJ _ _ ⟨_, _, _, ⟨rfl, rfl⟩, Abs.byG hbel [] rfl [0, 1, 2, 3, 4, 5] (by decide) ?_⟩)
                  exact absR
                · skip
                  refine runDf g'9 ?_
                  refine call_d (by kernel_rfl) (bclipg_c _ (IntKind.i64.wrap (eX * 50)) (-5000) 5000) ?_
                  refine runDf g'9 ?_
                  refine call_d (by kernel_rfl) (bclipg_c _ (IntKind.i64.wrap (eY * 50)) (-5000) 5000) ?_
                  refine runDf g'9 ?_
                  refine inv_of (hJ _ _ ⟨_, _, _, ⟨rfl, rfl⟩, Abs.byG hbel [] rfl [0, 1, 2, 3, 4, 5] (by decide) ?_⟩)
                  exact absR
                · skip
                  refine runDf g'9 ?_
                  refine call_d (by kernel_rfl) (bclipg_c _ (IntKind.i64.wrap (eX * 50)) (-5000) 5000) ?_
                  refine runDf g'9 ?_
                  refine call_d (by kernel_rfl) (bclipg_c _ (IntKind.i64.wrap (eY * 50)) (-5000) 5000) ?_
                  refine runDf g'9 ?_
                  refine inv_of (hJ _ _ ⟨_, _, _, ⟨rfl, rfl⟩, Abs.byG hbel [] rfl [0, 1, 2, 3, 4, 5] (by decide) ?_⟩)
                  exact absR
              rintro F2 H2 ⟨rfl, rfl⟩
              refine AW_seqQ fun Q5 hn5 hr5 he5 => ?_
              have hQ5 := fun F H' h => hr5 F H' (hQ F H' h)
              refine AW_fin false try_mixed (by kernel_rfl) ?_
              have g'10 := (jn @ints_len (jn @ints_ones g'9))
              refine runTf g'10 ?_
              refine call_v (by kernel_rfl) (cho_c _ W Hh _ (vlP xs vls) _ l (clgI (IntKind.i64.wrap (eX * 50)) (-5000) 5000) (clgI (IntKind.i64.wrap (eY * 50)) (-5000) 5000) tu le sl ra ⟨_, _, _, by first | rfl | (rw [List.length_append]; done) | (rw [List.length_append]; rfl), by first | rfl | (rw [get_newk]; rfl) | (rw [get_new0]; rfl) | (rw [get_newk, prs_append]; rfl) | (rw [get_new0, prs_append]; rfl)⟩ ⟨_, _, _, rfl, by first | exact hb0s _ | exact hbs⟩ (by omega)) ?_
              refine runTf g'10 ?_
              refine hn5 _ _ ?_
              refine AW_seqQ fun Q6 hn6 hr6 he6 => ?_
              have hQ6 := fun F H' h => hr6 F H' (hQ F H' h)
              refine AW_fin false try_mixed (by kernel_rfl) ?_
              refine runTf g'10 ?_
              refine cond_split (fun h7 => ?_) (fun h7 => ?_)
              · have h7d := bsT h7
                have h7n := bnT h7
                have hce : chE W Hh (vlP xs vls) l (clgI (IntKind.i64.wrap (eX * 50)) (-5000) 5000) (clgI (IntKind.i64.wrap (eY * 50)) (-5000) 5000) tu le sl ra = 0 := by first | exact h7d | simpa using h7d
                have hsafe := ch_safe hce
                have g'11 := (jn @h7 (jn @h7n g'10))
                refine runTf g'11 ?_
                refine call_v (by kernel_rfl) (safe_c _ W Hh _ (vlP xs vls) _ l (chT W Hh (vlP xs vls) l (clgI (IntKind.i64.wrap (eX * 50)) (-5000) 5000) (clgI (IntKind.i64.wrap (eY * 50)) (-5000) 5000) tu le sl ra) (chF W Hh (vlP xs vls) l (clgI (IntKind.i64.wrap (eX * 50)) (-5000) 5000) (clgI (IntKind.i64.wrap (eY * 50)) (-5000) 5000) tu le sl ra) tu le sl ra ⟨_, _, _, by first | rfl | (rw [List.length_append]; done) | (rw [List.length_append]; rfl), by first | rfl | (rw [get_newk]; rfl) | (rw [get_new0]; rfl) | (rw [get_newk, prs_append]; rfl) | (rw [get_new0, prs_append]; rfl)⟩ ⟨_, _, _, rfl, by first | exact hb0s _ | exact hbs⟩ (by omega)) ?_
                refine runTf g'11 ?_
                refine gd_split (fun h8 => ?_) (fun h8 => ?_)
                · have h8d := bsT h8
                  have h8n := bnT h8
                  have g'12 := (jn @h8 (jn @h8n g'11))
                  refine runTf g'12 ?_
                  refine cond_split (fun h9 => ?_) (fun h9 => ?_)
                  · have h9d := bsT h9
                    exact absurd hsafe.1 (by first | exact h9d | simpa using h9d)
                  · have h9d := bsT h9
                    have hs := h9d
                    have g'13 := (jn @h9 (jn @h9d g'12))
                    refine runTf g'13 ?_
                    refine hn6 _ _ ?_
                    refine AW_seqQ fun Q7 hn7 hr7 he7 => ?_
                    have hQ7 := fun F H' h => hr7 F H' (hQ F H' h)
                    refine AW_fin false try_mixed (by kernel_rfl) ?_
                    refine runTf g'13 ?_
                    refine hn7 _ _ ?_
                    refine AW_seqQ fun Q8 hn8 hr8 he8 => ?_
                    have hQ8 := fun F H' h => hr8 F H' (hQ F H' h)
                    refine AW_seqQ fun Q9 hn9 hr9 he9 => ?_
                    have hQ9 := fun F H' h => hr9 F H' (hQ8 F H' h)
                    refine AW_fin false try_mixed (by kernel_rfl) ?_
                    refine runTf g'13 ?_
                    refine hn9 _ _ ?_
                    refine AW_blockQ fun Q10 hn10 hr10 he10 hb10 => ?_
                    have hQ10 := fun F H' h => hr10 F H' (hQ8 F H' h)
                    refine AW_loopA (fun k F Hx => ∃ i : Nat, i + k = 2 ∧ F = [(3, .ptr (some (H.length, 0))), (4, .ptr (some (H.length + 1, 0))), (5, .ptr (some (H.length + 2, 0))), (7, .ptr (some (H.length + 4, 0))), (13, .sl (some (H.length + 5, 0)) 2 (some 2)), (14, .int .i64 ((i : Nat) : Int))] ∧ Hx = H ++ [.cells true 0 [.int .i64 W, .int .i64 Hh, .sl (some (bpp, 0)) xs.length cpp, .int .i64 tu, .int .i64 le, .int .i64 sl, .int .i64 ra, .int .i64 ax, .int .i64 ay, .int .i64 ah], .cells true 0 [.sl (some (bs, 0)) l.length cs, .sl (some (bv, 0)) vls.length cv], .cells true 0 [.int .i64 t, .int .i64 f, .int .i64 eT, .int .i64 eL, .int .i64 eX, .int .i64 eY, .sl (some (bmk, 0)) mks.length cmk, .sl (some (ber, 0)) ers.length cer], .cells true 1 (ints .u8 (vlP xs vls)), .cells true 0 [.int .i64 W, .int .i64 Hh, .sl (some (H.length + 3, 0)) ((vlP xs vls).length) none], .cells true 2 [.int .i64 t, .int .i64 f, .int .i64 (chT W Hh (vlP xs vls) l (clgI (IntKind.i64.wrap (eX * 50)) (-5000) 5000) (clgI (IntKind.i64.wrap (eY * 50)) (-5000) 5000) tu le sl ra), .int .i64 (chF W Hh (vlP xs vls) l (clgI (IntKind.i64.wrap (eX * 50)) (-5000) 5000) (clgI (IntKind.i64.wrap (eY * 50)) (-5000) 5000) tu le sl ra)]]) (2) ?_ ?_
                    · refine ⟨_, _, _, ⟨0, by omega, rfl, rfl⟩, Abs.byG hbel [] rfl [0, 1, 2, 3, 4, 7] (by decide) ?_⟩
                      exact absR
                    · rintro k0 F Hx ⟨i, hm0, rfl, rfl⟩ Q11 hJ0 hr11 he11
                      have hQ11 := fun F H' h => hr11 F H' (hQ10 F H' h)
                      refine AW_seqQ fun Q12 hn12 hr12 he12 => ?_
                      have hQ12 := fun F H' h => hr12 F H' (hQ11 F H' h)
                      refine AW_fin false try_mixed (by kernel_rfl) ?_
                      refine runTf g'13 ?_
                      refine cond_split (fun h10 => ?_) (fun h10 => ?_)
                      · have h10d := bsT h10
                        obtain rfl | rfl := (by omega : i = 0 ∨ i = 1)
                        · skip
                          have g'14 := (jn @h10 (jn @h10d g'13))
                          refine runTf g'14 ?_
                          refine hn12 _ _ ?_
                          refine AW_seqQ fun Q13 hn13 hr13 he13 => ?_
                          have hQ13 := fun F H' h => hr13 F H' (hQ11 F H' h)
                          refine AW_blockQ fun Q14 hn14 hr14 he14 hb14 => ?_
                          have hQ14 := fun F H' h => hr14 F H' (hQ13 F H' h)
                          refine AW_seqQ fun Q15 hn15 hr15 he15 => ?_
                          have hQ15 := fun F H' h => hr15 F H' (hQ14 F H' h)
                          refine AW_fin false try_mixed (by kernel_rfl) ?_
                          refine runTf g'14 ?_
                          refine call_d (by kernel_rfl) (safe_c _ W Hh _ (vlP xs vls) _ l t f tu le sl ra ⟨_, _, _, by first | rfl | (rw [List.length_append]; done) | (rw [List.length_append]; rfl), by first | rfl | (rw [get_newk]; rfl) | (rw [get_new0]; rfl) | (rw [get_newk, prs_append]; rfl) | (rw [get_new0, prs_append]; rfl)⟩ ⟨_, _, _, rfl, by first | exact hb0s _ | exact hbs⟩ (by omega)) ?_
                          refine runTf g'14 ?_
                          refine hn15 _ _ ?_
                          refine AW_seqQ fun Q16 hn16 hr16 he16 => ?_
                          have hQ16 := fun F H' h => hr16 F H' (hQ14 F H' h)
                          refine AW_fin false try_mixed (by kernel_rfl) ?_
                          refine runTf g'14 ?_
                          refine cond_split (fun h11 => ?_) (fun h11 => ?_)
                          · have h11d := bsT h11
                            have h11n := bnT h11
                            have hsn : ¬ saE W Hh (vlP xs vls) l t f tu le sl ra = 0 := by first | exact h11d | simpa using h11d
                            have g'15 := (jn @h11 (jn @h11n g'14))
                            refine runTf g'15 ?_
                            refine gd_split (fun h12 => ?_) (fun h12 => ?_)
                            · have h12d := bsT h12
                              have h12n := bnT h12
                              have g'16 := (jn @h12 (jn @h12n g'15))
                              refine runTf g'16 ?_
                              refine call_v (by kernel_rfl) (bcmd_c _ t f) ?_
                              refine runTf g'16 ?_
                              refine cond_split (fun h13 => ?_) (fun h13 => ?_)
                              · have h13d := bsT h13
                                exact absurd (saE_0 hVk hS h13d hb) hsn
                              · have h13d := bsT h13
                                have g'17 := (jn @h13 (jn @h13d g'16))
                                refine runTf g'17 ?_
                                refine he16 _ _ _ ?_
                                refine hb14 _ _ ?_
                                refine hn13 _ _ ?_
                                refine AW_fin false try_mixed (by kernel_rfl) ?_
                                refine runTf g'17 ?_
                                refine hJ0 _ _ ⟨k0 - 1, by omega, _, _, _, ⟨0 + 1, by omega, rfl, rfl⟩, Abs.byG hbel [] rfl [0, 1, 2, 3, 4, 5] (by decide) ?_⟩
                                exact absR
                            · have h12d := bsT h12
                              have h12n := bnT h12
                              exact absurd (saE_01 hsn) (by first | exact h12d | simpa using h12d)
                          · have h11d := bsT h11
                            have h11n := bnT h11
                            have g'18 := (jn @h11 (jn @h11n g'14))
                            refine runTf g'18 ?_
                            refine hn16 _ _ ?_
                            refine AW_seqQ fun Q17 hn17 hr17 he17 => ?_
                            have hQ17 := fun F H' h => hr17 F H' (hQ14 F H' h)
                            refine AW_fin false try_mixed (by kernel_rfl) ?_
                            refine runTf g'18 ?_
                            refine gd_split (fun h14 => ?_) (fun h14 => ?_)
                            · have h14d := bsT h14
                              have hs := h14d
                              have g'19 := (jn @h14 (jn @h14d g'18))
                              refine runTf g'19 ?_
                              refine call_v (by kernel_rfl) (bcov_c _ _ l ax ay ah ⟨_, _, _, rfl, by first | exact hb0s _ | exact hbs⟩ (by omega)) ?_
                              refine runTf g'19 ?_
                              refine gd_split (fun h15 => ?_) (fun h15 => ?_)
                              · have h15d := bsT h15
                                have hcov := h15d
                                have g'20 := (jn @h15 (jn @h15d g'19))
                                refine runTf g'20 ?_
                                refine call_v (by kernel_rfl) (bpose_c _ ax ay ah) ?_
                                refine runTf g'20 ?_
                                refine cond_split (fun h16 => ?_) (fun h16 => ?_)
                                · have h16d := bsT h16
                                  have g'21 := (jn @h16 (jn @h16d g'20))
                                  refine runTf g'21 ?_
                                  refine he17 _ _ _ ?_
                                  refine hb14 _ _ ?_
                                  refine hn13 _ _ ?_
                                  refine AW_fin false try_mixed (by kernel_rfl) ?_
                                  refine runTf g'21 ?_
                                  refine hJ0 _ _ ⟨k0 - 1, by omega, _, _, _, ⟨0 + 1, by omega, rfl, rfl⟩, Abs.byG hbel [] rfl [0, 1, 2, 3, 4, 5] (by decide) ?_⟩
                                  exact absR
                                · have h16d := bsT h16
                                  have hP := h16d
                                  have hnoS := wsafe_free hblp hs hcov hP hb (clgs_bd (n := eT) (k := tu) (by omega)) (clgs_bd (n := eL) (k := le) (by omega)) (clgs_bd (n := eX) (k := sl) (by omega)) (clgs_bd (n := eY) (k := sl) (by omega))
                                  have g'22 := (jn @h16 (jn @h16d g'20))
                                  refine runTf g'22 ?_
                                  refine hn17 _ _ ?_
                                  refine AW_seqQ fun Q18 hn18 hr18 he18 => ?_
                                  have hQ18 := fun F H' h => hr18 F H' (hQ14 F H' h)
                                  refine AW_fin false try_mixed (by kernel_rfl) ?_
                                  refine runTf g'22 ?_
                                  refine call_v (by kernel_rfl) (dclip_c _ tu le sl ra eT eL eX eY (by assumption)) ?_
                                  refine runTf g'22 ?_
                                  refine hn18 _ _ ?_
                                  refine AW_special false try_mixed [[0, 1, 2, 3, 4, 5, 6, 7, 8, 9, 10, 11, 12, 13, 14, 15, 16, 17], [0, 1, 2, 3, 4, 5, 6, 7, 8, 14, 9, 10, 11, 12, 13, 15, 16, 17]] (by kernel_rfl) (fun F2 H2 => F2 = [(3, .ptr (some (H.length, 0))), (4, .ptr (some (H.length + 1, 0))), (5, .ptr (some (H.length + 2, 0))), (7, .ptr (some (H.length + 4, 0))), (13, .sl (some (H.length + 5, 0)) 2 (some 2)), (14, .int .i64 0), (18, .int .i64 0), (19, .ptr (some (H.length + 6, 0))), (20, .bool false), (21, .int .i64 (nxE ax ay ah t f (clgI eT (0 - tu) tu) (clgI eL (0 - le) le) (clgI eX (0 - sl) sl) (clgI eY (0 - sl) sl)))] ∧ H2 = H ++ [.cells true 0 [.int .i64 W, .int .i64 Hh, .sl (some (bpp, 0)) xs.length cpp, .int .i64 tu, .int .i64 le, .int .i64 sl, .int .i64 ra, .int .i64 ax, .int .i64 ay, .int .i64 ah], .cells true 0 [.sl (some (bs, 0)) l.length cs, .sl (some (bv, 0)) vls.length cv], .cells true 0 [.int .i64 t, .int .i64 f, .int .i64 eT, .int .i64 eL, .int .i64 eX, .int .i64 eY, .sl (some (bmk, 0)) mks.length cmk, .sl (some (ber, 0)) ers.length cer], .cells true 1 (ints .u8 (vlP xs vls)), .cells true 0 [.int .i64 W, .int .i64 Hh, .sl (some (H.length + 3, 0)) ((vlP xs vls).length) none], .cells true 2 [.int .i64 t, .int .i64 f, .int .i64 (chT W Hh (vlP xs vls) l (clgI (IntKind.i64.wrap (eX * 50)) (-5000) 5000) (clgI (IntKind.i64.wrap (eY * 50)) (-5000) 5000) tu le sl ra), .int .i64 (chF W Hh (vlP xs vls) l (clgI (IntKind.i64.wrap (eX * 50)) (-5000) 5000) (clgI (IntKind.i64.wrap (eY * 50)) (-5000) 5000) tu le sl ra)], .cells true 0 [.int .i64 (nxX ax ay ah t f (clgI eT (0 - tu) tu) (clgI eL (0 - le) le) (clgI eX (0 - sl) sl) (clgI eY (0 - sl) sl)), .int .i64 (nxY ax ay ah t f (clgI eT (0 - tu) tu) (clgI eL (0 - le) le) (clgI eX (0 - sl) sl) (clgI eY (0 - sl) sl)), .int .i64 (nxH ax ay ah t f (clgI eT (0 - tu) tu) (clgI eL (0 - le) le) (clgI eX (0 - sl) sl) (clgI eY (0 - sl) sl))]]) ?_ ?_
                                  · refine reps_cons ?_ (reps_cons ?_ (reps_nil)) <;> intro J hJ
                                    · skip
                                      refine runDf g'22 ?_
                                      refine call_d (by kernel_rfl) (dstep_c _ W Hh _ xs ax ay ah t f (clgI eT (0 - tu) tu) (clgI eL (0 - le) le) (clgI eX (0 - sl) sl) (clgI eY (0 - sl) sl) ⟨_, _, _, rfl, by first | exact hb0pp _ | exact hbpp⟩ hBl hnz (by assumption) hnoS) ?_
                                      refine runDf g'22 ?_
                                      refine inv_of (hJ _ _ ⟨_, _, _, ⟨rfl, rfl⟩, Abs.byG hbel [] rfl [0, 1, 2, 3, 4, 5, 7] (by decide) ?_⟩)
                                      exact absR
                                    · skip
                                      refine runDf g'22 ?_
                                      refine call_d (by kernel_rfl) (dstep_c _ W Hh _ xs ax ay ah t f (clgI eT (0 - tu) tu) (clgI eL (0 - le) le) (clgI eX (0 - sl) sl) (clgI eY (0 - sl) sl) ⟨_, _, _, rfl, by first | exact hb0pp _ | exact hbpp⟩ hBl hnz (by assumption) hnoS) ?_
                                      refine runDf g'22 ?_
                                      refine inv_of (hJ _ _ ⟨_, _, _, ⟨rfl, rfl⟩, Abs.byG hbel [] rfl [0, 1, 2, 3, 4, 5, 7] (by decide) ?_⟩)
                                      exact absR
                                  rintro F2 H2 ⟨rfl, rfl⟩
                                  refine AW_fin false try_mixed (by kernel_rfl) ?_
                                  refine runTf g'22 ?_
                                  refine cond_split (fun h17 => ?_) (fun h17 => ?_)
                                  · have h17d := bsT h17
                                    have h17n := bnT h17
                                    have g'23 := (jn @h17 (jn @h17n g'22))
                                    refine runTf g'23 ?_
                                    refine hb14 _ _ ?_
                                    refine hn13 _ _ ?_
                                    refine AW_fin false try_mixed (by kernel_rfl) ?_
                                    refine runTf g'23 ?_
                                    refine hJ0 _ _ ⟨k0 - 1, by omega, _, _, _, ⟨0 + 1, by omega, rfl, rfl⟩, Abs.byG hbel [] rfl [0, 1, 2, 3, 4, 5] (by decide) ?_⟩
                                    exact absR
                                  · have h17d := bsT h17
                                    have h17n := bnT h17
                                    have hn2 : ¬ nxE ax ay ah t f (clgI eT (0 - tu) tu) (clgI eL (0 - le) le) (clgI eX (0 - sl) sl) (clgI eY (0 - sl) sl) = 2 := by first | exact h17d | simpa using h17d
                                    have hne := wsafe_nx hs hP hn2
                                    have g'24 := (jn @h17 (jn @h17n g'22))
                                    refine runTf g'24 ?_
                                    refine gd_split (fun h18 => ?_) (fun h18 => ?_)
                                    · have h18d := bsT h18
                                      have h18n := bnT h18
                                      have g'25 := (jn @h18 (jn @h18n g'24))
                                      refine runTf g'25 ?_
                                      refine gd_split (fun h19 => ?_) (fun h19 => ?_)
                                      · have h19d := bsT h19
                                        have hptn := (poseB_iff.1 (nx_pose hne hP)).1
                                        have hnoF := fun (cx cy : Int) (h1 : cx * 64 - 20 ≤ nxX ax ay ah t f (clgI eT (0 - tu) tu) (clgI eL (0 - le) le) (clgI eX (0 - sl) sl) (clgI eY (0 - sl) sl) ∧ nxX ax ay ah t f (clgI eT (0 - tu) tu) (clgI eL (0 - le) le) (clgI eX (0 - sl) sl) (clgI eY (0 - sl) sl) ≤ cx * 64 + 84) (h2 : cy * 64 - 20 ≤ nxY ax ay ah t f (clgI eT (0 - tu) tu) (clgI eL (0 - le) le) (clgI eX (0 - sl) sl) (clgI eY (0 - sl) sl) ∧ nxY ax ay ah t f (clgI eT (0 - tu) tu) (clgI eL (0 - le) le) (clgI eX (0 - sl) sl) (clgI eY (0 - sl) sl) ≤ cy * 64 + 84) => hnoS cx cy h19d hne (tou_end h1 h2)
                                        have g'26 := (jn @h19 (jn @h19d g'25))
                                        refine runTf g'26 ?_
                                        refine call_v (by kernel_rfl) (fits_c _ W Hh _ xs (nxX ax ay ah t f (clgI eT (0 - tu) tu) (clgI eL (0 - le) le) (clgI eX (0 - sl) sl) (clgI eY (0 - sl) sl)) (nxY ax ay ah t f (clgI eT (0 - tu) tu) (clgI eL (0 - le) le) (clgI eX (0 - sl) sl) (clgI eY (0 - sl) sl)) ⟨_, _, _, rfl, by first | exact hb0pp _ | exact hbpp⟩ hBl hnz (by assumption) hnoF) ?_
                                        refine runTf g'26 ?_
                                        refine hn14 _ _ ?_
                                        refine hn13 _ _ ?_
                                        refine AW_fin false try_mixed (by kernel_rfl) ?_
                                        refine runTf g'26 ?_
                                        refine hJ0 _ _ ⟨k0 - 1, by omega, _, _, _, ⟨0 + 1, by omega, rfl, rfl⟩, Abs.byG hbel [] rfl [0, 1, 2, 3, 4, 5] (by decide) ?_⟩
                                        exact absR
                                      · have h19d := bsT h19
                                        have g'27 := (jn @h19 (jn @h19d g'25))
                                        refine runTf g'27 ?_
                                        refine hn14 _ _ ?_
                                        refine hn13 _ _ ?_
                                        refine AW_fin false try_mixed (by kernel_rfl) ?_
                                        refine runTf g'27 ?_
                                        refine hJ0 _ _ ⟨k0 - 1, by omega, _, _, _, ⟨0 + 1, by omega, rfl, rfl⟩, Abs.byG hbel [] rfl [0, 1, 2, 3, 4, 5] (by decide) ?_⟩
                                        exact absR
                                    · have h18d := bsT h18
                                      have h18n := bnT h18
                                      exact absurd hne (by first | exact h18d | simpa using h18d)
                              · have h15d := bsT h15
                                have g'28 := (jn @h15 (jn @h15d g'19))
                                refine runTf g'28 ?_
                                refine he17 _ _ _ ?_
                                refine hb14 _ _ ?_
                                refine hn13 _ _ ?_
                                refine AW_fin false try_mixed (by kernel_rfl) ?_
                                refine runTf g'28 ?_
                                refine hJ0 _ _ ⟨k0 - 1, by omega, _, _, _, ⟨0 + 1, by omega, rfl, rfl⟩, Abs.byG hbel [] rfl [0, 1, 2, 3, 4, 5] (by decide) ?_⟩
                                exact absR
                            · have h14d := bsT h14
                              have g'29 := (jn @h14 (jn @h14d g'18))
                              refine runTf g'29 ?_
                              refine he17 _ _ _ ?_
                              refine hb14 _ _ ?_
                              refine hn13 _ _ ?_
                              refine AW_fin false try_mixed (by kernel_rfl) ?_
                              refine runTf g'29 ?_
                              refine hJ0 _ _ ⟨k0 - 1, by omega, _, _, _, ⟨0 + 1, by omega, rfl, rfl⟩, Abs.byG hbel [] rfl [0, 1, 2, 3, 4, 5] (by decide) ?_⟩
                              exact absR
                        · skip
                          have g'30 := (jn @h10 (jn @h10d g'13))
                          refine runTf g'30 ?_
                          refine hn12 _ _ ?_
                          refine AW_seqQ fun Q19 hn19 hr19 he19 => ?_
                          have hQ19 := fun F H' h => hr19 F H' (hQ11 F H' h)
                          refine AW_blockQ fun Q20 hn20 hr20 he20 hb20 => ?_
                          have hQ20 := fun F H' h => hr20 F H' (hQ19 F H' h)
                          refine AW_seqQ fun Q21 hn21 hr21 he21 => ?_
                          have hQ21 := fun F H' h => hr21 F H' (hQ20 F H' h)
                          refine AW_fin false try_mixed (by kernel_rfl) ?_
                          refine runTf g'30 ?_
                          refine call_d (by kernel_rfl) (safe_c _ W Hh _ (vlP xs vls) _ l (chT W Hh (vlP xs vls) l (clgI (IntKind.i64.wrap (eX * 50)) (-5000) 5000) (clgI (IntKind.i64.wrap (eY * 50)) (-5000) 5000) tu le sl ra) (chF W Hh (vlP xs vls) l (clgI (IntKind.i64.wrap (eX * 50)) (-5000) 5000) (clgI (IntKind.i64.wrap (eY * 50)) (-5000) 5000) tu le sl ra) tu le sl ra ⟨_, _, _, by first | rfl | (rw [List.length_append]; done) | (rw [List.length_append]; rfl), by first | rfl | (rw [get_newk]; rfl) | (rw [get_new0]; rfl) | (rw [get_newk, prs_append]; rfl) | (rw [get_new0, prs_append]; rfl)⟩ ⟨_, _, _, rfl, by first | exact hb0s _ | exact hbs⟩ (by omega)) ?_
                          refine runTf g'30 ?_
                          refine hn21 _ _ ?_
                          refine AW_seqQ fun Q22 hn22 hr22 he22 => ?_
                          have hQ22 := fun F H' h => hr22 F H' (hQ20 F H' h)
                          refine AW_fin false try_mixed (by kernel_rfl) ?_
                          refine runTf g'30 ?_
                          refine hn22 _ _ ?_
                          refine AW_seqQ fun Q23 hn23 hr23 he23 => ?_
                          have hQ23 := fun F H' h => hr23 F H' (hQ20 F H' h)
                          refine AW_fin false try_mixed (by kernel_rfl) ?_
                          refine runTf g'30 ?_
                          refine call_v (by kernel_rfl) (bcov_c _ _ l ax ay ah ⟨_, _, _, rfl, by first | exact hb0s _ | exact hbs⟩ (by omega)) ?_
                          refine runTf g'30 ?_
                          refine gd_split (fun h20 => ?_) (fun h20 => ?_)
                          · have h20d := bsT h20
                            have hcov := h20d
                            have g'31 := (jn @h20 (jn @h20d g'30))
                            refine runTf g'31 ?_
                            refine call_v (by kernel_rfl) (bpose_c _ ax ay ah) ?_
                            refine runTf g'31 ?_
                            refine cond_split (fun h21 => ?_) (fun h21 => ?_)
                            · have h21d := bsT h21
                              have g'32 := (jn @h21 (jn @h21d g'31))
                              refine runTf g'32 ?_
                              refine he23 _ _ _ ?_
                              refine hb20 _ _ ?_
                              refine hn19 _ _ ?_
                              refine AW_fin false try_mixed (by kernel_rfl) ?_
                              refine runTf g'32 ?_
                              refine hJ0 _ _ ⟨k0 - 1, by omega, _, _, _, ⟨1 + 1, by omega, rfl, rfl⟩, Abs.byG hbel [] rfl [0, 1, 2, 3, 4, 5] (by decide) ?_⟩
                              exact absR
                            · have h21d := bsT h21
                              have hP := h21d
                              have hnoS := wsafe_free hblp hs hcov hP hb (clgs_bd (n := eT) (k := tu) (by omega)) (clgs_bd (n := eL) (k := le) (by omega)) (clgs_bd (n := eX) (k := sl) (by omega)) (clgs_bd (n := eY) (k := sl) (by omega))
                              have g'33 := (jn @h21 (jn @h21d g'31))
                              refine runTf g'33 ?_
                              refine hn23 _ _ ?_
                              refine AW_seqQ fun Q24 hn24 hr24 he24 => ?_
                              have hQ24 := fun F H' h => hr24 F H' (hQ20 F H' h)
                              refine AW_fin false try_mixed (by kernel_rfl) ?_
                              refine runTf g'33 ?_
                              refine call_v (by kernel_rfl) (dclip_c _ tu le sl ra eT eL eX eY (by assumption)) ?_
                              refine runTf g'33 ?_
                              refine hn24 _ _ ?_
                              refine AW_special false try_mixed [[0, 1, 2, 3, 4, 5, 6, 7, 8, 9, 10, 11, 12, 13, 14, 15, 16, 17], [0, 1, 2, 3, 4, 5, 6, 7, 8, 14, 9, 10, 11, 12, 13, 15, 16, 17]] (by kernel_rfl) (fun F2 H2 => F2 = [(3, .ptr (some (H.length, 0))), (4, .ptr (some (H.length + 1, 0))), (5, .ptr (some (H.length + 2, 0))), (7, .ptr (some (H.length + 4, 0))), (13, .sl (some (H.length + 5, 0)) 2 (some 2)), (14, .int .i64 1), (18, .int .i64 0), (19, .ptr (some (H.length + 6, 0))), (20, .bool false), (21, .int .i64 (nxE ax ay ah (chT W Hh (vlP xs vls) l (clgI (IntKind.i64.wrap (eX * 50)) (-5000) 5000) (clgI (IntKind.i64.wrap (eY * 50)) (-5000) 5000) tu le sl ra) (chF W Hh (vlP xs vls) l (clgI (IntKind.i64.wrap (eX * 50)) (-5000) 5000) (clgI (IntKind.i64.wrap (eY * 50)) (-5000) 5000) tu le sl ra) (clgI eT (0 - tu) tu) (clgI eL (0 - le) le) (clgI eX (0 - sl) sl) (clgI eY (0 - sl) sl)))] ∧ H2 = H ++ [.cells true 0 [.int .i64 W, .int .i64 Hh, .sl (some (bpp, 0)) xs.length cpp, .int .i64 tu, .int .i64 le, .int .i64 sl, .int .i64 ra, .int .i64 ax, .int .i64 ay, .int .i64 ah], .cells true 0 [.sl (some (bs, 0)) l.length cs, .sl (some (bv, 0)) vls.length cv], .cells true 0 [.int .i64 t, .int .i64 f, .int .i64 eT, .int .i64 eL, .int .i64 eX, .int .i64 eY, .sl (some (bmk, 0)) mks.length cmk, .sl (some (ber, 0)) ers.length cer], .cells true 1 (ints .u8 (vlP xs vls)), .cells true 0 [.int .i64 W, .int .i64 Hh, .sl (some (H.length + 3, 0)) ((vlP xs vls).length) none], .cells true 2 [.int .i64 t, .int .i64 f, .int .i64 (chT W Hh (vlP xs vls) l (clgI (IntKind.i64.wrap (eX * 50)) (-5000) 5000) (clgI (IntKind.i64.wrap (eY * 50)) (-5000) 5000) tu le sl ra), .int .i64 (chF W Hh (vlP xs vls) l (clgI (IntKind.i64.wrap (eX * 50)) (-5000) 5000) (clgI (IntKind.i64.wrap (eY * 50)) (-5000) 5000) tu le sl ra)], .cells true 0 [.int .i64 (nxX ax ay ah (chT W Hh (vlP xs vls) l (clgI (IntKind.i64.wrap (eX * 50)) (-5000) 5000) (clgI (IntKind.i64.wrap (eY * 50)) (-5000) 5000) tu le sl ra) (chF W Hh (vlP xs vls) l (clgI (IntKind.i64.wrap (eX * 50)) (-5000) 5000) (clgI (IntKind.i64.wrap (eY * 50)) (-5000) 5000) tu le sl ra) (clgI eT (0 - tu) tu) (clgI eL (0 - le) le) (clgI eX (0 - sl) sl) (clgI eY (0 - sl) sl)), .int .i64 (nxY ax ay ah (chT W Hh (vlP xs vls) l (clgI (IntKind.i64.wrap (eX * 50)) (-5000) 5000) (clgI (IntKind.i64.wrap (eY * 50)) (-5000) 5000) tu le sl ra) (chF W Hh (vlP xs vls) l (clgI (IntKind.i64.wrap (eX * 50)) (-5000) 5000) (clgI (IntKind.i64.wrap (eY * 50)) (-5000) 5000) tu le sl ra) (clgI eT (0 - tu) tu) (clgI eL (0 - le) le) (clgI eX (0 - sl) sl) (clgI eY (0 - sl) sl)), .int .i64 (nxH ax ay ah (chT W Hh (vlP xs vls) l (clgI (IntKind.i64.wrap (eX * 50)) (-5000) 5000) (clgI (IntKind.i64.wrap (eY * 50)) (-5000) 5000) tu le sl ra) (chF W Hh (vlP xs vls) l (clgI (IntKind.i64.wrap (eX * 50)) (-5000) 5000) (clgI (IntKind.i64.wrap (eY * 50)) (-5000) 5000) tu le sl ra) (clgI eT (0 - tu) tu) (clgI eL (0 - le) le) (clgI eX (0 - sl) sl) (clgI eY (0 - sl) sl))]]) ?_ ?_
                              · refine reps_cons ?_ (reps_cons ?_ (reps_nil)) <;> intro J hJ
                                · skip
                                  refine runDf g'33 ?_
                                  refine call_d (by kernel_rfl) (dstep_c _ W Hh _ xs ax ay ah (chT W Hh (vlP xs vls) l (clgI (IntKind.i64.wrap (eX * 50)) (-5000) 5000) (clgI (IntKind.i64.wrap (eY * 50)) (-5000) 5000) tu le sl ra) (chF W Hh (vlP xs vls) l (clgI (IntKind.i64.wrap (eX * 50)) (-5000) 5000) (clgI (IntKind.i64.wrap (eY * 50)) (-5000) 5000) tu le sl ra) (clgI eT (0 - tu) tu) (clgI eL (0 - le) le) (clgI eX (0 - sl) sl) (clgI eY (0 - sl) sl) ⟨_, _, _, rfl, by first | exact hb0pp _ | exact hbpp⟩ hBl hnz (by assumption) hnoS) ?_
                                  refine runDf g'33 ?_
                                  refine inv_of (hJ _ _ ⟨_, _, _, ⟨rfl, rfl⟩, Abs.byG hbel [] rfl [0, 1, 2, 3, 4, 5, 7] (by decide) ?_⟩)
                                  exact absR
                                · skip
                                  refine runDf g'33 ?_
                                  refine call_d (by kernel_rfl) (dstep_c _ W Hh _ xs ax ay ah (chT W Hh (vlP xs vls) l (clgI (IntKind.i64.wrap (eX * 50)) (-5000) 5000) (clgI (IntKind.i64.wrap (eY * 50)) (-5000) 5000) tu le sl ra) (chF W Hh (vlP xs vls) l (clgI (IntKind.i64.wrap (eX * 50)) (-5000) 5000) (clgI (IntKind.i64.wrap (eY * 50)) (-5000) 5000) tu le sl ra) (clgI eT (0 - tu) tu) (clgI eL (0 - le) le) (clgI eX (0 - sl) sl) (clgI eY (0 - sl) sl) ⟨_, _, _, rfl, by first | exact hb0pp _ | exact hbpp⟩ hBl hnz (by assumption) hnoS) ?_
                                  refine runDf g'33 ?_
                                  refine inv_of (hJ _ _ ⟨_, _, _, ⟨rfl, rfl⟩, Abs.byG hbel [] rfl [0, 1, 2, 3, 4, 5, 7] (by decide) ?_⟩)
                                  exact absR
                              rintro F2 H2 ⟨rfl, rfl⟩
                              refine AW_fin false try_mixed (by kernel_rfl) ?_
                              refine runTf g'33 ?_
                              refine cond_split (fun h22 => ?_) (fun h22 => ?_)
                              · have h22d := bsT h22
                                have h22n := bnT h22
                                have g'34 := (jn @h22 (jn @h22n g'33))
                                refine runTf g'34 ?_
                                refine hb20 _ _ ?_
                                refine hn19 _ _ ?_
                                refine AW_fin false try_mixed (by kernel_rfl) ?_
                                refine runTf g'34 ?_
                                refine hJ0 _ _ ⟨k0 - 1, by omega, _, _, _, ⟨1 + 1, by omega, rfl, rfl⟩, Abs.byG hbel [] rfl [0, 1, 2, 3, 4, 5] (by decide) ?_⟩
                                exact absR
                              · have h22d := bsT h22
                                have h22n := bnT h22
                                have hn2 : ¬ nxE ax ay ah (chT W Hh (vlP xs vls) l (clgI (IntKind.i64.wrap (eX * 50)) (-5000) 5000) (clgI (IntKind.i64.wrap (eY * 50)) (-5000) 5000) tu le sl ra) (chF W Hh (vlP xs vls) l (clgI (IntKind.i64.wrap (eX * 50)) (-5000) 5000) (clgI (IntKind.i64.wrap (eY * 50)) (-5000) 5000) tu le sl ra) (clgI eT (0 - tu) tu) (clgI eL (0 - le) le) (clgI eX (0 - sl) sl) (clgI eY (0 - sl) sl) = 2 := by first | exact h22d | simpa using h22d
                                have hne := wsafe_nx hs hP hn2
                                have g'35 := (jn @h22 (jn @h22n g'33))
                                refine runTf g'35 ?_
                                refine gd_split (fun h23 => ?_) (fun h23 => ?_)
                                · have h23d := bsT h23
                                  have h23n := bnT h23
                                  have g'36 := (jn @h23 (jn @h23n g'35))
                                  refine runTf g'36 ?_
                                  refine gd_split (fun h24 => ?_) (fun h24 => ?_)
                                  · have h24d := bsT h24
                                    have hptn := (poseB_iff.1 (nx_pose hne hP)).1
                                    have hnoF := fun (cx cy : Int) (h1 : cx * 64 - 20 ≤ nxX ax ay ah (chT W Hh (vlP xs vls) l (clgI (IntKind.i64.wrap (eX * 50)) (-5000) 5000) (clgI (IntKind.i64.wrap (eY * 50)) (-5000) 5000) tu le sl ra) (chF W Hh (vlP xs vls) l (clgI (IntKind.i64.wrap (eX * 50)) (-5000) 5000) (clgI (IntKind.i64.wrap (eY * 50)) (-5000) 5000) tu le sl ra) (clgI eT (0 - tu) tu) (clgI eL (0 - le) le) (clgI eX (0 - sl) sl) (clgI eY (0 - sl) sl) ∧ nxX ax ay ah (chT W Hh (vlP xs vls) l (clgI (IntKind.i64.wrap (eX * 50)) (-5000) 5000) (clgI (IntKind.i64.wrap (eY * 50)) (-5000) 5000) tu le sl ra) (chF W Hh (vlP xs vls) l (clgI (IntKind.i64.wrap (eX * 50)) (-5000) 5000) (clgI (IntKind.i64.wrap (eY * 50)) (-5000) 5000) tu le sl ra) (clgI eT (0 - tu) tu) (clgI eL (0 - le) le) (clgI eX (0 - sl) sl) (clgI eY (0 - sl) sl) ≤ cx * 64 + 84) (h2 : cy * 64 - 20 ≤ nxY ax ay ah (chT W Hh (vlP xs vls) l (clgI (IntKind.i64.wrap (eX * 50)) (-5000) 5000) (clgI (IntKind.i64.wrap (eY * 50)) (-5000) 5000) tu le sl ra) (chF W Hh (vlP xs vls) l (clgI (IntKind.i64.wrap (eX * 50)) (-5000) 5000) (clgI (IntKind.i64.wrap (eY * 50)) (-5000) 5000) tu le sl ra) (clgI eT (0 - tu) tu) (clgI eL (0 - le) le) (clgI eX (0 - sl) sl) (clgI eY (0 - sl) sl) ∧ nxY ax ay ah (chT W Hh (vlP xs vls) l (clgI (IntKind.i64.wrap (eX * 50)) (-5000) 5000) (clgI (IntKind.i64.wrap (eY * 50)) (-5000) 5000) tu le sl ra) (chF W Hh (vlP xs vls) l (clgI (IntKind.i64.wrap (eX * 50)) (-5000) 5000) (clgI (IntKind.i64.wrap (eY * 50)) (-5000) 5000) tu le sl ra) (clgI eT (0 - tu) tu) (clgI eL (0 - le) le) (clgI eX (0 - sl) sl) (clgI eY (0 - sl) sl) ≤ cy * 64 + 84) => hnoS cx cy h24d hne (tou_end h1 h2)
                                    have g'37 := (jn @h24 (jn @h24d g'36))
                                    refine runTf g'37 ?_
                                    refine call_v (by kernel_rfl) (fits_c _ W Hh _ xs (nxX ax ay ah (chT W Hh (vlP xs vls) l (clgI (IntKind.i64.wrap (eX * 50)) (-5000) 5000) (clgI (IntKind.i64.wrap (eY * 50)) (-5000) 5000) tu le sl ra) (chF W Hh (vlP xs vls) l (clgI (IntKind.i64.wrap (eX * 50)) (-5000) 5000) (clgI (IntKind.i64.wrap (eY * 50)) (-5000) 5000) tu le sl ra) (clgI eT (0 - tu) tu) (clgI eL (0 - le) le) (clgI eX (0 - sl) sl) (clgI eY (0 - sl) sl)) (nxY ax ay ah (chT W Hh (vlP xs vls) l (clgI (IntKind.i64.wrap (eX * 50)) (-5000) 5000) (clgI (IntKind.i64.wrap (eY * 50)) (-5000) 5000) tu le sl ra) (chF W Hh (vlP xs vls) l (clgI (IntKind.i64.wrap (eX * 50)) (-5000) 5000) (clgI (IntKind.i64.wrap (eY * 50)) (-5000) 5000) tu le sl ra) (clgI eT (0 - tu) tu) (clgI eL (0 - le) le) (clgI eX (0 - sl) sl) (clgI eY (0 - sl) sl)) ⟨_, _, _, rfl, by first | exact hb0pp _ | exact hbpp⟩ hBl hnz (by assumption) hnoF) ?_
                                    refine runTf g'37 ?_
                                    refine hn20 _ _ ?_
                                    refine hn19 _ _ ?_
                                    refine AW_fin false try_mixed (by kernel_rfl) ?_
                                    refine runTf g'37 ?_
                                    refine hJ0 _ _ ⟨k0 - 1, by omega, _, _, _, ⟨1 + 1, by omega, rfl, rfl⟩, Abs.byG hbel [] rfl [0, 1, 2, 3, 4, 5] (by decide) ?_⟩
                                    exact absR
                                  · have h24d := bsT h24
                                    have g'38 := (jn @h24 (jn @h24d g'36))
                                    refine runTf g'38 ?_
                                    refine hn20 _ _ ?_
                                    refine hn19 _ _ ?_
                                    refine AW_fin false try_mixed (by kernel_rfl) ?_
                                    refine runTf g'38 ?_
                                    refine hJ0 _ _ ⟨k0 - 1, by omega, _, _, _, ⟨1 + 1, by omega, rfl, rfl⟩, Abs.byG hbel [] rfl [0, 1, 2, 3, 4, 5] (by decide) ?_⟩
                                    exact absR
                                · have h23d := bsT h23
                                  have h23n := bnT h23
                                  exact absurd hne (by first | exact h23d | simpa using h23d)
                          · have h20d := bsT h20
                            have g'39 := (jn @h20 (jn @h20d g'30))
                            refine runTf g'39 ?_
                            refine he23 _ _ _ ?_
                            refine hb20 _ _ ?_
                            refine hn19 _ _ ?_
                            refine AW_fin false try_mixed (by kernel_rfl) ?_
                            refine runTf g'39 ?_
                            refine hJ0 _ _ ⟨k0 - 1, by omega, _, _, _, ⟨1 + 1, by omega, rfl, rfl⟩, Abs.byG hbel [] rfl [0, 1, 2, 3, 4, 5] (by decide) ?_⟩
                            exact absR
                      · have h10d := bsT h10
                        have g'40 := (jn @h10 (jn @h10d g'13))
                        refine runTf g'40 ?_
                        refine he12 _ _ _ ?_
                        refine he11 _ _ _ ?_
                        refine hb10 _ _ ?_
                        refine hn8 _ _ ?_
                        refine AW_fin false try_mixed (by kernel_rfl) ?_
                        refine runTf g'40 ?_
                        refine call_v (by kernel_rfl) (below_c _ W Hh _ (vlP xs vls) W Hh _ xs ⟨_, _, _, by first | rfl | (rw [List.length_append]; done) | (rw [List.length_append]; rfl), by first | rfl | (rw [get_newk]; rfl) | (rw [get_new0]; rfl) | (rw [get_newk, prs_append]; rfl) | (rw [get_new0, prs_append]; rfl)⟩ ⟨_, _, _, rfl, by first | exact hb0pp _ | exact hbpp⟩ (by assumption) (by assumption) rfl rfl (by assumption)) ?_
                        refine runTf g'40 ?_
                        exact hQ _ _ (end_plain (.inl rfl) hbel (x := .bool true) (resT Tryz.results6) rfl ⟨by first | rfl | simp, rfl⟩)
                · have h8d := bsT h8
                  have h8n := bnT h8
                  exact absurd hsafe.2 (by first | exact h8d | simpa using h8d)
              · have h7d := bsT h7
                have h7n := bnT h7
                have g'41 := (jn @h7 (jn @h7n g'10))
                refine runTf g'41 ?_
                refine hn6 _ _ ?_
                refine AW_seqQ fun Q25 hn25 hr25 he25 => ?_
                have hQ25 := fun F H' h => hr25 F H' (hQ F H' h)
                refine AW_fin false try_mixed (by kernel_rfl) ?_
                refine runTf g'41 ?_
                refine hn25 _ _ ?_
                refine AW_seqQ fun Q26 hn26 hr26 he26 => ?_
                have hQ26 := fun F H' h => hr26 F H' (hQ F H' h)
                refine AW_seqQ fun Q27 hn27 hr27 he27 => ?_
                have hQ27 := fun F H' h => hr27 F H' (hQ26 F H' h)
                refine AW_fin false try_mixed (by kernel_rfl) ?_
                refine runTf g'41 ?_
                refine hn27 _ _ ?_
                refine AW_blockQ fun Q28 hn28 hr28 he28 hb28 => ?_
                have hQ28 := fun F H' h => hr28 F H' (hQ26 F H' h)
                refine AW_loopA (fun k F Hx => ∃ i : Nat, i + k = 2 ∧ F = [(3, .ptr (some (H.length, 0))), (4, .ptr (some (H.length + 1, 0))), (5, .ptr (some (H.length + 2, 0))), (7, .ptr (some (H.length + 4, 0))), (13, .sl (some (H.length + 5, 0)) 2 (some 2)), (14, .int .i64 ((i : Nat) : Int))] ∧ Hx = H ++ [.cells true 0 [.int .i64 W, .int .i64 Hh, .sl (some (bpp, 0)) xs.length cpp, .int .i64 tu, .int .i64 le, .int .i64 sl, .int .i64 ra, .int .i64 ax, .int .i64 ay, .int .i64 ah], .cells true 0 [.sl (some (bs, 0)) l.length cs, .sl (some (bv, 0)) vls.length cv], .cells true 0 [.int .i64 t, .int .i64 f, .int .i64 eT, .int .i64 eL, .int .i64 eX, .int .i64 eY, .sl (some (bmk, 0)) mks.length cmk, .sl (some (ber, 0)) ers.length cer], .cells true 1 (ints .u8 (vlP xs vls)), .cells true 0 [.int .i64 W, .int .i64 Hh, .sl (some (H.length + 3, 0)) ((vlP xs vls).length) none], .cells true 2 [.int .i64 t, .int .i64 f, .int .i64 (chT W Hh (vlP xs vls) l (clgI (IntKind.i64.wrap (eX * 50)) (-5000) 5000) (clgI (IntKind.i64.wrap (eY * 50)) (-5000) 5000) tu le sl ra), .int .i64 (chF W Hh (vlP xs vls) l (clgI (IntKind.i64.wrap (eX * 50)) (-5000) 5000) (clgI (IntKind.i64.wrap (eY * 50)) (-5000) 5000) tu le sl ra)]]) (2) ?_ ?_
                · refine ⟨_, _, _, ⟨0, by omega, rfl, rfl⟩, Abs.byG hbel [] rfl [0, 1, 2, 3, 4, 7] (by decide) ?_⟩
                  exact absR
                · rintro k0 F Hx ⟨i, hm0, rfl, rfl⟩ Q29 hJ0 hr29 he29
                  have hQ29 := fun F H' h => hr29 F H' (hQ28 F H' h)
                  refine AW_seqQ fun Q30 hn30 hr30 he30 => ?_
                  have hQ30 := fun F H' h => hr30 F H' (hQ29 F H' h)
                  refine AW_fin false try_mixed (by kernel_rfl) ?_
                  refine runTf g'41 ?_
                  refine cond_split (fun h25 => ?_) (fun h25 => ?_)
                  · have h25d := bsT h25
                    obtain rfl | rfl := (by omega : i = 0 ∨ i = 1)
                    · skip
                      have g'42 := (jn @h25 (jn @h25d g'41))
                      refine runTf g'42 ?_
                      refine hn30 _ _ ?_
                      refine AW_seqQ fun Q31 hn31 hr31 he31 => ?_
                      have hQ31 := fun F H' h => hr31 F H' (hQ29 F H' h)
                      refine AW_blockQ fun Q32 hn32 hr32 he32 hb32 => ?_
                      have hQ32 := fun F H' h => hr32 F H' (hQ31 F H' h)
                      refine AW_seqQ fun Q33 hn33 hr33 he33 => ?_
                      have hQ33 := fun F H' h => hr33 F H' (hQ32 F H' h)
                      refine AW_fin false try_mixed (by kernel_rfl) ?_
                      refine runTf g'42 ?_
                      refine call_d (by kernel_rfl) (safe_c _ W Hh _ (vlP xs vls) _ l t f tu le sl ra ⟨_, _, _, by first | rfl | (rw [List.length_append]; done) | (rw [List.length_append]; rfl), by first | rfl | (rw [get_newk]; rfl) | (rw [get_new0]; rfl) | (rw [get_newk, prs_append]; rfl) | (rw [get_new0, prs_append]; rfl)⟩ ⟨_, _, _, rfl, by first | exact hb0s _ | exact hbs⟩ (by omega)) ?_
                      refine runTf g'42 ?_
                      refine hn33 _ _ ?_
                      refine AW_seqQ fun Q34 hn34 hr34 he34 => ?_
                      have hQ34 := fun F H' h => hr34 F H' (hQ32 F H' h)
                      refine AW_fin false try_mixed (by kernel_rfl) ?_
                      refine runTf g'42 ?_
                      refine cond_split (fun h26 => ?_) (fun h26 => ?_)
                      · have h26d := bsT h26
                        have h26n := bnT h26
                        have hsn : ¬ saE W Hh (vlP xs vls) l t f tu le sl ra = 0 := by first | exact h26d | simpa using h26d
                        have g'43 := (jn @h26 (jn @h26n g'42))
                        refine runTf g'43 ?_
                        refine gd_split (fun h27 => ?_) (fun h27 => ?_)
                        · have h27d := bsT h27
                          have h27n := bnT h27
                          have g'44 := (jn @h27 (jn @h27n g'43))
                          refine runTf g'44 ?_
                          refine call_v (by kernel_rfl) (bcmd_c _ t f) ?_
                          refine runTf g'44 ?_
                          refine cond_split (fun h28 => ?_) (fun h28 => ?_)
                          · have h28d := bsT h28
                            exact absurd (saE_0 hVk hS h28d hb) hsn
                          · have h28d := bsT h28
                            have g'45 := (jn @h28 (jn @h28d g'44))
                            refine runTf g'45 ?_
                            refine he34 _ _ _ ?_
                            refine hb32 _ _ ?_
                            refine hn31 _ _ ?_
                            refine AW_fin false try_mixed (by kernel_rfl) ?_
                            refine runTf g'45 ?_
                            refine hJ0 _ _ ⟨k0 - 1, by omega, _, _, _, ⟨0 + 1, by omega, rfl, rfl⟩, Abs.byG hbel [] rfl [0, 1, 2, 3, 4, 5] (by decide) ?_⟩
                            exact absR
                        · have h27d := bsT h27
                          have h27n := bnT h27
                          exact absurd (saE_01 hsn) (by first | exact h27d | simpa using h27d)
                      · have h26d := bsT h26
                        have h26n := bnT h26
                        have g'46 := (jn @h26 (jn @h26n g'42))
                        refine runTf g'46 ?_
                        refine hn34 _ _ ?_
                        refine AW_seqQ fun Q35 hn35 hr35 he35 => ?_
                        have hQ35 := fun F H' h => hr35 F H' (hQ32 F H' h)
                        refine AW_fin false try_mixed (by kernel_rfl) ?_
                        refine runTf g'46 ?_
                        refine gd_split (fun h29 => ?_) (fun h29 => ?_)
                        · have h29d := bsT h29
                          have hs := h29d
                          have g'47 := (jn @h29 (jn @h29d g'46))
                          refine runTf g'47 ?_
                          refine call_v (by kernel_rfl) (bcov_c _ _ l ax ay ah ⟨_, _, _, rfl, by first | exact hb0s _ | exact hbs⟩ (by omega)) ?_
                          refine runTf g'47 ?_
                          refine gd_split (fun h30 => ?_) (fun h30 => ?_)
                          · have h30d := bsT h30
                            have hcov := h30d
                            have g'48 := (jn @h30 (jn @h30d g'47))
                            refine runTf g'48 ?_
                            refine call_v (by kernel_rfl) (bpose_c _ ax ay ah) ?_
                            refine runTf g'48 ?_
                            refine cond_split (fun h31 => ?_) (fun h31 => ?_)
                            · have h31d := bsT h31
                              have g'49 := (jn @h31 (jn @h31d g'48))
                              refine runTf g'49 ?_
                              refine he35 _ _ _ ?_
                              refine hb32 _ _ ?_
                              refine hn31 _ _ ?_
                              refine AW_fin false try_mixed (by kernel_rfl) ?_
                              refine runTf g'49 ?_
                              refine hJ0 _ _ ⟨k0 - 1, by omega, _, _, _, ⟨0 + 1, by omega, rfl, rfl⟩, Abs.byG hbel [] rfl [0, 1, 2, 3, 4, 5] (by decide) ?_⟩
                              exact absR
                            · have h31d := bsT h31
                              have hP := h31d
                              have hnoS := wsafe_free hblp hs hcov hP hb (clgs_bd (n := eT) (k := tu) (by omega)) (clgs_bd (n := eL) (k := le) (by omega)) (clgs_bd (n := eX) (k := sl) (by omega)) (clgs_bd (n := eY) (k := sl) (by omega))
                              have g'50 := (jn @h31 (jn @h31d g'48))
                              refine runTf g'50 ?_
                              refine hn35 _ _ ?_
                              refine AW_seqQ fun Q36 hn36 hr36 he36 => ?_
                              have hQ36 := fun F H' h => hr36 F H' (hQ32 F H' h)
                              refine AW_fin false try_mixed (by kernel_rfl) ?_
                              refine runTf g'50 ?_
                              refine call_v (by kernel_rfl) (dclip_c _ tu le sl ra eT eL eX eY (by assumption)) ?_
                              refine runTf g'50 ?_
                              refine hn36 _ _ ?_
                              refine AW_special false try_mixed [[0, 1, 2, 3, 4, 5, 6, 7, 8, 9, 10, 11, 12, 13, 14, 15, 16, 17], [0, 1, 2, 3, 4, 5, 6, 7, 8, 14, 9, 10, 11, 12, 13, 15, 16, 17]] (by kernel_rfl) (fun F2 H2 => F2 = [(3, .ptr (some (H.length, 0))), (4, .ptr (some (H.length + 1, 0))), (5, .ptr (some (H.length + 2, 0))), (7, .ptr (some (H.length + 4, 0))), (13, .sl (some (H.length + 5, 0)) 2 (some 2)), (14, .int .i64 0), (18, .int .i64 0), (19, .ptr (some (H.length + 6, 0))), (20, .bool false), (21, .int .i64 (nxE ax ay ah t f (clgI eT (0 - tu) tu) (clgI eL (0 - le) le) (clgI eX (0 - sl) sl) (clgI eY (0 - sl) sl)))] ∧ H2 = H ++ [.cells true 0 [.int .i64 W, .int .i64 Hh, .sl (some (bpp, 0)) xs.length cpp, .int .i64 tu, .int .i64 le, .int .i64 sl, .int .i64 ra, .int .i64 ax, .int .i64 ay, .int .i64 ah], .cells true 0 [.sl (some (bs, 0)) l.length cs, .sl (some (bv, 0)) vls.length cv], .cells true 0 [.int .i64 t, .int .i64 f, .int .i64 eT, .int .i64 eL, .int .i64 eX, .int .i64 eY, .sl (some (bmk, 0)) mks.length cmk, .sl (some (ber, 0)) ers.length cer], .cells true 1 (ints .u8 (vlP xs vls)), .cells true 0 [.int .i64 W, .int .i64 Hh, .sl (some (H.length + 3, 0)) ((vlP xs vls).length) none], .cells true 2 [.int .i64 t, .int .i64 f, .int .i64 (chT W Hh (vlP xs vls) l (clgI (IntKind.i64.wrap (eX * 50)) (-5000) 5000) (clgI (IntKind.i64.wrap (eY * 50)) (-5000) 5000) tu le sl ra), .int .i64 (chF W Hh (vlP xs vls) l (clgI (IntKind.i64.wrap (eX * 50)) (-5000) 5000) (clgI (IntKind.i64.wrap (eY * 50)) (-5000) 5000) tu le sl ra)], .cells true 0 [.int .i64 (nxX ax ay ah t f (clgI eT (0 - tu) tu) (clgI eL (0 - le) le) (clgI eX (0 - sl) sl) (clgI eY (0 - sl) sl)), .int .i64 (nxY ax ay ah t f (clgI eT (0 - tu) tu) (clgI eL (0 - le) le) (clgI eX (0 - sl) sl) (clgI eY (0 - sl) sl)), .int .i64 (nxH ax ay ah t f (clgI eT (0 - tu) tu) (clgI eL (0 - le) le) (clgI eX (0 - sl) sl) (clgI eY (0 - sl) sl))]]) ?_ ?_
                              · refine reps_cons ?_ (reps_cons ?_ (reps_nil)) <;> intro J hJ
                                · skip
                                  refine runDf g'50 ?_
                                  refine call_d (by kernel_rfl) (dstep_c _ W Hh _ xs ax ay ah t f (clgI eT (0 - tu) tu) (clgI eL (0 - le) le) (clgI eX (0 - sl) sl) (clgI eY (0 - sl) sl) ⟨_, _, _, rfl, by first | exact hb0pp _ | exact hbpp⟩ hBl hnz (by assumption) hnoS) ?_
                                  refine runDf g'50 ?_
                                  refine inv_of (hJ _ _ ⟨_, _, _, ⟨rfl, rfl⟩, Abs.byG hbel [] rfl [0, 1, 2, 3, 4, 5, 7] (by decide) ?_⟩)
                                  exact absR
                                · skip
                                  refine runDf g'50 ?_
                                  refine call_d (by kernel_rfl) (dstep_c _ W Hh _ xs ax ay ah t f (clgI eT (0 - tu) tu) (clgI eL (0 - le) le) (clgI eX (0 - sl) sl) (clgI eY (0 - sl) sl) ⟨_, _, _, rfl, by first | exact hb0pp _ | exact hbpp⟩ hBl hnz (by assumption) hnoS) ?_
                                  refine runDf g'50 ?_
                                  refine inv_of (hJ _ _ ⟨_, _, _, ⟨rfl, rfl⟩, Abs.byG hbel [] rfl [0, 1, 2, 3, 4, 5, 7] (by decide) ?_⟩)
                                  exact absR
                              rintro F2 H2 ⟨rfl, rfl⟩
                              refine AW_fin false try_mixed (by kernel_rfl) ?_
                              refine runTf g'50 ?_
                              refine cond_split (fun h32 => ?_) (fun h32 => ?_)
                              · have h32d := bsT h32
                                have h32n := bnT h32
                                have g'51 := (jn @h32 (jn @h32n g'50))
                                refine runTf g'51 ?_
                                refine hb32 _ _ ?_
                                refine hn31 _ _ ?_
                                refine AW_fin false try_mixed (by kernel_rfl) ?_
                                refine runTf g'51 ?_
                                refine hJ0 _ _ ⟨k0 - 1, by omega, _, _, _, ⟨0 + 1, by omega, rfl, rfl⟩, Abs.byG hbel [] rfl [0, 1, 2, 3, 4, 5] (by decide) ?_⟩
                                exact absR
                              · have h32d := bsT h32
                                have h32n := bnT h32
                                have hn2 : ¬ nxE ax ay ah t f (clgI eT (0 - tu) tu) (clgI eL (0 - le) le) (clgI eX (0 - sl) sl) (clgI eY (0 - sl) sl) = 2 := by first | exact h32d | simpa using h32d
                                have hne := wsafe_nx hs hP hn2
                                have g'52 := (jn @h32 (jn @h32n g'50))
                                refine runTf g'52 ?_
                                refine gd_split (fun h33 => ?_) (fun h33 => ?_)
                                · have h33d := bsT h33
                                  have h33n := bnT h33
                                  have g'53 := (jn @h33 (jn @h33n g'52))
                                  refine runTf g'53 ?_
                                  refine gd_split (fun h34 => ?_) (fun h34 => ?_)
                                  · have h34d := bsT h34
                                    have hptn := (poseB_iff.1 (nx_pose hne hP)).1
                                    have hnoF := fun (cx cy : Int) (h1 : cx * 64 - 20 ≤ nxX ax ay ah t f (clgI eT (0 - tu) tu) (clgI eL (0 - le) le) (clgI eX (0 - sl) sl) (clgI eY (0 - sl) sl) ∧ nxX ax ay ah t f (clgI eT (0 - tu) tu) (clgI eL (0 - le) le) (clgI eX (0 - sl) sl) (clgI eY (0 - sl) sl) ≤ cx * 64 + 84) (h2 : cy * 64 - 20 ≤ nxY ax ay ah t f (clgI eT (0 - tu) tu) (clgI eL (0 - le) le) (clgI eX (0 - sl) sl) (clgI eY (0 - sl) sl) ∧ nxY ax ay ah t f (clgI eT (0 - tu) tu) (clgI eL (0 - le) le) (clgI eX (0 - sl) sl) (clgI eY (0 - sl) sl) ≤ cy * 64 + 84) => hnoS cx cy h34d hne (tou_end h1 h2)
                                    have g'54 := (jn @h34 (jn @h34d g'53))
                                    refine runTf g'54 ?_
                                    refine call_v (by kernel_rfl) (fits_c _ W Hh _ xs (nxX ax ay ah t f (clgI eT (0 - tu) tu) (clgI eL (0 - le) le) (clgI eX (0 - sl) sl) (clgI eY (0 - sl) sl)) (nxY ax ay ah t f (clgI eT (0 - tu) tu) (clgI eL (0 - le) le) (clgI eX (0 - sl) sl) (clgI eY (0 - sl) sl)) ⟨_, _, _, rfl, by first | exact hb0pp _ | exact hbpp⟩ hBl hnz (by assumption) hnoF) ?_
                                    refine runTf g'54 ?_
                                    refine hn32 _ _ ?_
                                    refine hn31 _ _ ?_
                                    refine AW_fin false try_mixed (by kernel_rfl) ?_
                                    refine runTf g'54 ?_
                                    refine hJ0 _ _ ⟨k0 - 1, by omega, _, _, _, ⟨0 + 1, by omega, rfl, rfl⟩, Abs.byG hbel [] rfl [0, 1, 2, 3, 4, 5] (by decide) ?_⟩
                                    exact absR
                                  · have h34d := bsT h34
                                    have g'55 := (jn @h34 (jn @h34d g'53))
                                    refine runTf g'55 ?_
                                    refine hn32 _ _ ?_
                                    refine hn31 _ _ ?_
                                    refine AW_fin false try_mixed (by kernel_rfl) ?_
                                    refine runTf g'55 ?_
                                    refine hJ0 _ _ ⟨k0 - 1, by omega, _, _, _, ⟨0 + 1, by omega, rfl, rfl⟩, Abs.byG hbel [] rfl [0, 1, 2, 3, 4, 5] (by decide) ?_⟩
                                    exact absR
                                · have h33d := bsT h33
                                  have h33n := bnT h33
                                  exact absurd hne (by first | exact h33d | simpa using h33d)
                          · have h30d := bsT h30
                            have g'56 := (jn @h30 (jn @h30d g'47))
                            refine runTf g'56 ?_
                            refine he35 _ _ _ ?_
                            refine hb32 _ _ ?_
                            refine hn31 _ _ ?_
                            refine AW_fin false try_mixed (by kernel_rfl) ?_
                            refine runTf g'56 ?_
                            refine hJ0 _ _ ⟨k0 - 1, by omega, _, _, _, ⟨0 + 1, by omega, rfl, rfl⟩, Abs.byG hbel [] rfl [0, 1, 2, 3, 4, 5] (by decide) ?_⟩
                            exact absR
                        · have h29d := bsT h29
                          have g'57 := (jn @h29 (jn @h29d g'46))
                          refine runTf g'57 ?_
                          refine he35 _ _ _ ?_
                          refine hb32 _ _ ?_
                          refine hn31 _ _ ?_
                          refine AW_fin false try_mixed (by kernel_rfl) ?_
                          refine runTf g'57 ?_
                          refine hJ0 _ _ ⟨k0 - 1, by omega, _, _, _, ⟨0 + 1, by omega, rfl, rfl⟩, Abs.byG hbel [] rfl [0, 1, 2, 3, 4, 5] (by decide) ?_⟩
                          exact absR
                    · skip
                      have g'58 := (jn @h25 (jn @h25d g'41))
                      refine runTf g'58 ?_
                      refine hn30 _ _ ?_
                      refine AW_seqQ fun Q37 hn37 hr37 he37 => ?_
                      have hQ37 := fun F H' h => hr37 F H' (hQ29 F H' h)
                      refine AW_blockQ fun Q38 hn38 hr38 he38 hb38 => ?_
                      have hQ38 := fun F H' h => hr38 F H' (hQ37 F H' h)
                      refine AW_seqQ fun Q39 hn39 hr39 he39 => ?_
                      have hQ39 := fun F H' h => hr39 F H' (hQ38 F H' h)
                      refine AW_fin false try_mixed (by kernel_rfl) ?_
                      refine runTf g'58 ?_
                      refine call_d (by kernel_rfl) (safe_c _ W Hh _ (vlP xs vls) _ l (chT W Hh (vlP xs vls) l (clgI (IntKind.i64.wrap (eX * 50)) (-5000) 5000) (clgI (IntKind.i64.wrap (eY * 50)) (-5000) 5000) tu le sl ra) (chF W Hh (vlP xs vls) l (clgI (IntKind.i64.wrap (eX * 50)) (-5000) 5000) (clgI (IntKind.i64.wrap (eY * 50)) (-5000) 5000) tu le sl ra) tu le sl ra ⟨_, _, _, by first | rfl | (rw [List.length_append]; done) | (rw [List.length_append]; rfl), by first | rfl | (rw [get_newk]; rfl) | (rw [get_new0]; rfl) | (rw [get_newk, prs_append]; rfl) | (rw [get_new0, prs_append]; rfl)⟩ ⟨_, _, _, rfl, by first | exact hb0s _ | exact hbs⟩ (by omega)) ?_
                      refine runTf g'58 ?_
                      refine hn39 _ _ ?_
                      refine AW_seqQ fun Q40 hn40 hr40 he40 => ?_
                      have hQ40 := fun F H' h => hr40 F H' (hQ38 F H' h)
                      refine AW_fin false try_mixed (by kernel_rfl) ?_
                      refine runTf g'58 ?_
                      refine cond_split (fun h35 => ?_) (fun h35 => ?_)
                      · have h35d := bsT h35
                        have h35n := bnT h35
                        have hsn : ¬ saE W Hh (vlP xs vls) l (chT W Hh (vlP xs vls) l (clgI (IntKind.i64.wrap (eX * 50)) (-5000) 5000) (clgI (IntKind.i64.wrap (eY * 50)) (-5000) 5000) tu le sl ra) (chF W Hh (vlP xs vls) l (clgI (IntKind.i64.wrap (eX * 50)) (-5000) 5000) (clgI (IntKind.i64.wrap (eY * 50)) (-5000) 5000) tu le sl ra) tu le sl ra = 0 := by first | exact h35d | simpa using h35d
                        have g'59 := (jn @h35 (jn @h35n g'58))
                        refine runTf g'59 ?_
                        refine gd_split (fun h36 => ?_) (fun h36 => ?_)
                        · have h36d := bsT h36
                          have h36n := bnT h36
                          have g'60 := (jn @h36 (jn @h36n g'59))
                          refine runTf g'60 ?_
                          refine call_v (by kernel_rfl) (bcmd_c _ (chT W Hh (vlP xs vls) l (clgI (IntKind.i64.wrap (eX * 50)) (-5000) 5000) (clgI (IntKind.i64.wrap (eY * 50)) (-5000) 5000) tu le sl ra) (chF W Hh (vlP xs vls) l (clgI (IntKind.i64.wrap (eX * 50)) (-5000) 5000) (clgI (IntKind.i64.wrap (eY * 50)) (-5000) 5000) tu le sl ra)) ?_
                          refine runTf g'60 ?_
                          refine cond_split (fun h37 => ?_) (fun h37 => ?_)
                          · have h37d := bsT h37
                            exact absurd (saE_0 hVk hS h37d hb) hsn
                          · have h37d := bsT h37
                            have g'61 := (jn @h37 (jn @h37d g'60))
                            refine runTf g'61 ?_
                            refine he40 _ _ _ ?_
                            refine hb38 _ _ ?_
                            refine hn37 _ _ ?_
                            refine AW_fin false try_mixed (by kernel_rfl) ?_
                            refine runTf g'61 ?_
                            refine hJ0 _ _ ⟨k0 - 1, by omega, _, _, _, ⟨1 + 1, by omega, rfl, rfl⟩, Abs.byG hbel [] rfl [0, 1, 2, 3, 4, 5] (by decide) ?_⟩
                            exact absR
                        · have h36d := bsT h36
                          have h36n := bnT h36
                          exact absurd (saE_01 hsn) (by first | exact h36d | simpa using h36d)
                      · have h35d := bsT h35
                        have h35n := bnT h35
                        have g'62 := (jn @h35 (jn @h35n g'58))
                        refine runTf g'62 ?_
                        refine hn40 _ _ ?_
                        refine AW_seqQ fun Q41 hn41 hr41 he41 => ?_
                        have hQ41 := fun F H' h => hr41 F H' (hQ38 F H' h)
                        refine AW_fin false try_mixed (by kernel_rfl) ?_
                        refine runTf g'62 ?_
                        refine gd_split (fun h38 => ?_) (fun h38 => ?_)
                        · have h38d := bsT h38
                          have hs := h38d
                          have g'63 := (jn @h38 (jn @h38d g'62))
                          refine runTf g'63 ?_
                          refine call_v (by kernel_rfl) (bcov_c _ _ l ax ay ah ⟨_, _, _, rfl, by first | exact hb0s _ | exact hbs⟩ (by omega)) ?_
                          refine runTf g'63 ?_
                          refine gd_split (fun h39 => ?_) (fun h39 => ?_)
                          · have h39d := bsT h39
                            have hcov := h39d
                            have g'64 := (jn @h39 (jn @h39d g'63))
                            refine runTf g'64 ?_
                            refine call_v (by kernel_rfl) (bpose_c _ ax ay ah) ?_
                            refine runTf g'64 ?_
                            refine cond_split (fun h40 => ?_) (fun h40 => ?_)
                            · have h40d := bsT h40
                              have g'65 := (jn @h40 (jn @h40d g'64))
                              refine runTf g'65 ?_
                              refine he41 _ _ _ ?_
                              refine hb38 _ _ ?_
                              refine hn37 _ _ ?_
                              refine AW_fin false try_mixed (by kernel_rfl) ?_
                              refine runTf g'65 ?_
                              refine hJ0 _ _ ⟨k0 - 1, by omega, _, _, _, ⟨1 + 1, by omega, rfl, rfl⟩, Abs.byG hbel [] rfl [0, 1, 2, 3, 4, 5] (by decide) ?_⟩
                              exact absR
                            · have h40d := bsT h40
                              have hP := h40d
                              have hnoS := wsafe_free hblp hs hcov hP hb (clgs_bd (n := eT) (k := tu) (by omega)) (clgs_bd (n := eL) (k := le) (by omega)) (clgs_bd (n := eX) (k := sl) (by omega)) (clgs_bd (n := eY) (k := sl) (by omega))
                              have g'66 := (jn @h40 (jn @h40d g'64))
                              refine runTf g'66 ?_
                              refine hn41 _ _ ?_
                              refine AW_seqQ fun Q42 hn42 hr42 he42 => ?_
                              have hQ42 := fun F H' h => hr42 F H' (hQ38 F H' h)
                              refine AW_fin false try_mixed (by kernel_rfl) ?_
                              refine runTf g'66 ?_
                              refine call_v (by kernel_rfl) (dclip_c _ tu le sl ra eT eL eX eY (by assumption)) ?_
                              refine runTf g'66 ?_
                              refine hn42 _ _ ?_
                              refine AW_special false try_mixed [[0, 1, 2, 3, 4, 5, 6, 7, 8, 9, 10, 11, 12, 13, 14, 15, 16, 17], [0, 1, 2, 3, 4, 5, 6, 7, 8, 14, 9, 10, 11, 12, 13, 15, 16, 17]] (by kernel_rfl) (fun F2 H2 => F2 = [(3, .ptr (some (H.length, 0))), (4, .ptr (some (H.length + 1, 0))), (5, .ptr (some (H.length + 2, 0))), (7, .ptr (some (H.length + 4, 0))), (13, .sl (some (H.length + 5, 0)) 2 (some 2)), (14, .int .i64 1), (18, .int .i64 0), (19, .ptr (some (H.length + 6, 0))), (20, .bool false), (21, .int .i64 (nxE ax ay ah (chT W Hh (vlP xs vls) l (clgI (IntKind.i64.wrap (eX * 50)) (-5000) 5000) (clgI (IntKind.i64.wrap (eY * 50)) (-5000) 5000) tu le sl ra) (chF W Hh (vlP xs vls) l (clgI (IntKind.i64.wrap (eX * 50)) (-5000) 5000) (clgI (IntKind.i64.wrap (eY * 50)) (-5000) 5000) tu le sl ra) (clgI eT (0 - tu) tu) (clgI eL (0 - le) le) (clgI eX (0 - sl) sl) (clgI eY (0 - sl) sl)))] ∧ H2 = H ++ [.cells true 0 [.int .i64 W, .int .i64 Hh, .sl (some (bpp, 0)) xs.length cpp, .int .i64 tu, .int .i64 le, .int .i64 sl, .int .i64 ra, .int .i64 ax, .int .i64 ay, .int .i64 ah], .cells true 0 [.sl (some (bs, 0)) l.length cs, .sl (some (bv, 0)) vls.length cv], .cells true 0 [.int .i64 t, .int .i64 f, .int .i64 eT, .int .i64 eL, .int .i64 eX, .int .i64 eY, .sl (some (bmk, 0)) mks.length cmk, .sl (some (ber, 0)) ers.length cer], .cells true 1 (ints .u8 (vlP xs vls)), .cells true 0 [.int .i64 W, .int .i64 Hh, .sl (some (H.length + 3, 0)) ((vlP xs vls).length) none], .cells true 2 [.int .i64 t, .int .i64 f, .int .i64 (chT W Hh (vlP xs vls) l (clgI (IntKind.i64.wrap (eX * 50)) (-5000) 5000) (clgI (IntKind.i64.wrap (eY * 50)) (-5000) 5000) tu le sl ra), .int .i64 (chF W Hh (vlP xs vls) l (clgI (IntKind.i64.wrap (eX * 50)) (-5000) 5000) (clgI (IntKind.i64.wrap (eY * 50)) (-5000) 5000) tu le sl ra)], .cells true 0 [.int .i64 (nxX ax ay ah (chT W Hh (vlP xs vls) l (clgI (IntKind.i64.wrap (eX * 50)) (-5000) 5000) (clgI (IntKind.i64.wrap (eY * 50)) (-5000) 5000) tu le sl ra) (chF W Hh (vlP xs vls) l (clgI (IntKind.i64.wrap (eX * 50)) (-5000) 5000) (clgI (IntKind.i64.wrap (eY * 50)) (-5000) 5000) tu le sl ra) (clgI eT (0 - tu) tu) (clgI eL (0 - le) le) (clgI eX (0 - sl) sl) (clgI eY (0 - sl) sl)), .int .i64 (nxY ax ay ah (chT W Hh (vlP xs vls) l (clgI (IntKind.i64.wrap (eX * 50)) (-5000) 5000) (clgI (IntKind.i64.wrap (eY * 50)) (-5000) 5000) tu le sl ra) (chF W Hh (vlP xs vls) l (clgI (IntKind.i64.wrap (eX * 50)) (-5000) 5000) (clgI (IntKind.i64.wrap (eY * 50)) (-5000) 5000) tu le sl ra) (clgI eT (0 - tu) tu) (clgI eL (0 - le) le) (clgI eX (0 - sl) sl) (clgI eY (0 - sl) sl)), .int .i64 (nxH ax ay ah (chT W Hh (vlP xs vls) l (clgI (IntKind.i64.wrap (eX * 50)) (-5000) 5000) (clgI (IntKind.i64.wrap (eY * 50)) (-5000) 5000) tu le sl ra) (chF W Hh (vlP xs vls) l (clgI (IntKind.i64.wrap (eX * 50)) (-5000) 5000) (clgI (IntKind.i64.wrap (eY * 50)) (-5000) 5000) tu le sl ra) (clgI eT (0 - tu) tu) (clgI eL (0 - le) le) (clgI eX (0 - sl) sl) (clgI eY (0 - sl) sl))]]) ?_ ?_
                              · refine reps_cons ?_ (reps_cons ?_ (reps_nil)) <;> intro J hJ
                                · skip
                                  refine runDf g'66 ?_
                                  refine call_d (by kernel_rfl) (dstep_c _ W Hh _ xs ax ay ah (chT W Hh (vlP xs vls) l (clgI (IntKind.i64.wrap (eX * 50)) (-5000) 5000) (clgI (IntKind.i64.wrap (eY * 50)) (-5000) 5000) tu le sl ra) (chF W Hh (vlP xs vls) l (clgI (IntKind.i64.wrap (eX * 50)) (-5000) 5000) (clgI (IntKind.i64.wrap (eY * 50)) (-5000) 5000) tu le sl ra) (clgI eT (0 - tu) tu) (clgI eL (0 - le) le) (clgI eX (0 - sl) sl) (clgI eY (0 - sl) sl) ⟨_, _, _, rfl, by first | exact hb0pp _ | exact hbpp⟩ hBl hnz (by assumption) hnoS) ?_
                                  refine runDf g'66 ?_
                                  refine inv_of (hJ _ _ ⟨_, _, _, ⟨rfl, rfl⟩, Abs.byG hbel [] rfl [0, 1, 2, 3, 4, 5, 7] (by decide) ?_⟩)
                                  exact absR
                                · skip
                                  refine runDf g'66 ?_
                                  refine call_d (by kernel_rfl) (dstep_c _ W Hh _ xs ax ay ah (chT W Hh (vlP xs vls) l (clgI (IntKind.i64.wrap (eX * 50)) (-5000) 5000) (clgI (IntKind.i64.wrap (eY * 50)) (-5000) 5000) tu le sl ra) (chF W Hh (vlP xs vls) l (clgI (IntKind.i64.wrap (eX * 50)) (-5000) 5000) (clgI (IntKind.i64.wrap (eY * 50)) (-5000) 5000) tu le sl ra) (clgI eT (0 - tu) tu) (clgI eL (0 - le) le) (clgI eX (0 - sl) sl) (clgI eY (0 - sl) sl) ⟨_, _, _, rfl, by first | exact hb0pp _ | exact hbpp⟩ hBl hnz (by assumption) hnoS) ?_
                                  refine runDf g'66 ?_
                                  refine inv_of (hJ _ _ ⟨_, _, _, ⟨rfl, rfl⟩, Abs.byG hbel [] rfl [0, 1, 2, 3, 4, 5, 7] (by decide) ?_⟩)
                                  exact absR
                              rintro F2 H2 ⟨rfl, rfl⟩
                              refine AW_fin false try_mixed (by kernel_rfl) ?_
                              refine runTf g'66 ?_
                              refine cond_split (fun h41 => ?_) (fun h41 => ?_)
                              · have h41d := bsT h41
                                have h41n := bnT h41
                                have g'67 := (jn @h41 (jn @h41n g'66))
                                refine runTf g'67 ?_
                                refine hb38 _ _ ?_
                                refine hn37 _ _ ?_
                                refine AW_fin false try_mixed (by kernel_rfl) ?_
                                refine runTf g'67 ?_
                                refine hJ0 _ _ ⟨k0 - 1, by omega, _, _, _, ⟨1 + 1, by omega, rfl, rfl⟩, Abs.byG hbel [] rfl [0, 1, 2, 3, 4, 5] (by decide) ?_⟩
                                exact absR
                              · have h41d := bsT h41
                                have h41n := bnT h41
                                have hn2 : ¬ nxE ax ay ah (chT W Hh (vlP xs vls) l (clgI (IntKind.i64.wrap (eX * 50)) (-5000) 5000) (clgI (IntKind.i64.wrap (eY * 50)) (-5000) 5000) tu le sl ra) (chF W Hh (vlP xs vls) l (clgI (IntKind.i64.wrap (eX * 50)) (-5000) 5000) (clgI (IntKind.i64.wrap (eY * 50)) (-5000) 5000) tu le sl ra) (clgI eT (0 - tu) tu) (clgI eL (0 - le) le) (clgI eX (0 - sl) sl) (clgI eY (0 - sl) sl) = 2 := by first | exact h41d | simpa using h41d
                                have hne := wsafe_nx hs hP hn2
                                have g'68 := (jn @h41 (jn @h41n g'66))
                                refine runTf g'68 ?_
                                refine gd_split (fun h42 => ?_) (fun h42 => ?_)
                                · have h42d := bsT h42
                                  have h42n := bnT h42
                                  have g'69 := (jn @h42 (jn @h42n g'68))
                                  refine runTf g'69 ?_
                                  refine gd_split (fun h43 => ?_) (fun h43 => ?_)
                                  · have h43d := bsT h43
                                    have hptn := (poseB_iff.1 (nx_pose hne hP)).1
                                    have hnoF := fun (cx cy : Int) (h1 : cx * 64 - 20 ≤ nxX ax ay ah (chT W Hh (vlP xs vls) l (clgI (IntKind.i64.wrap (eX * 50)) (-5000) 5000) (clgI (IntKind.i64.wrap (eY * 50)) (-5000) 5000) tu le sl ra) (chF W Hh (vlP xs vls) l (clgI (IntKind.i64.wrap (eX * 50)) (-5000) 5000) (clgI (IntKind.i64.wrap (eY * 50)) (-5000) 5000) tu le sl ra) (clgI eT (0 - tu) tu) (clgI eL (0 - le) le) (clgI eX (0 - sl) sl) (clgI eY (0 - sl) sl) ∧ nxX ax ay ah (chT W Hh (vlP xs vls) l (clgI (IntKind.i64.wrap (eX * 50)) (-5000) 5000) (clgI (IntKind.i64.wrap (eY * 50)) (-5000) 5000) tu le sl ra) (chF W Hh (vlP xs vls) l (clgI (IntKind.i64.wrap (eX * 50)) (-5000) 5000) (clgI (IntKind.i64.wrap (eY * 50)) (-5000) 5000) tu le sl ra) (clgI eT (0 - tu) tu) (clgI eL (0 - le) le) (clgI eX (0 - sl) sl) (clgI eY (0 - sl) sl) ≤ cx * 64 + 84) (h2 : cy * 64 - 20 ≤ nxY ax ay ah (chT W Hh (vlP xs vls) l (clgI (IntKind.i64.wrap (eX * 50)) (-5000) 5000) (clgI (IntKind.i64.wrap (eY * 50)) (-5000) 5000) tu le sl ra) (chF W Hh (vlP xs vls) l (clgI (IntKind.i64.wrap (eX * 50)) (-5000) 5000) (clgI (IntKind.i64.wrap (eY * 50)) (-5000) 5000) tu le sl ra) (clgI eT (0 - tu) tu) (clgI eL (0 - le) le) (clgI eX (0 - sl) sl) (clgI eY (0 - sl) sl) ∧ nxY ax ay ah (chT W Hh (vlP xs vls) l (clgI (IntKind.i64.wrap (eX * 50)) (-5000) 5000) (clgI (IntKind.i64.wrap (eY * 50)) (-5000) 5000) tu le sl ra) (chF W Hh (vlP xs vls) l (clgI (IntKind.i64.wrap (eX * 50)) (-5000) 5000) (clgI (IntKind.i64.wrap (eY * 50)) (-5000) 5000) tu le sl ra) (clgI eT (0 - tu) tu) (clgI eL (0 - le) le) (clgI eX (0 - sl) sl) (clgI eY (0 - sl) sl) ≤ cy * 64 + 84) => hnoS cx cy h43d hne (tou_end h1 h2)
                                    have g'70 := (jn @h43 (jn @h43d g'69))
                                    refine runTf g'70 ?_
                                    refine call_v (by kernel_rfl) (fits_c _ W Hh _ xs (nxX ax ay ah (chT W Hh (vlP xs vls) l (clgI (IntKind.i64.wrap (eX * 50)) (-5000) 5000) (clgI (IntKind.i64.wrap (eY * 50)) (-5000) 5000) tu le sl ra) (chF W Hh (vlP xs vls) l (clgI (IntKind.i64.wrap (eX * 50)) (-5000) 5000) (clgI (IntKind.i64.wrap (eY * 50)) (-5000) 5000) tu le sl ra) (clgI eT (0 - tu) tu) (clgI eL (0 - le) le) (clgI eX (0 - sl) sl) (clgI eY (0 - sl) sl)) (nxY ax ay ah (chT W Hh (vlP xs vls) l (clgI (IntKind.i64.wrap (eX * 50)) (-5000) 5000) (clgI (IntKind.i64.wrap (eY * 50)) (-5000) 5000) tu le sl ra) (chF W Hh (vlP xs vls) l (clgI (IntKind.i64.wrap (eX * 50)) (-5000) 5000) (clgI (IntKind.i64.wrap (eY * 50)) (-5000) 5000) tu le sl ra) (clgI eT (0 - tu) tu) (clgI eL (0 - le) le) (clgI eX (0 - sl) sl) (clgI eY (0 - sl) sl)) ⟨_, _, _, rfl, by first | exact hb0pp _ | exact hbpp⟩ hBl hnz (by assumption) hnoF) ?_
                                    refine runTf g'70 ?_
                                    refine hn38 _ _ ?_
                                    refine hn37 _ _ ?_
                                    refine AW_fin false try_mixed (by kernel_rfl) ?_
                                    refine runTf g'70 ?_
                                    refine hJ0 _ _ ⟨k0 - 1, by omega, _, _, _, ⟨1 + 1, by omega, rfl, rfl⟩, Abs.byG hbel [] rfl [0, 1, 2, 3, 4, 5] (by decide) ?_⟩
                                    exact absR
                                  · have h43d := bsT h43
                                    have g'71 := (jn @h43 (jn @h43d g'69))
                                    refine runTf g'71 ?_
                                    refine hn38 _ _ ?_
                                    refine hn37 _ _ ?_
                                    refine AW_fin false try_mixed (by kernel_rfl) ?_
                                    refine runTf g'71 ?_
                                    refine hJ0 _ _ ⟨k0 - 1, by omega, _, _, _, ⟨1 + 1, by omega, rfl, rfl⟩, Abs.byG hbel [] rfl [0, 1, 2, 3, 4, 5] (by decide) ?_⟩
                                    exact absR
                                · have h42d := bsT h42
                                  have h42n := bnT h42
                                  exact absurd hne (by first | exact h42d | simpa using h42d)
                          · have h39d := bsT h39
                            have g'72 := (jn @h39 (jn @h39d g'63))
                            refine runTf g'72 ?_
                            refine he41 _ _ _ ?_
                            refine hb38 _ _ ?_
                            refine hn37 _ _ ?_
                            refine AW_fin false try_mixed (by kernel_rfl) ?_
                            refine runTf g'72 ?_
                            refine hJ0 _ _ ⟨k0 - 1, by omega, _, _, _, ⟨1 + 1, by omega, rfl, rfl⟩, Abs.byG hbel [] rfl [0, 1, 2, 3, 4, 5] (by decide) ?_⟩
                            exact absR
                        · have h38d := bsT h38
                          have g'73 := (jn @h38 (jn @h38d g'62))
                          refine runTf g'73 ?_
                          refine he41 _ _ _ ?_
                          refine hb38 _ _ ?_
                          refine hn37 _ _ ?_
                          refine AW_fin false try_mixed (by kernel_rfl) ?_
                          refine runTf g'73 ?_
                          refine hJ0 _ _ ⟨k0 - 1, by omega, _, _, _, ⟨1 + 1, by omega, rfl, rfl⟩, Abs.byG hbel [] rfl [0, 1, 2, 3, 4, 5] (by decide) ?_⟩
                          exact absR
                  · have h25d := bsT h25
                    have g'74 := (jn @h25 (jn @h25d g'41))
                    refine runTf g'74 ?_
                    refine he30 _ _ _ ?_
                    refine he29 _ _ _ ?_
                    refine hb28 _ _ ?_
                    refine hn26 _ _ ?_
                    refine AW_fin false try_mixed (by kernel_rfl) ?_
                    refine runTf g'74 ?_
                    refine call_v (by kernel_rfl) (below_c _ W Hh _ (vlP xs vls) W Hh _ xs ⟨_, _, _, by first | rfl | (rw [List.length_append]; done) | (rw [List.length_append]; rfl), by first | rfl | (rw [get_newk]; rfl) | (rw [get_new0]; rfl) | (rw [get_newk, prs_append]; rfl) | (rw [get_new0, prs_append]; rfl)⟩ ⟨_, _, _, rfl, by first | exact hb0pp _ | exact hbpp⟩ (by assumption) (by assumption) rfl rfl (by assumption)) ?_
                    refine runTf g'74 ?_
                    exact hQ _ _ (end_plain (.inl rfl) hbel (x := .bool true) (resT Tryz.results6) rfl ⟨by first | rfl | simp, rfl⟩)
          · have h5d := bsT h5
            have g'75 := (jn @h5 (jn @h5d g'6))
            refine runTf g'75 ?_
            exact hQ3 _ _ (end_plain (.inl rfl) hbel (x := .bool true) (resT Tryz.results6) rfl ⟨by first | rfl | simp, rfl⟩)
        · have h4d := bsT h4
          have g'76 := (jn @h4 (jn @h4d g'5))
          refine runTf g'76 ?_
          exact hQ3 _ _ (end_plain (.inl rfl) hbel (x := .bool true) (resT Tryz.results6) rfl ⟨by first | rfl | simp, rfl⟩)
      · have h3d := bsT h3
        have g'77 := (jn @h3 (jn @h3d g'4))
        refine runTf g'77 ?_
        exact hQ3 _ _ (end_plain (.inl rfl) hbel (x := .bool true) (resT Tryz.results6) rfl ⟨by first | rfl | simp, rfl⟩)
  · have h1d := bsT h1
    have g'78 := (jn @h1 (jn @h1d g'1))
    refine runTf g'78 ?_
    refine call_v (by kernel_rfl) (sawk_c _) ?_
    refine runTf g'78 ?_
    exact hQ2 _ _ (end_plain (.inl rfl) hbel (x := .bool true) (resT Tryz.results6) rfl ⟨by first | rfl | simp, rfl⟩)
open Go.RowKit
set_option maxRecDepth 100000 in
theorem wholeSafe_top (H : AHeap) (xs : List AV) (hn : xs.length = 3) (hy : ∀ (j : Nat) (t : TypeId) (x : AV), [74, 76, 33][j]? = some t → xs[j]? = some x → ATy Tryz.prog H 9 t x) : ACalls Tryz.prog 6 xs H (fun v H' => v = .bool true ∧ H' = H) := by
  match xs, hn, hy with
  | [a0, a1, a2], _, hy =>
    obtain ⟨ys0, e0, r0_0⟩ := (hy 0 _ a0 rfl rfl).agg (ls := [3, 3, 22, 3, 3, 3, 3, 3, 3, 3]) (by kernel_rfl) (by kernel_rfl)
    obtain ⟨y0_0, q0_0, rfl, t0_0, r0_1⟩ := r0_0.cons
    obtain ⟨z1, rfl, w1⟩ := t0_0.int (k := .i64) (by kernel_rfl)
    obtain ⟨y0_1, q0_1, rfl, t0_1, r0_2⟩ := r0_1.cons
    obtain ⟨z2, rfl, w2⟩ := t0_1.int (k := .i64) (by kernel_rfl)
    obtain ⟨y0_2, q0_2, rfl, t0_2, r0_3⟩ := r0_2.cons
    obtain ⟨l3, s3, m3, w3⟩ := t0_2.intsU (n := 7) (t := 22) (e := 5) (by kernel_rfl) (by kernel_rfl) (by kernel_rfl)
    obtain ⟨y0_3, q0_3, rfl, t0_3, r0_4⟩ := r0_3.cons
    obtain ⟨z4, rfl, w4⟩ := t0_3.int (k := .i64) (by kernel_rfl)
    obtain ⟨y0_4, q0_4, rfl, t0_4, r0_5⟩ := r0_4.cons
    obtain ⟨z5, rfl, w5⟩ := t0_4.int (k := .i64) (by kernel_rfl)
    obtain ⟨y0_5, q0_5, rfl, t0_5, r0_6⟩ := r0_5.cons
    obtain ⟨z6, rfl, w6⟩ := t0_5.int (k := .i64) (by kernel_rfl)
    obtain ⟨y0_6, q0_6, rfl, t0_6, r0_7⟩ := r0_6.cons
    obtain ⟨z7, rfl, w7⟩ := t0_6.int (k := .i64) (by kernel_rfl)
    obtain ⟨y0_7, q0_7, rfl, t0_7, r0_8⟩ := r0_7.cons
    obtain ⟨z8, rfl, w8⟩ := t0_7.int (k := .i64) (by kernel_rfl)
    obtain ⟨y0_8, q0_8, rfl, t0_8, r0_9⟩ := r0_8.cons
    obtain ⟨z9, rfl, w9⟩ := t0_8.int (k := .i64) (by kernel_rfl)
    obtain ⟨y0_9, q0_9, rfl, t0_9, r0_10⟩ := r0_9.cons
    obtain ⟨z10, rfl, w10⟩ := t0_9.int (k := .i64) (by kernel_rfl)
    obtain rfl := r0_10.nil
    subst e0
    obtain ⟨ys1, e1, r1_0⟩ := (hy 1 _ a1 rfl rfl).agg (ls := [47, 22]) (by kernel_rfl) (by kernel_rfl)
    obtain ⟨y1_0, q1_0, rfl, t1_0, r1_1⟩ := r1_0.cons
    obtain ⟨l11, s11, m11, w11⟩ := t1_0.rec6 (n := 7) (t := 47) (e := 45) (t1 := 3) (t2 := 3) (t3 := 3) (t4 := 3) (t5 := 3) (t6 := 3) (by kernel_rfl) (by kernel_rfl) (by kernel_rfl) (by kernel_rfl) (by kernel_rfl) (by kernel_rfl) (by kernel_rfl) (by kernel_rfl)
    obtain ⟨y1_1, q1_1, rfl, t1_1, r1_2⟩ := r1_1.cons
    obtain ⟨l12, s12, m12, w12⟩ := t1_1.intsU (n := 7) (t := 22) (e := 5) (by kernel_rfl) (by kernel_rfl) (by kernel_rfl)
    obtain rfl := r1_2.nil
    subst e1
    obtain ⟨ys2, e2, r2_0⟩ := (hy 2 _ a2 rfl rfl).agg (ls := [3, 3, 3, 3, 3, 3, 31, 31]) (by kernel_rfl) (by kernel_rfl)
    obtain ⟨y2_0, q2_0, rfl, t2_0, r2_1⟩ := r2_0.cons
    obtain ⟨z13, rfl, w13⟩ := t2_0.int (k := .i64) (by kernel_rfl)
    obtain ⟨y2_1, q2_1, rfl, t2_1, r2_2⟩ := r2_1.cons
    obtain ⟨z14, rfl, w14⟩ := t2_1.int (k := .i64) (by kernel_rfl)
    obtain ⟨y2_2, q2_2, rfl, t2_2, r2_3⟩ := r2_2.cons
    obtain ⟨z15, rfl, w15⟩ := t2_2.int (k := .i64) (by kernel_rfl)
    obtain ⟨y2_3, q2_3, rfl, t2_3, r2_4⟩ := r2_3.cons
    obtain ⟨z16, rfl, w16⟩ := t2_3.int (k := .i64) (by kernel_rfl)
    obtain ⟨y2_4, q2_4, rfl, t2_4, r2_5⟩ := r2_4.cons
    obtain ⟨z17, rfl, w17⟩ := t2_4.int (k := .i64) (by kernel_rfl)
    obtain ⟨y2_5, q2_5, rfl, t2_5, r2_6⟩ := r2_5.cons
    obtain ⟨z18, rfl, w18⟩ := t2_5.int (k := .i64) (by kernel_rfl)
    obtain ⟨y2_6, q2_6, rfl, t2_6, r2_7⟩ := r2_6.cons
    obtain ⟨l19, s19, m19, w19⟩ := t2_6.intsU (n := 7) (t := 31) (e := 3) (by kernel_rfl) (by kernel_rfl) (by kernel_rfl)
    obtain ⟨y2_7, q2_7, rfl, t2_7, r2_8⟩ := r2_7.cons
    obtain ⟨l20, s20, m20, w20⟩ := t2_7.intsU (n := 7) (t := 31) (e := 3) (by kernel_rfl) (by kernel_rfl) (by kernel_rfl)
    obtain rfl := r2_8.nil
    subst e2
    exact lws_c H z1 z2 _ l3 z4 z5 z6 z7 z8 z9 z10 _ l11 _ l12 z13 z14 z15 z16 z17 z18 _ l19 _ l20 s3 s11 s12 s19 s20 (fun z hz => (wf_u8 (w3 z hz)).1) (by have q := m12; unfold maxLen at q; exact q) (by have q := m11; unfold maxLen at q; exact q)
section
open Go.ChangeShapes Go.WideShapes Go.ChangeAt Go.RowKit Go.Joins
open Go.ChangeMaps (open_string shut_string)
set_option maxRecDepth 100000 in
theorem wholeSafe_lifted (os : Os) (started : os.Started) (H : Type) (enc : TypeId × Value → H) :
    ReturnsInHanded {} Tryz.checked os 6 .any (Rows.wholeSafeSpec.pre6 enc Tryz.prog Tryz.f6 Rows.wholeSafeRow.domain false) (Rows.wholeSafeSpec.post enc Tryz.prog Tryz.f6 false true false false) := by
  refine returnsInHanded_of_change (C := Tryz.checked) own started (by kernel_rfl) Tryz.func6
    (ChangeSpec.witness6 (enc := enc) (C := Tryz.checked) false ⟨#[], #[.agg #[.int .i64 0, .int .i64 0, .slice none 0 0, .int .i64 0, .int .i64 0, .int .i64 0, .int .i64 0, .int .i64 0, .int .i64 0, .int .i64 0], .agg #[.slice none 0 0, .slice none 0 0], .agg #[.int .i64 0, .int .i64 0, .int .i64 0, .int .i64 0, .int .i64 0, .int .i64 0, .slice none 0 0, .slice none 0 0]], []⟩ 8 (by kernel_rfl) (by kernel_rfl) (by kernel_rfl) (by kernel_rfl)) ?_
  intro W base args ds gs before hval0 hW hcnd _
  have hval : ∀ (j : Nat) t v, Tryz.f6.params[j]? = some t → args[j]? = some v → Value.okWide Tryz.prog W .any base t v := hval0
  have hW' := hW
  obtain ⟨p, q, hA0, hV, rfl, hfz, hnd⟩ := hW
  have hA : DataW.TrodAll enc Tryz.prog W 0 (fun _ => true) true Tryz.f6.params.toList args.toList ds p := hA0
  rw [Tryz.params6] at hA hval
  have hwalk := calls_top (n := 9) (f := 6) hA (fun j t v a b => hval j t v (by simpa using a) (by simpa using b)) (by kernel_rfl) (fun H xs hn hy => wholeSafe_top H xs hn hy)
  rw [Array.toArray_toList] at hwalk
  obtain ⟨v0, vs0, d0, ds0, p0, q0, hargs, rfl, rfl, h0, r0⟩ := trodAll_cons hA
  obtain ⟨v1, vs1, d1, ds1, p1, q1, rfl, rfl, rfl, h1, r1⟩ := trodAll_cons r0
  obtain ⟨v2, vs2, d2, ds2, p2, q2, rfl, rfl, rfl, h2, r2⟩ := trodAll_cons r1
  obtain ⟨rfl, rfl, rfl⟩ := trodAll_nil r2
  obtain rfl : args = #[v0, v1, v2] := by cases args; simp_all
  obtain ⟨rfl, rfl⟩ := trodVars_none hV
  have k0 := h0
  have lt0 : ∀ x ∈ p0, x.block < W.heap.size := by obtain ⟨m, hm⟩ := k0; exact DataW.trod_lt m _ _ _ hm
  have k1 := h1
  have lt1 : ∀ x ∈ p1, x.block < W.heap.size := by obtain ⟨m, hm⟩ := k1; exact DataW.trod_lt m _ _ _ hm
  have k2 := h2
  have lt2 : ∀ x ∈ p2, x.block < W.heap.size := by obtain ⟨m, hm⟩ := k2; exact DataW.trod_lt m _ _ _ hm
  clear hA0 hval0
  refine hwalk.mono fun e W' ⟨he, bel⟩ => ?_
  subst he
  exact ⟨_, rfl, _, _, _, [], _, [], hW', trodAll_mk1 (shut_bool Tryz.underlying4 _), (trodAll_cons_mk (Below.trod laidOut (by kernel_rfl) (of_decide_eq_true (by kernel_rfl)) k0 bel lt0) (trodAll_cons_mk (Below.trod laidOut (by kernel_rfl) (of_decide_eq_true (by kernel_rfl)) k1 bel lt1) (trodAll_cons_mk (Below.trod laidOut (by kernel_rfl) (of_decide_eq_true (by kernel_rfl)) k2 bel lt2) trodAll_mk0))), rfl, bel.frame _, fun h => by cases h⟩
theorem and_t {a b : Bool} (h : a = true) (k : b = true) : (a && b) = true := by rw [h, k]; rfl
theorem wholeSafe_h0 : (Rows.wholeSafeRow.inPlace == Tryz.pinned.checked.prog.inPlace 6) = true := by kernel_rfl
theorem wholeSafe_h1 : (Rows.wholeSafeRow.unfollowed == Tryz.pinned.checked.prog.unfollowed 6) = true := by kernel_rfl
theorem wholeSafe_h2 : (Rows.wholeSafeRow.recurses == Tryz.pinned.checked.prog.recurses 6) = true := by kernel_rfl
theorem wholeSafe_h3 : (Rows.wholeSafeRow.named == Tryz.pinned.checked.prog.varsNamed 6) = true := by kernel_rfl
theorem wholeSafe_h4 : Tryz.pinned.checked.prog.stopsHeard = true := by kernel_rfl
theorem wholeSafe_h5 : Tryz.pinned.checked.prog.mayEnter = true := by kernel_rfl
theorem wholeSafe_h6 : (Rows.wholeSafeRow.lifted == Tryz.pinned.checked.prog.liftsFinal) = true := by kernel_rfl
theorem wholeSafe_closed : joinedFacts Tryz.pinned.checked.prog 6 Tryz.f6 Rows.wholeSafeSpec Rows.wholeSafeRow = true := by
  unfold joinedFacts
  exact (and_t (and_t (and_t (and_t (and_t (and_t (and_t (and_t (and_t (and_t (and_t (and_t (and_t (and_t (and_t (and_t (and_t (and_t (and_t (and_t (and_t (and_t (and_t (and_t (and_t (and_t (and_t (and_t (and_t (and_t (and_t (by kernel_rfl) laidOut) (by kernel_rfl)) (by kernel_rfl)) (by kernel_rfl)) (by kernel_rfl)) (by kernel_rfl)) (by kernel_rfl)) (by kernel_rfl)) wholeSafe_h0) wholeSafe_h1) wholeSafe_h2) wholeSafe_h3) (by kernel_rfl)) (by kernel_rfl)) (by kernel_rfl)) (by kernel_rfl)) (by kernel_rfl)) (by kernel_rfl)) (by kernel_rfl)) (by kernel_rfl)) (by kernel_rfl)) (by kernel_rfl)) (by kernel_rfl)) wholeSafe_h4) wholeSafe_h5) wholeSafe_h6) (by kernel_rfl)) (by kernel_rfl)) (by kernel_rfl)) (by kernel_rfl)) (by kernel_rfl))
theorem wholeSafe_over : Rows.wholeSafeRow.holds Tryz.pinned (OpenSpec.ofChange Rows.wholeSafeSpec) :=
  OpenClaim.holds_of_wide 6 Tryz.f6 rfl rfl rfl rfl rfl rfl rfl ⟨rfl, rfl, rfl, rfl, rfl⟩ rfl rfl rfl rfl rfl (by kernel_rfl) Tryz.func6 wholeSafe_closed
    (of_decide_eq_true (by kernel_rfl)) (by unfold Func.isWrapper; rw [if_neg (by decide +kernel)]; exact ⟨rfl, rfl⟩)
    (fun os started H enc _ => wholeSafe_lifted os started H enc)
/-- The given statement. -/
theorem wholeSafe_proved : Rows.WholeSafeSaid := wholeSafe_over
end
end Go.Proofs.YtcokgigjmjlmnaaGreat
