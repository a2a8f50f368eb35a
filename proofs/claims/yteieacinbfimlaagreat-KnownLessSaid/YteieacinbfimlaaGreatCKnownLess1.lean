/- Proved: the law KnownLess returns true on every input, and its arguments read afterwards as before. Conditions: none beyond the given row's. -/
import Derived.Test.YteieacinbfimlaaGreatC5
import Derived.Test.YteieacinbfimlaaGreatC3
namespace Go.Proofs.YteieacinbfimlaaGreat
set_option linter.unusedSimpArgs false
set_option linter.unusedVariables false
open Go.RowKit
set_option maxHeartbeats 4000000
set_option maxRecDepth 100000
theorem tdiv2_bd {a b r : Int} (h : Int.tdiv (a + b) 2 = r) (k : a ≤ b) : a ≤ r ∧ r ≤ b := by
  rcases Int.lt_or_le (a + b) 0 with q | q
  · have e : Int.tdiv (a + b) 2 = -((-(a + b)) / 2) := by
      have h1 : Int.tdiv (-(-(a + b))) 2 = -(Int.tdiv (-(a + b)) 2) := Int.neg_tdiv ..
      rw [Int.neg_neg] at h1
      rw [h1, Int.tdiv_eq_ediv_of_nonneg (by omega)]
    omega
  · rw [Int.tdiv_eq_ediv_of_nonneg q] at h
    omega
theorem lless_c (H : AHeap) (W : Int) (Hh : Int) (pp : AV) (xs : List Int) (s : AV) (l : List T6) (q : AV) (sc : List (Int × Int)) (hpp : Sl H 1 pp xs.length (ints .u8 xs)) (hs : Sl H 6 s l.length (r6 l)) (hq : Sl H 2 q sc.length (prs sc)) : ACalls Tryz.prog 9 [.agg [.int .i64 W, .int .i64 Hh, pp], s, q] H (fun v H' => v = .bool true ∧ H' = H) := by
  obtain ⟨bpp, opp, cpp, rfl, hbpp⟩ := hpp
  have hblpp := getElem?_lt hbpp
  have hb0pp := fun l => get_app (l := l) hbpp
  obtain ⟨bs, os, cs, rfl, hbs⟩ := hs
  have hbls := getElem?_lt hbs
  have hb0s := fun l => get_app (l := l) hbs
  obtain ⟨bq, oq, cq, rfl, hbq⟩ := hq
  have hblq := getElem?_lt hbq
  have hb0q := fun l => get_app (l := l) hbq
  refine AcT false Tryz.func9 ?_; intro hbel Q hQ
  have g'1 := (jn @hbpp (jn @hb0pp (jn @hbs (jn @hb0s (jn @hbq @hb0q)))))
  refine runTf g'1 ?_
  refine call_v (by kernel_rfl) (awake_c _) ?_
  refine runTf g'1 ?_
  refine call_v (by kernel_rfl) (rfew_c _ W Hh _ xs _ l _ sc ⟨_, _, _, rfl, by first | exact hb0pp _ | exact hbpp⟩ ⟨_, _, _, rfl, by first | exact hb0s _ | exact hbs⟩ ⟨_, _, _, rfl, by first | exact hb0q _ | exact hbq⟩) ?_
  refine runTf g'1 ?_
  refine gd_split (fun h1 => ?_) (fun h1 => ?_)
  · have h1d := bsT h1
    have hfl := fewK_len h1d
    have g'2 := (jn @h1 (jn @h1d g'1))
    refine runTf g'2 ?_
    refine call_v (by kernel_rfl) (bset_c _ _ l ⟨_, _, _, rfl, by first | exact hb0s _ | exact hbs⟩ (by omega)) ?_
    refine runTf g'2 ?_
    refine gd_split (fun h2 => ?_) (fun h2 => ?_)
    · have h2d := bsT h2
      have hSS := h2d
      have g'3 := (jn @h2 (jn @h2d g'2))
      refine runTf g'3 ?_
      refine gd_split (fun h3 => ?_) (fun h3 => ?_)
      · have h3d := bsT h3
        have h3n := bnT h3
        have hl0 : ¬ l.length = 0 := by have q := h3d; first | omega | (rw [beq_eq_false_iff_ne] at q; omega)
        have g'4 := (jn @h3 (jn @h3n (jn @int_bne (jn @int_beq g'3))))
        refine runTf g'4 ?_
        refine call_v (by kernel_rfl) (rsmall_c _ _ l ⟨_, _, _, rfl, by first | exact hb0s _ | exact hbs⟩ (by assumption)) ?_
        refine runTf g'4 ?_
        refine cond_split (fun h4 => ?_) (fun h4 => ?_)
        · have h4d := bsT h4
          have g'5 := (jn @h4 (jn @h4d g'4))
          refine runTf g'5 ?_
          refine call_v (by kernel_rfl) (awake_c _) ?_
          refine runTf g'5 ?_
          exact hQ _ _ (end_plain (.inl rfl) hbel (x := .bool true) (resT Tryz.results9) rfl ⟨by first | rfl | simp, rfl⟩)
        · have h4d := bsT h4
          have htau := h4d
          obtain ⟨bj, hj1⟩ : ∃ n : Nat, (((l.length : Nat) : Int) - 1) = ((n : Nat) : Int) := ⟨l.length - 1, by omega⟩
          have hsfj := hj1
          have hbt : bj < l.length := by omega
          have hbb := bxB_iff.1 ((setB_iff.1 hSS).2 _ (g6_mem hbt))
          have hba := arcB_iff.1 hbb.2.2
          have hbc : (-1048576 ≤ g61 l bj ∧ g61 l bj ≤ g63 l bj ∧ g63 l bj ≤ 1048576) ∧ (-1048576 ≤ g62 l bj ∧ g62 l bj ≤ g64 l bj ∧ g64 l bj ≤ 1048576) := ⟨hbb.1, hbb.2.1⟩
          have hbd : (0 ≤ g65 l bj ∧ g65 l bj ≤ 255) ∧ (1 ≤ g66 l bj ∧ g66 l bj ≤ 256) := by
            have q1 : 0 ≤ g65 l bj ∧ g65 l bj < 256 := hba.1
            have q2 : 1 ≤ g66 l bj ∧ g66 l bj ≤ 256 := hba.2.1
            omega
          obtain ⟨rx, hx1⟩ : ∃ r : Int, Int.tdiv ((g61 l bj) + (g63 l bj)) 2 = r := ⟨_, rfl⟩
          have hsfx := hx1
          obtain ⟨F0, hf1⟩ : ∃ r : Int, Int.tmod (((g65 l bj) + (g66 l bj)) - 1) 256 = r := ⟨_, rfl⟩
          have hsff := hf1
          have hxr := tdiv2_bd hx1 hbc.1.2.1
          have hfe : F0 = (g65 l bj + g66 l bj - 1) % 256 := by rw [← hf1, Int.tmod_eq_emod_of_nonneg (by omega)]
          have hpl := pv_less (W := W) (Hh := Hh) (xs := xs) (sc := sc) (g := 3) (rx := rx) (ry := g64 l bj) (F := F0) hSS (by omega) (g6_mem hbt) hxr ⟨hbc.2.2.1, Int.le_refl _⟩ hfe
          have hpn := pvL_le (W := W) (Hh := Hh) (xs := xs) (l := l) (sc := sc) (g := 3)
          have q5 := r6_load (l := l) (j := bj) (by omega)
          have g'6 := (jn @h4 (jn @h4d (jn @hsfj (jn @hsfx (jn @hsff (jn @r6_len (jn @q5 g'4)))))))
          refine runTf g'6 ?_
          refine call_v (by kernel_rfl) (kProven_c _ W Hh _ xs _ l _ sc 3 ⟨_, _, _, rfl, by first | exact hb0pp _ | exact hbpp⟩ ⟨_, _, _, rfl, by first | exact hb0s _ | exact hbs⟩ ⟨_, _, _, rfl, by first | exact hb0q _ | exact hbq⟩ (by first | omega | simp) (by first | omega | simp)) ?_
          refine runTf g'6 ?_
          refine call_v (by kernel_rfl) (kProven_c _ W Hh _ xs _ [(rx, g64 l bj, rx, g64 l bj, F0, 1)] _ sc 3 ⟨_, _, _, rfl, by first | exact hb0pp _ | exact hbpp⟩ ⟨_, _, _, by first | rfl | (rw [List.length_append]; done) | (rw [List.length_append]; rfl), by first | rfl | (rw [get_newk]; rfl) | (rw [get_new0]; rfl) | (rw [get_newk, prs_append]; rfl) | (rw [get_new0, prs_append]; rfl)⟩ ⟨_, _, _, rfl, by first | exact hb0q _ | exact hbq⟩ (by first | omega | simp) (by first | omega | simp)) ?_
          refine runTf g'6 ?_
          refine cond_split (fun h6 => ?_) (fun h6 => ?_)
          · have h6d := bsT h6
            have h6n := bnT h6
            first | exact absurd hpl.1 h6d | (rw [hpl.1] at h6d; simp at h6d)
          · have h6d := bsT h6
            have h6n := bnT h6
            have g'7 := (jn @h6 (jn @h6n g'6))
            refine runTf g'7 ?_
            refine go_loop try_mixed (by kernel_rfl) (fun k F Hx => ∃ i : Nat, i + k = (pvL W Hh xs l sc 3).length ∧ F = [(9, .sl (some (H.length, 0)) ((pvL W Hh xs l sc 3).length) none), (11, .sl (some (H.length + 1, 0)) ((pvL W Hh xs [(rx, g64 l bj, rx, g64 l bj, F0, 1)] sc 3).length) none), (13, .int .i64 ((i : Nat) : Int))] ∧ Hx = H ++ [.cells (ownG (pvR W Hh xs l sc 3).length) 2 (prs (pvL W Hh xs l sc 3)), .cells (ownG (pvR W Hh xs [(rx, g64 l bj, rx, g64 l bj, F0, 1)] sc 3).length) 2 (prs (pvL W Hh xs [(rx, g64 l bj, rx, g64 l bj, F0, 1)] sc 3))]) ((pvL W Hh xs l sc 3).length) ?_ ?_
            · refine ⟨_, _, _, ⟨0, by omega, rfl, rfl⟩, Abs.byG hbel [] rfl [3, 5] (by decide) ?_⟩
              exact absR
            · rintro k0 F Hx ⟨i, hm0, rfl, rfl⟩ J0 hJ0
              have g'8 := (jn @prs_len (jn @prs_one g'7))
              refine runTf g'8 ?_
              refine cond_split (fun h7 => ?_) (fun h7 => ?_)
              · have h7d := bsT h7
                have hlt : i < (pvL W Hh xs l sc 3).length := by omega
                have q8 := prs_load (l := pvL W Hh xs l sc 3) (j := i) (by omega)
                have g'9 := (jn @h7 (jn @h7d (jn @q8 g'8)))
                refine runTf g'9 ?_
                refine call_v (by kernel_rfl) (in_c _ _ (pvL W Hh xs [(rx, g64 l bj, rx, g64 l bj, F0, 1)] sc 3) (g1 (pvL W Hh xs l sc 3) i) (g2 (pvL W Hh xs l sc 3) i) ⟨_, _, _, by first | rfl | (rw [List.length_append]; done) | (rw [List.length_append]; rfl), by first | rfl | (rw [get_newk]; rfl) | (rw [get_new0]; rfl) | (rw [get_newk, prs_append]; rfl) | (rw [get_new0, prs_append]; rfl)⟩ (by first | exact pvL_le | omega)) ?_
                refine runTf g'9 ?_
                refine cond_split (fun h9 => ?_) (fun h9 => ?_)
                · have h9d := bsT h9
                  exact absurd (hpl.2 _ (List.getElem_mem hlt)) (by rw [← pr_eq hlt]; exact of_decide_eq_false h9d)
                · have h9d := bsT h9
                  have g'10 := (jn @h9 (jn @h9d g'9))
                  refine runTf g'10 ?_
                  refine hJ0 _ _ ⟨k0 - 1, by omega, _, _, _, ⟨i + 1, by omega, rfl, rfl⟩, Abs.byG hbel [] rfl [0, 1] (by decide) ?_⟩
                  exact absR
              · have h7d := bsT h7
                have g'11 := (jn @h7 (jn @h7d g'8))
                refine runTf g'11 ?_
                exact hQ _ _ (end_plain (.inl rfl) hbel (x := .bool true) (resT Tryz.results9) rfl ⟨by first | rfl | simp, rfl⟩)
      · have h3d := bsT h3
        have h3n := bnT h3
        have g'12 := (jn @h3 (jn @h3n (jn @int_bne (jn @int_beq g'3))))
        refine runTf g'12 ?_
        refine call_v (by kernel_rfl) (awake_c _) ?_
        refine runTf g'12 ?_
        exact hQ _ _ (end_plain (.inl rfl) hbel (x := .bool true) (resT Tryz.results9) rfl ⟨by first | rfl | simp, rfl⟩)
    · have h2d := bsT h2
      have g'13 := (jn @h2 (jn @h2d g'2))
      refine runTf g'13 ?_
      refine call_v (by kernel_rfl) (awake_c _) ?_
      refine runTf g'13 ?_
      exact hQ _ _ (end_plain (.inl rfl) hbel (x := .bool true) (resT Tryz.results9) rfl ⟨by first | rfl | simp, rfl⟩)
  · have h1d := bsT h1
    have g'14 := (jn @h1 (jn @h1d g'1))
    refine runTf g'14 ?_
    refine call_v (by kernel_rfl) (awake_c _) ?_
    refine runTf g'14 ?_
    exact hQ _ _ (end_plain (.inl rfl) hbel (x := .bool true) (resT Tryz.results9) rfl ⟨by first | rfl | simp, rfl⟩)
open Go.RowKit
set_option maxRecDepth 100000 in
theorem knownLess_top (H : AHeap) (xs : List AV) (hn : xs.length = 3) (hy : ∀ (j : Nat) (t : TypeId) (x : AV), [24, 25, 26][j]? = some t → xs[j]? = some x → ATy Tryz.prog H 9 t x) : ACalls Tryz.prog 9 xs H (fun v H' => v = .bool true ∧ H' = H) := by
  match xs, hn, hy with
  | [a0, a1, a2], _, hy =>
    obtain ⟨ys0, e0, r0_0⟩ := (hy 0 _ a0 rfl rfl).agg (ls := [3, 3, 22]) (by kernel_rfl) (by kernel_rfl)
    obtain ⟨y0_0, q0_0, rfl, t0_0, r0_1⟩ := r0_0.cons
    obtain ⟨z1, rfl, w1⟩ := t0_0.int (k := .i64) (by kernel_rfl)
    obtain ⟨y0_1, q0_1, rfl, t0_1, r0_2⟩ := r0_1.cons
    obtain ⟨z2, rfl, w2⟩ := t0_1.int (k := .i64) (by kernel_rfl)
    obtain ⟨y0_2, q0_2, rfl, t0_2, r0_3⟩ := r0_2.cons
    obtain ⟨l3, s3, m3, w3⟩ := t0_2.intsU (n := 7) (t := 22) (e := 5) (by kernel_rfl) (by kernel_rfl) (by kernel_rfl)
    obtain rfl := r0_3.nil
    subst e0
    have t1 := (hy 1 _ a1 rfl rfl).one (by kernel_rfl) (by kernel_rfl)
    obtain ⟨l4, s4, m4, w4⟩ := t1.rec6 (n := 7) (t := 25) (e := 58) (t1 := 3) (t2 := 3) (t3 := 3) (t4 := 3) (t5 := 3) (t6 := 3) (by kernel_rfl) (by kernel_rfl) (by kernel_rfl) (by kernel_rfl) (by kernel_rfl) (by kernel_rfl) (by kernel_rfl) (by kernel_rfl)
    have t2 := (hy 2 _ a2 rfl rfl).one (by kernel_rfl) (by kernel_rfl)
    obtain ⟨l5, s5, m5, w5⟩ := t2.pairsU (n := 7) (t := 26) (e := 37) (u := 3) (v := 3) (by kernel_rfl) (by kernel_rfl) (by kernel_rfl) (by kernel_rfl)
    exact lless_c H z1 z2 _ l3 _ l4 _ l5 s3 s4 s5
section
open Go.ChangeShapes Go.WideShapes Go.ChangeAt Go.RowKit Go.Joins
open Go.ChangeMaps (open_string shut_string)
set_option maxRecDepth 100000 in
theorem knownLess_lifted (os : Os) (started : os.Started) (H : Type) (enc : TypeId × Value → H) :
    ReturnsInHanded {} Tryz.checked os 9 .any (Rows.knownLessSpec.pre6 enc Tryz.prog Tryz.f9 Rows.knownLessRow.domain false) (Rows.knownLessSpec.post enc Tryz.prog Tryz.f9 false true false false) := by
  refine returnsInHanded_of_change (C := Tryz.checked) own started (by kernel_rfl) Tryz.func9
    (ChangeSpec.witness6 (enc := enc) (C := Tryz.checked) false ⟨#[], #[.agg #[.int .i64 0, .int .i64 0, .slice none 0 0], .slice none 0 0, .slice none 0 0], []⟩ 8 (by kernel_rfl) (by kernel_rfl) (by kernel_rfl) (by kernel_rfl)) ?_
  intro W base args ds gs before hval0 hW hcnd _
  have hval : ∀ (j : Nat) t v, Tryz.f9.params[j]? = some t → args[j]? = some v → Value.okWide Tryz.prog W .any base t v := hval0
  have hW' := hW
  obtain ⟨p, q, hA0, hV, rfl, hfz, hnd⟩ := hW
  have hA : DataW.TrodAll enc Tryz.prog W 0 (fun _ => true) true Tryz.f9.params.toList args.toList ds p := hA0
  rw [Tryz.params9] at hA hval
  have hwalk := calls_top (n := 9) (f := 9) hA (fun j t v a b => hval j t v (by simpa using a) (by simpa using b)) (by kernel_rfl) (fun H xs hn hy => knownLess_top H xs hn hy)
  rw [Array.toArray_toList] at hwalk
  obtain ⟨v0, vs0, d0, ds0, p0, q0, hargs, rfl, rfl, h0, r0⟩ := trodAll_cons hA
  obtain ⟨v1, vs1, d1, ds1, p1, q1, rfl, rfl, rfl, h1, r1⟩ := trodAll_cons r0
  obtain ⟨v2, vs2, d2, ds2, p2, q2, rfl, rfl, rfl, h2, r2⟩ := trodAll_cons r1
  obtain ⟨rfl, rfl, rfl⟩ := trodAll_nil r2
  obtain rfl : args = #[v0, v1, v2] := by cases args; simp_all
  obtain ⟨rfl, rfl⟩ := trodVars_none hV
  have k0 := h0
  have lt0 : ∀ x ∈ p0, x.block < W.heap.size := by obtain ⟨m, hm⟩ := k0; exact DataW.trod_lt m _ _ _ hm
  have k1 := h1
  have lt1 : ∀ x ∈ p1, x.block < W.heap.size := by obtain ⟨m, hm⟩ := k1; exact DataW.trod_lt m _ _ _ hm
  have k2 := h2
  have lt2 : ∀ x ∈ p2, x.block < W.heap.size := by obtain ⟨m, hm⟩ := k2; exact DataW.trod_lt m _ _ _ hm
  clear hA0 hval0
  refine hwalk.mono fun e W' ⟨he, bel⟩ => ?_
  subst he
  exact ⟨_, rfl, _, _, _, [], _, [], hW', trodAll_mk1 (shut_bool Tryz.underlying4 _), (trodAll_cons_mk (Below.trod laidOut (by kernel_rfl) (of_decide_eq_true (by kernel_rfl)) k0 bel lt0) (trodAll_cons_mk (Below.trod laidOut (by kernel_rfl) (of_decide_eq_true (by kernel_rfl)) k1 bel lt1) (trodAll_cons_mk (Below.trod laidOut (by kernel_rfl) (of_decide_eq_true (by kernel_rfl)) k2 bel lt2) trodAll_mk0))), rfl, bel.frame _, fun h => by cases h⟩
theorem and_t {a b : Bool} (h : a = true) (k : b = true) : (a && b) = true := by rw [h, k]; rfl
theorem knownLess_h0 : (Rows.knownLessRow.inPlace == Tryz.pinned.checked.prog.inPlace 9) = true := by kernel_rfl
theorem knownLess_h1 : (Rows.knownLessRow.unfollowed == Tryz.pinned.checked.prog.unfollowed 9) = true := by kernel_rfl
theorem knownLess_h2 : (Rows.knownLessRow.recurses == Tryz.pinned.checked.prog.recurses 9) = true := by kernel_rfl
theorem knownLess_h3 : (Rows.knownLessRow.named == Tryz.pinned.checked.prog.varsNamed 9) = true := by kernel_rfl
theorem knownLess_h4 : Tryz.pinned.checked.prog.stopsHeard = true := by kernel_rfl
theorem knownLess_h5 : Tryz.pinned.checked.prog.mayEnter = true := by kernel_rfl
theorem knownLess_h6 : (Rows.knownLessRow.lifted == Tryz.pinned.checked.prog.liftsFinal) = true := by kernel_rfl
theorem knownLess_closed : joinedFacts Tryz.pinned.checked.prog 9 Tryz.f9 Rows.knownLessSpec Rows.knownLessRow = true := by
  unfold joinedFacts
  exact (and_t (and_t (and_t (and_t (and_t (and_t (and_t (and_t (and_t (and_t (and_t (and_t (and_t (and_t (and_t (and_t (and_t (and_t (and_t (and_t (and_t (and_t (and_t (and_t (and_t (and_t (and_t (and_t (and_t (and_t (and_t (by kernel_rfl) laidOut) (by kernel_rfl)) (by kernel_rfl)) (by kernel_rfl)) (by kernel_rfl)) (by kernel_rfl)) (by kernel_rfl)) (by kernel_rfl)) knownLess_h0) knownLess_h1) knownLess_h2) knownLess_h3) (by kernel_rfl)) (by kernel_rfl)) (by kernel_rfl)) (by kernel_rfl)) (by kernel_rfl)) (by kernel_rfl)) (by kernel_rfl)) (by kernel_rfl)) (by kernel_rfl)) (by kernel_rfl)) (by kernel_rfl)) knownLess_h4) knownLess_h5) knownLess_h6) (by kernel_rfl)) (by kernel_rfl)) (by kernel_rfl)) (by kernel_rfl)) (by kernel_rfl))
theorem knownLess_over : Rows.knownLessRow.holds Tryz.pinned (OpenSpec.ofChange Rows.knownLessSpec) :=
  OpenClaim.holds_of_wide 9 Tryz.f9 rfl rfl rfl rfl rfl rfl rfl ⟨rfl, rfl, rfl, rfl, rfl⟩ rfl rfl rfl rfl rfl (by kernel_rfl) Tryz.func9 knownLess_closed
    (of_decide_eq_true (by kernel_rfl)) (by unfold Func.isWrapper; rw [if_neg (by decide +kernel)]; exact ⟨rfl, rfl⟩)
    (fun os started H enc _ => knownLess_lifted os started H enc)
/-- The given statement. -/
theorem knownLess_proved : Rows.KnownLessSaid := knownLess_over
end
end Go.Proofs.YteieacinbfimlaaGreat
