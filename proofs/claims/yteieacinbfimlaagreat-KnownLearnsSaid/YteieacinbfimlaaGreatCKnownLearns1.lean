/- Proved: the law KnownLearns returns true on every input, and its arguments read afterwards as before. Conditions: none beyond the given row's. -/
import Derived.Test.YteieacinbfimlaaGreatC5
import Derived.Test.YteieacinbfimlaaGreatC6
import Derived.Test.YteieacinbfimlaaGreatC3
namespace Go.Proofs.YteieacinbfimlaaGreat
set_option linter.unusedSimpArgs false
set_option linter.unusedVariables false
open Go.RowKit
set_option maxHeartbeats 4000000
set_option maxRecDepth 100000
theorem llrn_c (H : AHeap) (W : Int) (Hh : Int) (pp : AV) (xs : List Int) (s : AV) (l : List T6) (q : AV) (sc : List (Int × Int)) (hpp : Sl H 1 pp xs.length (ints .u8 xs)) (hs : Sl H 6 s l.length (r6 l)) (hq : Sl H 2 q sc.length (prs sc)) : ACalls Tryz.prog 5 [.agg [.int .i64 W, .int .i64 Hh, pp], s, q] H (fun v H' => v = .bool true ∧ H' = H) := by
  obtain ⟨bpp, opp, cpp, rfl, hbpp⟩ := hpp
  have hblpp := getElem?_lt hbpp
  have hb0pp := fun l => get_app (l := l) hbpp
  obtain ⟨bs, os, cs, rfl, hbs⟩ := hs
  have hbls := getElem?_lt hbs
  have hb0s := fun l => get_app (l := l) hbs
  obtain ⟨bq, oq, cq, rfl, hbq⟩ := hq
  have hblq := getElem?_lt hbq
  have hb0q := fun l => get_app (l := l) hbq
  (refine ACalls_pieces Tryz.func5 _ rfl (Nat.le_of_ble_eq_true (by kernel_rfl)) rfl ?_; intro hbel Q hQ hQ' c hc; unfold Tryz.f5 at hc; simp only [Option.some.injEq] at hc; subst hc; clear hQ')
  refine AW_step false try_mixed (by kernel_rfl) (fun F Hx => look F 1 = .sl (some (bs, 0)) l.length cs ∧ look F 2 = .sl (some (bq, 0)) sc.length cq ∧ look F 3 = .ptr (some (H.length, 0)) ∧ look F 6 = .bool false ∧ Hx = H ++ [.cells true 0 [.int .i64 W, .int .i64 Hh, .sl (some (bpp, 0)) xs.length cpp]]) ?_ ?_
  · skip
    have g'1 := (jn @hbpp (jn @hb0pp (jn @hbs (jn @hb0s (jn @hbq @hb0q)))))
    refine runTf g'1 ?_
    refine inv_of ?_
    exact absT
  rintro F Hx ⟨f1, f2, f3, f4, rfl⟩
  refine AW_step false try_mixed (by kernel_rfl) (fun F Hx => fewK xs l sc = true ∧ look F 1 = .sl (some (bs, 0)) l.length cs ∧ look F 2 = .sl (some (bq, 0)) sc.length cq ∧ look F 3 = .ptr (some (H.length, 0)) ∧ look F 6 = .bool false ∧ Hx = H ++ [.cells true 0 [.int .i64 W, .int .i64 Hh, .sl (some (bpp, 0)) xs.length cpp]]) ?_ ?_
  · skip
    have g'2 := (jn @hbpp (jn @hb0pp (jn @hbs (jn @hb0s (jn @hbq (jn @hb0q (jn @f1 (jn @f2 (jn @f3 @f4)))))))))
    refine runTf g'2 ?_
    refine call_v (by kernel_rfl) (awake_c _) ?_
    refine runTf g'2 ?_
    refine call_v (by kernel_rfl) (rfew_c _ W Hh _ xs _ l _ sc ⟨_, _, _, rfl, by first | exact hb0pp _ | exact hbpp⟩ ⟨_, _, _, rfl, by first | exact hb0s _ | exact hbs⟩ ⟨_, _, _, rfl, by first | exact hb0q _ | exact hbq⟩) ?_
    refine runTf g'2 ?_
    refine cond_split (fun h5 => ?_) (fun h5 => ?_)
    · have h5d := bsT h5
      have g'3 := (jn @h5 (jn @h5d g'2))
      refine runTf g'3 ?_
      refine call_v (by kernel_rfl) (awake_c _) ?_
      refine runTf g'3 ?_
      exact hQ _ _ (end_plain (.inl rfl) hbel (x := .bool true) (resTf (jn @f1 (jn @f2 (jn @f3 @f4))) Tryz.results5) rfl ⟨rfl, rfl⟩)
    · have h5d := bsT h5
      have g'4 := (jn @h5 (jn @h5d g'2))
      refine runTf g'4 ?_
      refine inv_of ?_
      exact absTf (jn @f1 (jn @f2 (jn @f3 @f4)))
  rintro F Hx ⟨h6d, f7, f8, f9, f10, rfl⟩
  have hfl := fewK_len h6d
  refine AW_special false try_mixed [[0, 1, 2, 3, 4, 5, 6, 7, 8, 9, 10, 11], [0, 1, 2, 3, 4, 9, 5, 6, 7, 8, 10, 11], [0, 1, 2, 3, 9, 4, 5, 6, 7, 8, 10, 11]] (by kernel_rfl) (fun F2 H2 => F2 = [(1, .sl (some (bs, 0)) l.length cs), (2, .sl (some (bq, 0)) sc.length cq), (3, .ptr (some (H.length, 0))), (6, .bool false), (7, .ptr (some (H.length + 2, 0))), (8, .int .i64 (lnE W Hh xs l sc (rngV W Hh)))] ∧ H2 = H ++ [.cells true 0 [.int .i64 W, .int .i64 Hh, .sl (some (bpp, 0)) xs.length cpp], .cells (ownG (lnX W Hh xs l sc (rngV W Hh)).length) 1 (ints .u8 (lnX W Hh xs l sc (rngV W Hh))), .cells true 0 [.int .i64 (lnZ W Hh xs l sc (rngV W Hh) W), .int .i64 (lnZ W Hh xs l sc (rngV W Hh) Hh), .sl (some (H.length + 1, 0)) ((lnX W Hh xs l sc (rngV W Hh)).length) none]]) ?_ ?_
  · refine reps_cons ?_ (reps_cons ?_ (reps_cons ?_ (reps_nil))) <;> intro J hJ
    · skip
      have g'5 := (jn @hbpp (jn @hb0pp (jn @hbs (jn @hb0s (jn @hbq (jn @hb0q (jn @f1 (jn @f2 (jn @f3 (jn @f4 (jn @f7 (jn @f8 (jn @f9 (jn @f10 @h6d))))))))))))))
      refine runDf g'5 ?_
      refine call_d (by kernel_rfl) (rngof_c _ W Hh _ xs ⟨_, _, _, rfl, by first | exact hb0pp _ | exact hbpp⟩) ?_
      refine runDf g'5 ?_
      refine call_x (by kernel_rfl) (by simp) (learn_c _ W Hh _ xs _ l _ sc (rngV W Hh) ⟨_, _, _, rfl, by first | exact hb0pp _ | exact hbpp⟩ ⟨_, _, _, rfl, by first | exact hb0s _ | exact hbs⟩ ⟨_, _, _, rfl, by first | exact hb0q _ | exact hbq⟩ (by first | omega | simp) (by first | omega | simp)) ?_
      refine runDf g'5 ?_
      refine inv_of (hJ _ _ ⟨_, _, _, ⟨rfl, rfl⟩, Abs.byG hbel [] rfl [0, 1, 2] (by decide) ?_⟩)
      exact absRf (jn @f1 (jn @f2 (jn @f3 (jn @f4 (jn @f7 (jn @f8 (jn @f9 @f10)))))))
    · skip
      have g'6 := (jn @hbpp (jn @hb0pp (jn @hbs (jn @hb0s (jn @hbq (jn @hb0q (jn @f1 (jn @f2 (jn @f3 (jn @f4 (jn @f7 (jn @f8 (jn @f9 (jn @f10 @h6d))))))))))))))
      refine runDf g'6 ?_
      refine call_d (by kernel_rfl) (rngof_c _ W Hh _ xs ⟨_, _, _, rfl, by first | exact hb0pp _ | exact hbpp⟩) ?_
      refine runDf g'6 ?_
      refine call_x (by kernel_rfl) (by simp) (learn_c _ W Hh _ xs _ l _ sc (rngV W Hh) ⟨_, _, _, rfl, by first | exact hb0pp _ | exact hbpp⟩ ⟨_, _, _, rfl, by first | exact hb0s _ | exact hbs⟩ ⟨_, _, _, rfl, by first | exact hb0q _ | exact hbq⟩ (by first | omega | simp) (by first | omega | simp)) ?_
      refine runDf g'6 ?_
      refine inv_of (hJ _ _ ⟨_, _, _, ⟨rfl, rfl⟩, Abs.byG hbel [] rfl [0, 2, 1] (by decide) ?_⟩)
      exact absRf (jn @f1 (jn @f2 (jn @f3 (jn @f4 (jn @f7 (jn @f8 (jn @f9 @f10)))))))
    · skip
      have g'7 := (jn @hbpp (jn @hb0pp (jn @hbs (jn @hb0s (jn @hbq (jn @hb0q (jn @f1 (jn @f2 (jn @f3 (jn @f4 (jn @f7 (jn @f8 (jn @f9 (jn @f10 @h6d))))))))))))))
      refine runDf g'7 ?_
      refine call_d (by kernel_rfl) (rngof_c _ W Hh _ xs ⟨_, _, _, rfl, by first | exact hb0pp _ | exact hbpp⟩) ?_
      refine runDf g'7 ?_
      refine call_x (by kernel_rfl) (by simp) (learn_c _ W Hh _ xs _ l _ sc (rngV W Hh) ⟨_, _, _, rfl, by first | exact hb0pp _ | exact hbpp⟩ ⟨_, _, _, rfl, by first | exact hb0s _ | exact hbs⟩ ⟨_, _, _, rfl, by first | exact hb0q _ | exact hbq⟩ (by first | omega | simp) (by first | omega | simp)) ?_
      refine runDf g'7 ?_
      refine inv_of (hJ _ _ ⟨_, _, _, ⟨rfl, rfl⟩, Abs.byG hbel [] rfl [0, 2, 1] (by decide) ?_⟩)
      exact absRf (jn @f1 (jn @f2 (jn @f3 (jn @f4 (jn @f7 (jn @f8 (jn @f9 @f10)))))))
  rintro F2 H2 ⟨rfl, rfl⟩
  refine AW_special false try_mixed [[0, 1, 2, 3, 4, 5, 6, 7, 8, 9, 10, 11], [0, 1, 2, 3, 4, 9, 5, 6, 7, 8, 10, 11], [0, 1, 2, 3, 9, 4, 5, 6, 7, 8, 10, 11]] (by kernel_rfl) (fun F2 H2 => F2 = [(6, .bool false), (7, .ptr (some (H.length + 1, 0))), (8, .int .i64 (lnE W Hh xs l sc (rngV W Hh))), (9, .ptr (some (H.length + 3, 0))), (10, .int .i64 (lnE W Hh xs l sc (rngV W Hh)))] ∧ H2 = H ++ [.cells (ownG (lnX W Hh xs l sc (rngV W Hh)).length) 1 (ints .u8 (lnX W Hh xs l sc (rngV W Hh))), .cells true 0 [.int .i64 (lnZ W Hh xs l sc (rngV W Hh) W), .int .i64 (lnZ W Hh xs l sc (rngV W Hh) Hh), .sl (some (H.length, 0)) ((lnX W Hh xs l sc (rngV W Hh)).length) none], .cells (ownG (lnX W Hh xs l sc (rngV W Hh)).length) 1 (ints .u8 (lnX W Hh xs l sc (rngV W Hh))), .cells true 0 [.int .i64 (lnZ W Hh xs l sc (rngV W Hh) W), .int .i64 (lnZ W Hh xs l sc (rngV W Hh) Hh), .sl (some (H.length + 2, 0)) ((lnX W Hh xs l sc (rngV W Hh)).length) none]]) ?_ ?_
  · refine reps_cons ?_ (reps_cons ?_ (reps_cons ?_ (reps_nil))) <;> intro J hJ
    · skip
      have g'8 := (jn @hbpp (jn @hb0pp (jn @hbs (jn @hb0s (jn @hbq (jn @hb0q (jn @h6d (jn @ints_len @ints_ones))))))))
      refine runDf g'8 ?_
      refine call_d (by kernel_rfl) (rngof_c _ W Hh _ xs ⟨_, _, _, rfl, by first | exact hb0pp _ | exact hbpp⟩) ?_
      refine runDf g'8 ?_
      refine call_x (by kernel_rfl) (by simp) (rlearn_c _ W Hh _ xs _ l _ sc (rngV W Hh) ⟨_, _, _, rfl, by first | exact hb0pp _ | exact hbpp⟩ ⟨_, _, _, rfl, by first | exact hb0s _ | exact hbs⟩ ⟨_, _, _, rfl, by first | exact hb0q _ | exact hbq⟩ (by first | omega | simp) (by first | omega | simp)) ?_
      refine runDf g'8 ?_
      refine inv_of (hJ _ _ ⟨_, _, _, ⟨rfl, rfl⟩, Abs.byG hbel [] rfl [1, 2, 3, 4] (by decide) ?_⟩)
      exact absR
    · skip
      have g'9 := (jn @hbpp (jn @hb0pp (jn @hbs (jn @hb0s (jn @hbq (jn @hb0q (jn @h6d (jn @ints_len @ints_ones))))))))
      refine runDf g'9 ?_
      refine call_d (by kernel_rfl) (rngof_c _ W Hh _ xs ⟨_, _, _, rfl, by first | exact hb0pp _ | exact hbpp⟩) ?_
      refine runDf g'9 ?_
      refine call_x (by kernel_rfl) (by simp) (rlearn_c _ W Hh _ xs _ l _ sc (rngV W Hh) ⟨_, _, _, rfl, by first | exact hb0pp _ | exact hbpp⟩ ⟨_, _, _, rfl, by first | exact hb0s _ | exact hbs⟩ ⟨_, _, _, rfl, by first | exact hb0q _ | exact hbq⟩ (by first | omega | simp) (by first | omega | simp)) ?_
      refine runDf g'9 ?_
      refine inv_of (hJ _ _ ⟨_, _, _, ⟨rfl, rfl⟩, Abs.byG hbel [] rfl [1, 2, 4, 3] (by decide) ?_⟩)
      exact absR
    · skip
      have g'10 := (jn @hbpp (jn @hb0pp (jn @hbs (jn @hb0s (jn @hbq (jn @hb0q (jn @h6d (jn @ints_len @ints_ones))))))))
      refine runDf g'10 ?_
      refine call_d (by kernel_rfl) (rngof_c _ W Hh _ xs ⟨_, _, _, rfl, by first | exact hb0pp _ | exact hbpp⟩) ?_
      refine runDf g'10 ?_
      refine call_x (by kernel_rfl) (by simp) (rlearn_c _ W Hh _ xs _ l _ sc (rngV W Hh) ⟨_, _, _, rfl, by first | exact hb0pp _ | exact hbpp⟩ ⟨_, _, _, rfl, by first | exact hb0s _ | exact hbs⟩ ⟨_, _, _, rfl, by first | exact hb0q _ | exact hbq⟩ (by first | omega | simp) (by first | omega | simp)) ?_
      refine runDf g'10 ?_
      refine inv_of (hJ _ _ ⟨_, _, _, ⟨rfl, rfl⟩, Abs.byG hbel [] rfl [1, 2, 4, 3] (by decide) ?_⟩)
      exact absR
  rintro F2 H2 ⟨rfl, rfl⟩
  refine AW_fin false try_mixed (by kernel_rfl) ?_
  have g'11 := (jn @hbpp (jn @hb0pp (jn @hbs (jn @hb0s (jn @hbq (jn @hb0q (jn @h6d (jn @ints_len @ints_ones))))))))
  refine runTf g'11 ?_
  refine call_v (by kernel_rfl) (plans2_c _ (lnZ W Hh xs l sc (rngV W Hh) W) (lnZ W Hh xs l sc (rngV W Hh) Hh) (lnZ W Hh xs l sc (rngV W Hh) W) (lnZ W Hh xs l sc (rngV W Hh) Hh) (lnX W Hh xs l sc (rngV W Hh)) (lnX W Hh xs l sc (rngV W Hh)) _ _ ⟨_, _, _, by first | rfl | (rw [List.length_append]; done) | (rw [List.length_append]; rfl), by first | rfl | (rw [get_newk]; rfl) | (rw [get_new0]; rfl) | (rw [get_newk, prs_append]; rfl) | (rw [get_new0, prs_append]; rfl)⟩ ⟨_, _, _, by first | rfl | (rw [List.length_append]; done) | (rw [List.length_append]; rfl), by first | rfl | (rw [get_newk]; rfl) | (rw [get_new0]; rfl) | (rw [get_newk, prs_append]; rfl) | (rw [get_new0, prs_append]; rfl)⟩ (by first | rfl | assumption) (by first | rfl | assumption) (by first | rfl | assumption)) ?_
  refine runTf g'11 ?_
  exact hQ _ _ (end_plain (.inl rfl) hbel (x := .bool true) (resT Tryz.results5) rfl ⟨rfl, rfl⟩)
open Go.RowKit
set_option maxRecDepth 100000 in
theorem knownLearns_top (H : AHeap) (xs : List AV) (hn : xs.length = 3) (hy : ∀ (j : Nat) (t : TypeId) (x : AV), [24, 25, 26][j]? = some t → xs[j]? = some x → ATy Tryz.prog H 9 t x) : ACalls Tryz.prog 5 xs H (fun v H' => v = .bool true ∧ H' = H) := by
  match xs, hn, hy with
  | [a0, a1, a2], _, hy =>
    obtain ⟨ys0, e0, r0_0⟩ := (hy 0 _ a0 rfl rfl).agg (ls := [3, 3, 22]) (by kernel_rfl) (by kernel_rfl)
    obtain ⟨y0_0, q0_0, rfl, t0_0, r0_1⟩ := r0_0.cons
    obtain ⟨z1, rfl, w1⟩ := t0_0.int (k := .i64) (by kernel_rfl)
    obtain ⟨y0_1, q0_1, rfl, t0_1, r0_2⟩ := r0_1.cons
    obtain ⟨z2, rfl, w2⟩ := t0_1.int (k := .i64) (by kernel_rfl)
    obtain ⟨y0_2, q0_2, rfl, t0_2, r0_3⟩ := r0_2.cons
    obtain ⟨l3, s3, m3, w3⟩ := t0_2.intsU (n := 7) (t := 22) (e := 5) (by kernel_rfl) (by kernel_rfl) (by kernel_rfl)
    obtain rfl := r0_3.nil
    subst e0
    have t1 := (hy 1 _ a1 rfl rfl).one (by kernel_rfl) (by kernel_rfl)
    obtain ⟨l4, s4, m4, w4⟩ := t1.rec6 (n := 7) (t := 25) (e := 58) (t1 := 3) (t2 := 3) (t3 := 3) (t4 := 3) (t5 := 3) (t6 := 3) (by kernel_rfl) (by kernel_rfl) (by kernel_rfl) (by kernel_rfl) (by kernel_rfl) (by kernel_rfl) (by kernel_rfl) (by kernel_rfl)
    have t2 := (hy 2 _ a2 rfl rfl).one (by kernel_rfl) (by kernel_rfl)
    obtain ⟨l5, s5, m5, w5⟩ := t2.pairsU (n := 7) (t := 26) (e := 37) (u := 3) (v := 3) (by kernel_rfl) (by kernel_rfl) (by kernel_rfl) (by kernel_rfl)
    exact llrn_c H z1 z2 _ l3 _ l4 _ l5 s3 s4 s5
section
open Go.ChangeShapes Go.WideShapes Go.ChangeAt Go.RowKit Go.Joins
open Go.ChangeMaps (open_string shut_string)
set_option maxRecDepth 100000 in
theorem knownLearns_lifted (os : Os) (started : os.Started) (H : Type) (enc : TypeId × Value → H) :
    ReturnsInHanded {} Tryz.checked os 5 .any (Rows.knownLearnsSpec.pre6 enc Tryz.prog Tryz.f5 Rows.knownLearnsRow.domain false) (Rows.knownLearnsSpec.post enc Tryz.prog Tryz.f5 false true false false) := by
  refine returnsInHanded_of_change (C := Tryz.checked) own started (by kernel_rfl) Tryz.func5
    (ChangeSpec.witness6 (enc := enc) (C := Tryz.checked) false ⟨#[], #[.agg #[.int .i64 0, .int .i64 0, .slice none 0 0], .slice none 0 0, .slice none 0 0], []⟩ 8 (by kernel_rfl) (by kernel_rfl) (by kernel_rfl) (by kernel_rfl)) ?_
  intro W base args ds gs before hval0 hW hcnd _
  have hval : ∀ (j : Nat) t v, Tryz.f5.params[j]? = some t → args[j]? = some v → Value.okWide Tryz.prog W .any base t v := hval0
  have hW' := hW
  obtain ⟨p, q, hA0, hV, rfl, hfz, hnd⟩ := hW
  have hA : DataW.TrodAll enc Tryz.prog W 0 (fun _ => true) true Tryz.f5.params.toList args.toList ds p := hA0
  rw [Tryz.params5] at hA hval
  have hwalk := calls_top (n := 9) (f := 5) hA (fun j t v a b => hval j t v (by simpa using a) (by simpa using b)) (by kernel_rfl) (fun H xs hn hy => knownLearns_top H xs hn hy)
  rw [Array.toArray_toList] at hwalk
  obtain ⟨v0, vs0, d0, ds0, p0, q0, hargs, rfl, rfl, h0, r0⟩ := trodAll_cons hA
  obtain ⟨v1, vs1, d1, ds1, p1, q1, rfl, rfl, rfl, h1, r1⟩ := trodAll_cons r0
  obtain ⟨v2, vs2, d2, ds2, p2, q2, rfl, rfl, rfl, h2, r2⟩ := trodAll_cons r1
  obtain ⟨rfl, rfl, rfl⟩ := trodAll_nil r2
  obtain rfl : args = #[v0, v1, v2] := by cases args; simp_all
  obtain ⟨rfl, rfl⟩ := trodVars_none hV
  have k0 := h0
  have lt0 : ∀ x ∈ p0, x.block < W.heap.size := by obtain ⟨m, hm⟩ := k0; exact DataW.trod_lt m _ _ _ hm
  have k1 := h1
  have lt1 : ∀ x ∈ p1, x.block < W.heap.size := by obtain ⟨m, hm⟩ := k1; exact DataW.trod_lt m _ _ _ hm
  have k2 := h2
  have lt2 : ∀ x ∈ p2, x.block < W.heap.size := by obtain ⟨m, hm⟩ := k2; exact DataW.trod_lt m _ _ _ hm
  clear hA0 hval0
  refine hwalk.mono fun e W' ⟨he, bel⟩ => ?_
  subst he
  exact ⟨_, rfl, _, _, _, [], _, [], hW', trodAll_mk1 (shut_bool Tryz.underlying4 _), (trodAll_cons_mk (Below.trod laidOut (by kernel_rfl) (of_decide_eq_true (by kernel_rfl)) k0 bel lt0) (trodAll_cons_mk (Below.trod laidOut (by kernel_rfl) (of_decide_eq_true (by kernel_rfl)) k1 bel lt1) (trodAll_cons_mk (Below.trod laidOut (by kernel_rfl) (of_decide_eq_true (by kernel_rfl)) k2 bel lt2) trodAll_mk0))), rfl, bel.frame _, fun h => by cases h⟩
theorem and_t {a b : Bool} (h : a = true) (k : b = true) : (a && b) = true := by rw [h, k]; rfl
theorem knownLearns_h0 : (Rows.knownLearnsRow.inPlace == Tryz.pinned.checked.prog.inPlace 5) = true := by kernel_rfl
theorem knownLearns_h1 : (Rows.knownLearnsRow.unfollowed == Tryz.pinned.checked.prog.unfollowed 5) = true := by kernel_rfl
theorem knownLearns_h2 : (Rows.knownLearnsRow.recurses == Tryz.pinned.checked.prog.recurses 5) = true := by kernel_rfl
theorem knownLearns_h3 : (Rows.knownLearnsRow.named == Tryz.pinned.checked.prog.varsNamed 5) = true := by kernel_rfl
theorem knownLearns_h4 : Tryz.pinned.checked.prog.stopsHeard = true := by kernel_rfl
theorem knownLearns_h5 : Tryz.pinned.checked.prog.mayEnter = true := by kernel_rfl
theorem knownLearns_h6 : (Rows.knownLearnsRow.lifted == Tryz.pinned.checked.prog.liftsFinal) = true := by kernel_rfl
theorem knownLearns_closed : joinedFacts Tryz.pinned.checked.prog 5 Tryz.f5 Rows.knownLearnsSpec Rows.knownLearnsRow = true := by
  unfold joinedFacts
  exact (and_t (and_t (and_t (and_t (and_t (and_t (and_t (and_t (and_t (and_t (and_t (and_t (and_t (and_t (and_t (and_t (and_t (and_t (and_t (and_t (and_t (and_t (and_t (and_t (and_t (and_t (and_t (and_t (and_t (and_t (and_t (by kernel_rfl) laidOut) (by kernel_rfl)) (by kernel_rfl)) (by kernel_rfl)) (by kernel_rfl)) (by kernel_rfl)) (by kernel_rfl)) (by kernel_rfl)) knownLearns_h0) knownLearns_h1) knownLearns_h2) knownLearns_h3) (by kernel_rfl)) (by kernel_rfl)) (by kernel_rfl)) (by kernel_rfl)) (by kernel_rfl)) (by kernel_rfl)) (by kernel_rfl)) (by kernel_rfl)) (by kernel_rfl)) (by kernel_rfl)) (by kernel_rfl)) knownLearns_h4) knownLearns_h5) knownLearns_h6) (by kernel_rfl)) (by kernel_rfl)) (by kernel_rfl)) (by kernel_rfl)) (by kernel_rfl))
theorem knownLearns_over : Rows.knownLearnsRow.holds Tryz.pinned (OpenSpec.ofChange Rows.knownLearnsSpec) :=
  OpenClaim.holds_of_wide 5 Tryz.f5 rfl rfl rfl rfl rfl rfl rfl ⟨rfl, rfl, rfl, rfl, rfl⟩ rfl rfl rfl rfl rfl (by kernel_rfl) Tryz.func5 knownLearns_closed
    (of_decide_eq_true (by kernel_rfl)) (by unfold Func.isWrapper; rw [if_neg (by decide +kernel)]; exact ⟨rfl, rfl⟩)
    (fun os started H enc _ => knownLearns_lifted os started H enc)
/-- The given statement. -/
theorem knownLearns_proved : Rows.KnownLearnsSaid := knownLearns_over
end
end Go.Proofs.YteieacinbfimlaaGreat
