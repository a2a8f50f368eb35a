/- Proved: the law KnownSuspects returns true on every input, and its arguments read afterwards as before. Conditions: none beyond the given row's. -/
import Derived.Test.YteieacinbfimlaaGreatC5
import Derived.Test.YteieacinbfimlaaGreatC6
import Derived.Test.YteieacinbfimlaaGreatC3
namespace Go.Proofs.YteieacinbfimlaaGreat
set_option linter.unusedSimpArgs false
set_option linter.unusedVariables false
open Go.RowKit
set_option maxHeartbeats 4000000
set_option maxRecDepth 100000
theorem lsus_c (H : AHeap) (W : Int) (Hh : Int) (pp : AV) (xs : List Int) (s : AV) (l : List T6) (m : Int) (r : Int) (hpp : Sl H 1 pp xs.length (ints .u8 xs)) (hs : Sl H 6 s l.length (r6 l)) : ACalls Tryz.prog 4 [.agg [.int .i64 W, .int .i64 Hh, pp], s, .agg [.int .i64 m, .int .i64 r]] H (fun v H' => v = .bool true ∧ H' = H) := by
  obtain ⟨bpp, opp, cpp, rfl, hbpp⟩ := hpp
  have hblpp := getElem?_lt hbpp
  have hb0pp := fun l => get_app (l := l) hbpp
  obtain ⟨bs, os, cs, rfl, hbs⟩ := hs
  have hbls := getElem?_lt hbs
  have hb0s := fun l => get_app (l := l) hbs
  refine AcT false Tryz.func4 ?_; intro hbel Q hQ
  have g'1 := (jn @hbpp (jn @hb0pp (jn @hbs @hb0s)))
  refine runTf g'1 ?_
  refine call_v (by kernel_rfl) (awake_c _) ?_
  refine runTf g'1 ?_
  refine call_v (by kernel_rfl) (rfew_c _ W Hh _ xs _ l _ [(m, r)] ⟨_, _, _, rfl, by first | exact hb0pp _ | exact hbpp⟩ ⟨_, _, _, rfl, by first | exact hb0s _ | exact hbs⟩ ⟨_, _, _, by first | rfl | (rw [List.length_append]; done) | (rw [List.length_append]; rfl), by first | rfl | (rw [get_newk]; rfl) | (rw [get_new0]; rfl) | (rw [get_newk, prs_append]; rfl) | (rw [get_new0, prs_append]; rfl)⟩) ?_
  refine runTf g'1 ?_
  refine cond_split (fun h1 => ?_) (fun h1 => ?_)
  · have h1d := bsT h1
    have g'2 := (jn @h1 (jn @h1d g'1))
    refine runTf g'2 ?_
    refine call_v (by kernel_rfl) (awake_c _) ?_
    refine runTf g'2 ?_
    exact hQ _ _ (end_plain (.inl rfl) hbel (x := .bool true) (resT Tryz.results4) rfl ⟨rfl, rfl⟩)
  · have h1d := bsT h1
    have hfl := fewK_len h1d
    have g'3 := (jn @h1 (jn @h1d g'1))
    refine runTf g'3 ?_
    refine call_d (by kernel_rfl) (rngof_c _ W Hh _ xs ⟨_, _, _, rfl, by first | exact hb0pp _ | exact hbpp⟩) ?_
    refine runTf g'3 ?_
    refine call_x (by kernel_rfl) (by simp) (kSuspects_c _ W Hh _ xs _ l m r (rngV W Hh) ⟨_, _, _, rfl, by first | exact hb0pp _ | exact hbpp⟩ ⟨_, _, _, rfl, by first | exact hb0s _ | exact hbs⟩ (by first | omega | simp)) ?_
    refine runTf g'3 ?_
    refine call_d (by kernel_rfl) (rngof_c _ W Hh _ xs ⟨_, _, _, rfl, by first | exact hb0pp _ | exact hbpp⟩) ?_
    refine runTf g'3 ?_
    refine call_x (by kernel_rfl) (by simp) (rSuspects_c _ W Hh _ xs _ l m r (rngV W Hh) ⟨_, _, _, rfl, by first | exact hb0pp _ | exact hbpp⟩ ⟨_, _, _, rfl, by first | exact hb0s _ | exact hbs⟩ (by first | omega | simp)) ?_
    refine runTf g'3 ?_
    refine call_v (by kernel_rfl) (bcells_s _ _ (ssL W Hh xs l m r (rngV W Hh)) _ ⟨_, _, _, by first | rfl | (rw [List.length_append]; done) | (rw [List.length_append]; rfl), by first | rfl | (rw [get_newk]; rfl) | (rw [get_new0]; rfl) | (rw [get_newk, prs_append]; rfl) | (rw [get_new0, prs_append]; rfl)⟩ ⟨_, _, _, by first | rfl | (rw [List.length_append]; done) | (rw [List.length_append]; rfl), by first | rfl | (rw [get_newk]; rfl) | (rw [get_new0]; rfl) | (rw [get_newk, prs_append]; rfl) | (rw [get_new0, prs_append]; rfl)⟩ (by first | exact pvL_le | exact ssL_le | simp | omega)) ?_
    refine runTf g'3 ?_
    exact hQ _ _ (end_plain (.inl rfl) hbel (x := .bool true) (resT Tryz.results4) rfl ⟨rfl, rfl⟩)
open Go.RowKit
set_option maxRecDepth 100000 in
theorem knownSuspects_top (H : AHeap) (xs : List AV) (hn : xs.length = 3) (hy : ∀ (j : Nat) (t : TypeId) (x : AV), [24, 25, 37][j]? = some t → xs[j]? = some x → ATy Tryz.prog H 9 t x) : ACalls Tryz.prog 4 xs H (fun v H' => v = .bool true ∧ H' = H) := by
  match xs, hn, hy with
  | [a0, a1, a2], _, hy =>
    obtain ⟨ys0, e0, r0_0⟩ := (hy 0 _ a0 rfl rfl).agg (ls := [3, 3, 22]) (by kernel_rfl) (by kernel_rfl)
    obtain ⟨y0_0, q0_0, rfl, t0_0, r0_1⟩ := r0_0.cons
    obtain ⟨z1, rfl, w1⟩ := t0_0.int (k := .i64) (by kernel_rfl)
    obtain ⟨y0_1, q0_1, rfl, t0_1, r0_2⟩ := r0_1.cons
    obtain ⟨z2, rfl, w2⟩ := t0_1.int (k := .i64) (by kernel_rfl)
    obtain ⟨y0_2, q0_2, rfl, t0_2, r0_3⟩ := r0_2.cons
    obtain ⟨l3, s3, m3, w3⟩ := t0_2.intsU (n := 7) (t := 22) (e := 5) (by kernel_rfl) (by kernel_rfl) (by kernel_rfl)
    obtain rfl := r0_3.nil
    subst e0
    have t1 := (hy 1 _ a1 rfl rfl).one (by kernel_rfl) (by kernel_rfl)
    obtain ⟨l4, s4, m4, w4⟩ := t1.rec6 (n := 7) (t := 25) (e := 58) (t1 := 3) (t2 := 3) (t3 := 3) (t4 := 3) (t5 := 3) (t6 := 3) (by kernel_rfl) (by kernel_rfl) (by kernel_rfl) (by kernel_rfl) (by kernel_rfl) (by kernel_rfl) (by kernel_rfl) (by kernel_rfl)
    obtain ⟨ys2, e2, r2_0⟩ := (hy 2 _ a2 rfl rfl).agg (ls := [3, 3]) (by kernel_rfl) (by kernel_rfl)
    obtain ⟨y2_0, q2_0, rfl, t2_0, r2_1⟩ := r2_0.cons
    obtain ⟨z5, rfl, w5⟩ := t2_0.int (k := .i64) (by kernel_rfl)
    obtain ⟨y2_1, q2_1, rfl, t2_1, r2_2⟩ := r2_1.cons
    obtain ⟨z6, rfl, w6⟩ := t2_1.int (k := .i64) (by kernel_rfl)
    obtain rfl := r2_2.nil
    subst e2
    exact lsus_c H z1 z2 _ l3 _ l4 z5 z6 s3 s4
section
open Go.ChangeShapes Go.WideShapes Go.ChangeAt Go.RowKit Go.Joins
open Go.ChangeMaps (open_string shut_string)
set_option maxRecDepth 100000 in
theorem knownSuspects_lifted (os : Os) (started : os.Started) (H : Type) (enc : TypeId × Value → H) :
    ReturnsInHanded {} Tryz.checked os 4 .any (Rows.knownSuspectsSpec.pre6 enc Tryz.prog Tryz.f4 Rows.knownSuspectsRow.domain false) (Rows.knownSuspectsSpec.post enc Tryz.prog Tryz.f4 false true false false) := by
  refine returnsInHanded_of_change (C := Tryz.checked) own started (by kernel_rfl) Tryz.func4
    (ChangeSpec.witness6 (enc := enc) (C := Tryz.checked) false ⟨#[], #[.agg #[.int .i64 0, .int .i64 0, .slice none 0 0], .slice none 0 0, .agg #[.int .i64 0, .int .i64 0]], []⟩ 8 (by kernel_rfl) (by kernel_rfl) (by kernel_rfl) (by kernel_rfl)) ?_
  intro W base args ds gs before hval0 hW hcnd _
  have hval : ∀ (j : Nat) t v, Tryz.f4.params[j]? = some t → args[j]? = some v → Value.okWide Tryz.prog W .any base t v := hval0
  have hW' := hW
  obtain ⟨p, q, hA0, hV, rfl, hfz, hnd⟩ := hW
  have hA : DataW.TrodAll enc Tryz.prog W 0 (fun _ => true) true Tryz.f4.params.toList args.toList ds p := hA0
  rw [Tryz.params4] at hA hval
  have hwalk := calls_top (n := 9) (f := 4) hA (fun j t v a b => hval j t v (by simpa using a) (by simpa using b)) (by kernel_rfl) (fun H xs hn hy => knownSuspects_top H xs hn hy)
  rw [Array.toArray_toList] at hwalk
  obtain ⟨v0, vs0, d0, ds0, p0, q0, hargs, rfl, rfl, h0, r0⟩ := trodAll_cons hA
  obtain ⟨v1, vs1, d1, ds1, p1, q1, rfl, rfl, rfl, h1, r1⟩ := trodAll_cons r0
  obtain ⟨v2, vs2, d2, ds2, p2, q2, rfl, rfl, rfl, h2, r2⟩ := trodAll_cons r1
  obtain ⟨rfl, rfl, rfl⟩ := trodAll_nil r2
  obtain rfl : args = #[v0, v1, v2] := by cases args; simp_all
  obtain ⟨rfl, rfl⟩ := trodVars_none hV
  have k0 := h0
  have lt0 : ∀ x ∈ p0, x.block < W.heap.size := by obtain ⟨m, hm⟩ := k0; exact DataW.trod_lt m _ _ _ hm
  have k1 := h1
  have lt1 : ∀ x ∈ p1, x.block < W.heap.size := by obtain ⟨m, hm⟩ := k1; exact DataW.trod_lt m _ _ _ hm
  have k2 := h2
  have lt2 : ∀ x ∈ p2, x.block < W.heap.size := by obtain ⟨m, hm⟩ := k2; exact DataW.trod_lt m _ _ _ hm
  clear hA0 hval0
  refine hwalk.mono fun e W' ⟨he, bel⟩ => ?_
  subst he
  exact ⟨_, rfl, _, _, _, [], _, [], hW', trodAll_mk1 (shut_bool Tryz.underlying4 _), (trodAll_cons_mk (Below.trod laidOut (by kernel_rfl) (of_decide_eq_true (by kernel_rfl)) k0 bel lt0) (trodAll_cons_mk (Below.trod laidOut (by kernel_rfl) (of_decide_eq_true (by kernel_rfl)) k1 bel lt1) (trodAll_cons_mk (Below.trod laidOut (by kernel_rfl) (of_decide_eq_true (by kernel_rfl)) k2 bel lt2) trodAll_mk0))), rfl, bel.frame _, fun h => by cases h⟩
theorem and_t {a b : Bool} (h : a = true) (k : b = true) : (a && b) = true := by rw [h, k]; rfl
theorem knownSuspects_h0 : (Rows.knownSuspectsRow.inPlace == Tryz.pinned.checked.prog.inPlace 4) = true := by kernel_rfl
theorem knownSuspects_h1 : (Rows.knownSuspectsRow.unfollowed == Tryz.pinned.checked.prog.unfollowed 4) = true := by kernel_rfl
theorem knownSuspects_h2 : (Rows.knownSuspectsRow.recurses == Tryz.pinned.checked.prog.recurses 4) = true := by kernel_rfl
theorem knownSuspects_h3 : (Rows.knownSuspectsRow.named == Tryz.pinned.checked.prog.varsNamed 4) = true := by kernel_rfl
theorem knownSuspects_h4 : Tryz.pinned.checked.prog.stopsHeard = true := by kernel_rfl
theorem knownSuspects_h5 : Tryz.pinned.checked.prog.mayEnter = true := by kernel_rfl
theorem knownSuspects_h6 : (Rows.knownSuspectsRow.lifted == Tryz.pinned.checked.prog.liftsFinal) = true := by kernel_rfl
theorem knownSuspects_closed : joinedFacts Tryz.pinned.checked.prog 4 Tryz.f4 Rows.knownSuspectsSpec Rows.knownSuspectsRow = true := by
  unfold joinedFacts
  exact (and_t (and_t (and_t (and_t (and_t (and_t (and_t (and_t (and_t (and_t (and_t (and_t (and_t (and_t (and_t (and_t (and_t (and_t (and_t (and_t (and_t (and_t (and_t (and_t (and_t (and_t (and_t (and_t (and_t (and_t (and_t (by kernel_rfl) laidOut) (by kernel_rfl)) (by kernel_rfl)) (by kernel_rfl)) (by kernel_rfl)) (by kernel_rfl)) (by kernel_rfl)) (by kernel_rfl)) knownSuspects_h0) knownSuspects_h1) knownSuspects_h2) knownSuspects_h3) (by kernel_rfl)) (by kernel_rfl)) (by kernel_rfl)) (by kernel_rfl)) (by kernel_rfl)) (by kernel_rfl)) (by kernel_rfl)) (by kernel_rfl)) (by kernel_rfl)) (by kernel_rfl)) (by kernel_rfl)) knownSuspects_h4) knownSuspects_h5) knownSuspects_h6) (by kernel_rfl)) (by kernel_rfl)) (by kernel_rfl)) (by kernel_rfl)) (by kernel_rfl))
theorem knownSuspects_over : Rows.knownSuspectsRow.holds Tryz.pinned (OpenSpec.ofChange Rows.knownSuspectsSpec) :=
  OpenClaim.holds_of_wide 4 Tryz.f4 rfl rfl rfl rfl rfl rfl rfl ⟨rfl, rfl, rfl, rfl, rfl⟩ rfl rfl rfl rfl rfl (by kernel_rfl) Tryz.func4 knownSuspects_closed
    (of_decide_eq_true (by kernel_rfl)) (by unfold Func.isWrapper; rw [if_neg (by decide +kernel)]; exact ⟨rfl, rfl⟩)
    (fun os started H enc _ => knownSuspects_lifted os started H enc)
/-- The given statement. -/
theorem knownSuspects_proved : Rows.KnownSuspectsSaid := knownSuspects_over
end
end Go.Proofs.YteieacinbfimlaaGreat
