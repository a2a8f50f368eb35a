/- Proved: the law KnownKeeps returns true on every input, and its arguments read afterwards as before. Conditions: none beyond the given row's. -/
import Derived.Test.YteieacinbfimlaaGreatC5
import Derived.Test.YteieacinbfimlaaGreatC6
import Derived.Test.YteieacinbfimlaaGreatC3
namespace Go.Proofs.YteieacinbfimlaaGreat
set_option linter.unusedSimpArgs false
set_option linter.unusedVariables false
open Go.RowKit
/-- What is learned keeps what is known. -/
theorem ln_keeps {W Hh : Int} {xs : List Int} {l : List T6} {sc : List (Int × Int)} {g : Int} (h : lnE W Hh xs l sc g = 0) (h0 : ∀ z ∈ xs, 0 ≤ z) : (lnZ W Hh xs l sc g W = W ∧ lnZ W Hh xs l sc g Hh = Hh) ∧ (lnX W Hh xs l sc g).length = xs.length ∧ ∀ i : Nat, i < xs.length → ¬ gi xs i = 0 → gi (lnX W Hh xs l sc g) i = gi xs i := by
  have hR : rgtA W Hh xs l sc g = true := by
    cases k : rgtA W Hh xs l sc g
    · rw [(ln_1 k).1] at h; exact absurd h (by decide)
    · rfl
  obtain ⟨o, ho⟩ : ∃ o, lnO W Hh xs l sc g = some o := by
    cases k : lnO W Hh xs l sc g with
    | none => rw [(ln_11 hR k).1] at h; exact absurd h (by decide)
    | some o => exact ⟨o, rfl⟩
  obtain ⟨-, e1, e2, e3⟩ := ln_0 hR ho
  have hv := vld_iff.1 (rgtA_iff.1 hR).1
  have hp : ∀ i, i < xs.length → 0 ≤ gi xs i ∧ gi xs i ≤ 2 := fun i hi => by rw [gi_eq hi]; exact ⟨h0 _ (List.getElem_mem hi), hv.le _ (List.getElem_mem hi)⟩
  have hk0 : Keeps xs xs := ⟨rfl, hv.le, fun i hi hn => rfl⟩
  have hk : Keeps xs o := by
    unfold lnO at ho
    split at ho
    · obtain ⟨q, h1, h2⟩ := Option.bind_eq_some_iff.1 ho
      exact lrnW_keeps hv.len hp (lrnF_keeps hv.len hp (fun c hc => allL_in hc) hk0 h1) h2
    · cases ho; exact hk0
  rw [e1]
  exact ⟨⟨e2, e3⟩, hk.1, hk.2.2⟩
open Go.RowKit
set_option maxHeartbeats 4000000
set_option maxRecDepth 100000
theorem lkee_c (H : AHeap) (W : Int) (Hh : Int) (pp : AV) (xs : List Int) (s : AV) (l : List T6) (q : AV) (sc : List (Int × Int)) (hpp : Sl H 1 pp xs.length (ints .u8 xs)) (hs : Sl H 6 s l.length (r6 l)) (hq : Sl H 2 q sc.length (prs sc)) (hp0 : ∀ z ∈ xs, 0 ≤ z) : ACalls Tryz.prog 7 [.agg [.int .i64 W, .int .i64 Hh, pp], s, q] H (fun v H' => v = .bool true ∧ H' = H) := by
  obtain ⟨bpp, opp, cpp, rfl, hbpp⟩ := hpp
  have hblpp := getElem?_lt hbpp
  have hb0pp := fun l => get_app (l := l) hbpp
  obtain ⟨bs, os, cs, rfl, hbs⟩ := hs
  have hbls := getElem?_lt hbs
  have hb0s := fun l => get_app (l := l) hbs
  obtain ⟨bq, oq, cq, rfl, hbq⟩ := hq
  have hblq := getElem?_lt hbq
  have hb0q := fun l => get_app (l := l) hbq
  refine AcT false Tryz.func7 ?_; intro hbel Q hQ
  have g'1 := (jn @hbpp (jn @hb0pp (jn @hbs (jn @hb0s (jn @hbq @hb0q)))))
  refine runTf g'1 ?_
  refine call_v (by kernel_rfl) (awake_c _) ?_
  refine runTf g'1 ?_
  refine call_v (by kernel_rfl) (rfew_c _ W Hh _ xs _ l _ sc ⟨_, _, _, rfl, by first | exact hb0pp _ | exact hbpp⟩ ⟨_, _, _, rfl, by first | exact hb0s _ | exact hbs⟩ ⟨_, _, _, rfl, by first | exact hb0q _ | exact hbq⟩) ?_
  refine runTf g'1 ?_
  refine cond_split (fun h1 => ?_) (fun h1 => ?_)
  · have h1d := bsT h1
    have g'2 := (jn @h1 (jn @h1d g'1))
    refine runTf g'2 ?_
    refine call_v (by kernel_rfl) (awake_c _) ?_
    refine runTf g'2 ?_
    exact hQ _ _ (end_plain (.inl rfl) hbel (x := .bool true) (resT Tryz.results7) rfl ⟨by first | rfl | (rw [hfinB]; simp) | simp [hfinA, hfinB], rfl⟩)
  · have h1d := bsT h1
    have hfl := fewK_len h1d
    have g'3 := (jn @h1 (jn @h1d g'1))
    refine runTf g'3 ?_
    refine call_v (by kernel_rfl) (learn_c _ W Hh _ xs _ l _ sc 5 ⟨_, _, _, rfl, by first | exact hb0pp _ | exact hbpp⟩ ⟨_, _, _, rfl, by first | exact hb0s _ | exact hbs⟩ ⟨_, _, _, rfl, by first | exact hb0q _ | exact hbq⟩ (by first | omega | simp) (by first | omega | simp)) ?_
    refine runTf g'3 ?_
    refine cond_split (fun h2 => ?_) (fun h2 => ?_)
    · have h2d := bsT h2
      have h2n := bnT h2
      have g'4 := (jn @h2 (jn @h2n (jn @int_bne (jn @int_beq g'3))))
      refine runTf g'4 ?_
      refine call_v (by kernel_rfl) (rlearn_c _ W Hh _ xs _ l _ sc 5 ⟨_, _, _, rfl, by first | exact hb0pp _ | exact hbpp⟩ ⟨_, _, _, rfl, by first | exact hb0s _ | exact hbs⟩ ⟨_, _, _, rfl, by first | exact hb0q _ | exact hbq⟩ (by first | omega | simp) (by first | omega | simp)) ?_
      refine runTf g'4 ?_
      exact hQ _ _ (end_plain (.inl rfl) hbel (x := .bool true) (resT Tryz.results7) rfl ⟨by first | rfl | (rw [hfinB]; simp) | simp [hfinA, hfinB], rfl⟩)
    · have h2d := bsT h2
      have h2n := bnT h2
      obtain ⟨⟨hka, hkb⟩, hkl, hkk⟩ := ln_keeps (W := W) (Hh := Hh) (xs := xs) (l := l) (sc := sc) (g := 5) (by first | exact h2d | simpa using h2d) hp0
      have hfinA := hka
      have hfinB := hkb
      have g'5 := (jn @h2 (jn @h2n (jn @int_bne (jn @int_beq g'3))))
      refine runTf g'5 ?_
      refine cond_split (fun h3 => ?_) (fun h3 => ?_)
      · have h3d := bsT h3
        have h3n := bnT h3
        first | omega | (simp [hkl] at h3d)
      · have h3d := bsT h3
        have h3n := bnT h3
        have g'6 := (jn @h3 (jn @h3n g'5))
        refine runTf g'6 ?_
        refine go_loop try_mixed (by kernel_rfl) (fun k F Hx => ∃ i : Nat, i + k = xs.length ∧ F = [(3, .ptr (some (H.length, 0))), (7, .ptr (some (H.length + 2, 0))), (11, .int .i64 ((i : Nat) : Int))] ∧ Hx = H ++ [.cells true 0 [.int .i64 W, .int .i64 Hh, .sl (some (bpp, 0)) xs.length cpp], .cells (ownG (lnX W Hh xs l sc 5).length) 1 (ints .u8 (lnX W Hh xs l sc 5)), .cells true 0 [.int .i64 (lnZ W Hh xs l sc 5 W), .int .i64 (lnZ W Hh xs l sc 5 Hh), .sl (some (H.length + 1, 0)) ((lnX W Hh xs l sc 5).length) none]]) (xs.length) ?_ ?_
        · refine ⟨_, _, _, ⟨0, by omega, rfl, rfl⟩, Abs.byG hbel [] rfl [0, 1, 2] (by decide) ?_⟩
          exact absR
        · rintro k0 F Hx ⟨i, hm0, rfl, rfl⟩ J0 hJ0
          have g'7 := (jn @ints_len (jn @ints_ones g'6))
          refine runTf g'7 ?_
          refine cond_split (fun h4 => ?_) (fun h4 => ?_)
          · have h4d := bsT h4
            have hlt : i < xs.length := by omega
            have q5 := ints_get (k := .u8) (xs := xs) (j := i) (by omega)
            have g'8 := (jn @h4 (jn @h4d (jn @q5 g'7)))
            refine runTf g'8 ?_
            refine gd_split (fun h6 => ?_) (fun h6 => ?_)
            · have h6d := bsT h6
              have h6n := bnT h6
              have hne : ¬ gi xs i = 0 := by first | exact h6d | simpa using h6d
              have q7 := ints_get (k := .u8) (xs := lnX W Hh xs l sc 5) (j := i) (by omega)
              have q8 := ints_get (k := .u8) (xs := xs) (j := i) (by omega)
              have g'9 := (jn @h6 (jn @h6n (jn @q7 (jn @q8 g'8))))
              refine runTf g'9 ?_
              refine cond_split (fun h9 => ?_) (fun h9 => ?_)
              · have h9d := bsT h9
                have h9n := bnT h9
                exact absurd (hkk i hlt hne) (by first | exact h9d | simpa using h9d)
              · have h9d := bsT h9
                have h9n := bnT h9
                have g'10 := (jn @h9 (jn @h9n g'9))
                refine runTf g'10 ?_
                refine hJ0 _ _ ⟨k0 - 1, by omega, _, _, _, ⟨i + 1, by omega, rfl, rfl⟩, Abs.byG hbel [] rfl [0, 1, 2] (by decide) ?_⟩
                exact absR
            · have h6d := bsT h6
              have h6n := bnT h6
              have g'11 := (jn @h6 (jn @h6n g'8))
              refine runTf g'11 ?_
              refine hJ0 _ _ ⟨k0 - 1, by omega, _, _, _, ⟨i + 1, by omega, rfl, rfl⟩, Abs.byG hbel [] rfl [0, 1, 2] (by decide) ?_⟩
              exact absR
          · have h4d := bsT h4
            have g'12 := (jn @h4 (jn @h4d g'7))
            refine runTf g'12 ?_
            refine gd_split (fun h10 => ?_) (fun h10 => ?_)
            · have h10d := bsT h10
              have h10n := bnT h10
              have g'13 := (jn @h10 (jn @h10n g'12))
              refine runTf g'13 ?_
              exact hQ _ _ (end_plain (.inl rfl) hbel (x := .bool ((lnZ W Hh xs l sc 5 Hh) == Hh)) (resTf (jn @int_beq @int_bne) Tryz.results7) rfl ⟨by first | rfl | (rw [hfinB]; simp) | simp [hfinA, hfinB], rfl⟩)
            · have h10d := bsT h10
              have h10n := bnT h10
              exact absurd hka (by first | exact h10d | simpa using h10d)
open Go.RowKit
set_option maxRecDepth 100000 in
theorem knownKeeps_top (H : AHeap) (xs : List AV) (hn : xs.length = 3) (hy : ∀ (j : Nat) (t : TypeId) (x : AV), [24, 25, 26][j]? = some t → xs[j]? = some x → ATy Tryz.prog H 9 t x) : ACalls Tryz.prog 7 xs H (fun v H' => v = .bool true ∧ H' = H) := by
  match xs, hn, hy with
  | [a0, a1, a2], _, hy =>
    obtain ⟨ys0, e0, r0_0⟩ := (hy 0 _ a0 rfl rfl).agg (ls := [3, 3, 22]) (by kernel_rfl) (by kernel_rfl)
    obtain ⟨y0_0, q0_0, rfl, t0_0, r0_1⟩ := r0_0.cons
    obtain ⟨z1, rfl, w1⟩ := t0_0.int (k := .i64) (by kernel_rfl)
    obtain ⟨y0_1, q0_1, rfl, t0_1, r0_2⟩ := r0_1.cons
    obtain ⟨z2, rfl, w2⟩ := t0_1.int (k := .i64) (by kernel_rfl)
    obtain ⟨y0_2, q0_2, rfl, t0_2, r0_3⟩ := r0_2.cons
    obtain ⟨l3, s3, m3, w3⟩ := t0_2.intsU (n := 7) (t := 22) (e := 5) (by kernel_rfl) (by kernel_rfl) (by kernel_rfl)
    obtain rfl := r0_3.nil
    subst e0
    have t1 := (hy 1 _ a1 rfl rfl).one (by kernel_rfl) (by kernel_rfl)
    obtain ⟨l4, s4, m4, w4⟩ := t1.rec6 (n := 7) (t := 25) (e := 58) (t1 := 3) (t2 := 3) (t3 := 3) (t4 := 3) (t5 := 3) (t6 := 3) (by kernel_rfl) (by kernel_rfl) (by kernel_rfl) (by kernel_rfl) (by kernel_rfl) (by kernel_rfl) (by kernel_rfl) (by kernel_rfl)
    have t2 := (hy 2 _ a2 rfl rfl).one (by kernel_rfl) (by kernel_rfl)
    obtain ⟨l5, s5, m5, w5⟩ := t2.pairsU (n := 7) (t := 26) (e := 37) (u := 3) (v := 3) (by kernel_rfl) (by kernel_rfl) (by kernel_rfl) (by kernel_rfl)
    exact lkee_c H z1 z2 _ l3 _ l4 _ l5 s3 s4 s5 (fun z hz => (wf_u8 (w3 z hz)).1)
section
open Go.ChangeShapes Go.WideShapes Go.ChangeAt Go.RowKit Go.Joins
open Go.ChangeMaps (open_string shut_string)
set_option maxRecDepth 100000 in
theorem knownKeeps_lifted (os : Os) (started : os.Started) (H : Type) (enc : TypeId × Value → H) :
    ReturnsInHanded {} Tryz.checked os 7 .any (Rows.knownKeepsSpec.pre6 enc Tryz.prog Tryz.f7 Rows.knownKeepsRow.domain false) (Rows.knownKeepsSpec.post enc Tryz.prog Tryz.f7 false true false false) := by
  refine returnsInHanded_of_change (C := Tryz.checked) own started (by kernel_rfl) Tryz.func7
    (ChangeSpec.witness6 (enc := enc) (C := Tryz.checked) false ⟨#[], #[.agg #[.int .i64 0, .int .i64 0, .slice none 0 0], .slice none 0 0, .slice none 0 0], []⟩ 8 (by kernel_rfl) (by kernel_rfl) (by kernel_rfl) (by kernel_rfl)) ?_
  intro W base args ds gs before hval0 hW hcnd _
  have hval : ∀ (j : Nat) t v, Tryz.f7.params[j]? = some t → args[j]? = some v → Value.okWide Tryz.prog W .any base t v := hval0
  have hW' := hW
  obtain ⟨p, q, hA0, hV, rfl, hfz, hnd⟩ := hW
  have hA : DataW.TrodAll enc Tryz.prog W 0 (fun _ => true) true Tryz.f7.params.toList args.toList ds p := hA0
  rw [Tryz.params7] at hA hval
  have hwalk := calls_top (n := 9) (f := 7) hA (fun j t v a b => hval j t v (by simpa using a) (by simpa using b)) (by kernel_rfl) (fun H xs hn hy => knownKeeps_top H xs hn hy)
  rw [Array.toArray_toList] at hwalk
  obtain ⟨v0, vs0, d0, ds0, p0, q0, hargs, rfl, rfl, h0, r0⟩ := trodAll_cons hA
  obtain ⟨v1, vs1, d1, ds1, p1, q1, rfl, rfl, rfl, h1, r1⟩ := trodAll_cons r0
  obtain ⟨v2, vs2, d2, ds2, p2, q2, rfl, rfl, rfl, h2, r2⟩ := trodAll_cons r1
  obtain ⟨rfl, rfl, rfl⟩ := trodAll_nil r2
  obtain rfl : args = #[v0, v1, v2] := by cases args; simp_all
  obtain ⟨rfl, rfl⟩ := trodVars_none hV
  have k0 := h0
  have lt0 : ∀ x ∈ p0, x.block < W.heap.size := by obtain ⟨m, hm⟩ := k0; exact DataW.trod_lt m _ _ _ hm
  have k1 := h1
  have lt1 : ∀ x ∈ p1, x.block < W.heap.size := by obtain ⟨m, hm⟩ := k1; exact DataW.trod_lt m _ _ _ hm
  have k2 := h2
  have lt2 : ∀ x ∈ p2, x.block < W.heap.size := by obtain ⟨m, hm⟩ := k2; exact DataW.trod_lt m _ _ _ hm
  clear hA0 hval0
  refine hwalk.mono fun e W' ⟨he, bel⟩ => ?_
  subst he
  exact ⟨_, rfl, _, _, _, [], _, [], hW', trodAll_mk1 (shut_bool Tryz.underlying4 _), (trodAll_cons_mk (Below.trod laidOut (by kernel_rfl) (of_decide_eq_true (by kernel_rfl)) k0 bel lt0) (trodAll_cons_mk (Below.trod laidOut (by kernel_rfl) (of_decide_eq_true (by kernel_rfl)) k1 bel lt1) (trodAll_cons_mk (Below.trod laidOut (by kernel_rfl) (of_decide_eq_true (by kernel_rfl)) k2 bel lt2) trodAll_mk0))), rfl, bel.frame _, fun h => by cases h⟩
theorem and_t {a b : Bool} (h : a = true) (k : b = true) : (a && b) = true := by rw [h, k]; rfl
theorem knownKeeps_h0 : (Rows.knownKeepsRow.inPlace == Tryz.pinned.checked.prog.inPlace 7) = true := by kernel_rfl
theorem knownKeeps_h1 : (Rows.knownKeepsRow.unfollowed == Tryz.pinned.checked.prog.unfollowed 7) = true := by kernel_rfl
theorem knownKeeps_h2 : (Rows.knownKeepsRow.recurses == Tryz.pinned.checked.prog.recurses 7) = true := by kernel_rfl
theorem knownKeeps_h3 : (Rows.knownKeepsRow.named == Tryz.pinned.checked.prog.varsNamed 7) = true := by kernel_rfl
theorem knownKeeps_h4 : Tryz.pinned.checked.prog.stopsHeard = true := by kernel_rfl
theorem knownKeeps_h5 : Tryz.pinned.checked.prog.mayEnter = true := by kernel_rfl
theorem knownKeeps_h6 : (Rows.knownKeepsRow.lifted == Tryz.pinned.checked.prog.liftsFinal) = true := by kernel_rfl
theorem knownKeeps_closed : joinedFacts Tryz.pinned.checked.prog 7 Tryz.f7 Rows.knownKeepsSpec Rows.knownKeepsRow = true := by
  unfold joinedFacts
  exact (and_t (and_t (and_t (and_t (and_t (and_t (and_t (and_t (and_t (and_t (and_t (and_t (and_t (and_t (and_t (and_t (and_t (and_t (and_t (and_t (and_t (and_t (and_t (and_t (and_t (and_t (and_t (and_t (and_t (and_t (and_t (by kernel_rfl) laidOut) (by kernel_rfl)) (by kernel_rfl)) (by kernel_rfl)) (by kernel_rfl)) (by kernel_rfl)) (by kernel_rfl)) (by kernel_rfl)) knownKeeps_h0) knownKeeps_h1) knownKeeps_h2) knownKeeps_h3) (by kernel_rfl)) (by kernel_rfl)) (by kernel_rfl)) (by kernel_rfl)) (by kernel_rfl)) (by kernel_rfl)) (by kernel_rfl)) (by kernel_rfl)) (by kernel_rfl)) (by kernel_rfl)) (by kernel_rfl)) knownKeeps_h4) knownKeeps_h5) knownKeeps_h6) (by kernel_rfl)) (by kernel_rfl)) (by kernel_rfl)) (by kernel_rfl)) (by kernel_rfl))
theorem knownKeeps_over : Rows.knownKeepsRow.holds Tryz.pinned (OpenSpec.ofChange Rows.knownKeepsSpec) :=
  OpenClaim.holds_of_wide 7 Tryz.f7 rfl rfl rfl rfl rfl rfl rfl ⟨rfl, rfl, rfl, rfl, rfl⟩ rfl rfl rfl rfl rfl (by kernel_rfl) Tryz.func7 knownKeeps_closed
    (of_decide_eq_true (by kernel_rfl)) (by unfold Func.isWrapper; rw [if_neg (by decide +kernel)]; exact ⟨rfl, rfl⟩)
    (fun os started H enc _ => knownKeeps_lifted os started H enc)
/-- The given statement. -/
theorem knownKeeps_proved : Rows.KnownKeepsSaid := knownKeeps_over
end
end Go.Proofs.YteieacinbfimlaaGreat
