/- Proved: the law MotionEstimates returns true on every input, and its arguments read afterwards as before. Conditions: none beyond the given row's. -/
import Derived.Test.YtoimakfecmhjkaaGreatG4
import Derived.Test.YtoimakfecmhjkaaGreatG2
import Derived.Test.YtoimakfecmhjkaaGreatG3

/- awake of law 40, by the kernel's own run. Conditions: none. -/
namespace Go.Proofs.YtoimakfecmhjkaaGreat
set_option linter.unusedSimpArgs false
set_option linter.unusedVariables false
open Go.RowKit
theorem awake_a (H : AHeap) : ACalls Tryz.prog 12 [] H (fun v H' => v = .bool true ∧ H' = H) :=
  ACalls.closed (ran try_mixed ext40_ok tb40 tb40_ok 20000 60 (x := .bool true) (o := none) (by kernel_rfl)) rfl rfl H
end Go.Proofs.YtoimakfecmhjkaaGreat

/- Walks by the abstract machine: MotionEstimates. Conditions: as each theorem states. -/
namespace Go.Proofs.YtoimakfecmhjkaaGreat
set_option linter.unusedSimpArgs false
set_option linter.unusedVariables false
open Go.RowKit
theorem estO_t {l : List T6} (h : estO l = true) : setB l = true ∧ 0 < l.length := of_decide_eq_true h
def lowN (l : List T6) : Nat → Int
  | 0 => g61 l 0
  | n + 1 => if g61 l n < lowN l n then g61 l n else lowN l n
def hiN (l : List T6) : Nat → Int
  | 0 => g63 l 0
  | n + 1 => if hiN l n < g63 l n then g63 l n else hiN l n
theorem lowN_le (l : List T6) : ∀ n j : Nat, j < n → lowN l n ≤ g61 l j
  | 0, j, h => by omega
  | n + 1, j, h => by
    have ih := lowN_le l n
    rw [lowN]
    rcases (by omega : j < n ∨ j = n) with k | rfl
    · have := ih j k; split <;> omega
    · split <;> omega
theorem hiN_le (l : List T6) : ∀ n j : Nat, j < n → g63 l j ≤ hiN l n
  | 0, j, h => by omega
  | n + 1, j, h => by
    have ih := hiN_le l n
    rw [hiN]
    rcases (by omega : j < n ∨ j = n) with k | rfl
    · have := ih j k; split <;> omega
    · split <;> omega
theorem est_lo (l : List T6) : ∀ n : Nat, ∃ j : Nat, j ≤ n ∧ (estH l n).1 = g61 l j
  | 0 => ⟨0, Nat.le_refl _, rfl⟩
  | n + 1 => by
    obtain ⟨j, h1, h2⟩ := est_lo l n
    have e : (estH l (n + 1)).1 = mnI (estH l n).1 (g61 l (n + 1)) := rfl
    rw [e, h2]; unfold mnI; split
    · exact ⟨n + 1, Nat.le_refl _, rfl⟩
    · exact ⟨j, by omega, rfl⟩
theorem est_hi (l : List T6) : ∀ n : Nat, ∃ j : Nat, j ≤ n ∧ (estH l n).2.2.1 = g63 l j
  | 0 => ⟨0, Nat.le_refl _, rfl⟩
  | n + 1 => by
    obtain ⟨j, h1, h2⟩ := est_hi l n
    have e : (estH l (n + 1)).2.2.1 = mxI (estH l n).2.2.1 (g63 l (n + 1)) := rfl
    rw [e, h2]; unfold mxI; split
    · exact ⟨n + 1, Nat.le_refl _, rfl⟩
    · exact ⟨j, by omega, rfl⟩
theorem est_in {l : List T6} (h : estO l = true) : (lowN l l.length ≤ estX l ∧ estX l ≤ hiN l l.length) ∧ poseB (estX l) (estY l) (estG l) = true := by
  have hp := estO_t h
  have hb := bxB_iff.1 (estH_ok (setB_iff.1 hp.1).2 (l.length - 1) (by omega))
  have ha := arcB_iff.1 hb.2.2
  obtain ⟨j, j1, j2⟩ := est_lo l (l.length - 1)
  obtain ⟨i, i1, i2⟩ := est_hi l (l.length - 1)
  have k1 := lowN_le l l.length j (by omega)
  have k2 := hiN_le l l.length i (by omega)
  have eX : estX l = _ := if_pos hp
  have eY : estY l = _ := if_pos hp
  have eG : estG l = _ := if_pos hp
  refine ⟨by rw [eX]; omega, ?_⟩
  unfold poseB
  simp only [Bool.and_eq_true, within_iff, decide_eq_true_eq]
  rw [eX, eY, eG]; omega
set_option maxHeartbeats 4000000 in
set_option maxRecDepth 100000 in
theorem lest_c (H : AHeap) (s : AV) (l : List T6) (hs : Sl H 6 s l.length (r6 l)) : ACalls Tryz.prog 10 [s] H (fun v H' => v = .bool true ∧ H' = H) := by
  obtain ⟨bs, os, cs, rfl, hbs⟩ := hs
  have hbls := getElem?_lt hbs
  have hb0s := fun l => get_app (l := l) hbs
  (refine ACalls_run try_mixed Tryz.func10 true _ rfl (Nat.le_of_ble_eq_true (by kernel_rfl)) (by kernel_rfl) ?_; intro hbel Q hQ hQ' c hc; unfold Tryz.f10 at hc; simp only [Option.some.injEq] at hc; subst hc; clear hQ')
  have g'1 := (jn @hbs @hb0s)
  refine runTf g'1 ?_
  refine call_v (by kernel_rfl) (awake_a _) ?_
  refine runTf g'1 ?_
  refine cond_split (fun h1 => ?_) (fun h1 => ?_)
  · have h1d := h1
    try simp only [boolset, beq_iff_eq, ne_eq] at h1d
    have g'2 := (jn @h1 (jn @h1d g'1))
    refine runTf g'2 ?_
    refine call_v (by kernel_rfl) (awake_a _) ?_
    refine runTf g'2 ?_
    exact hQ _ _ (end_plain0 (.inl rfl) hbel (x := .bool true) (resT Tryz.results10) rfl ⟨by first | rfl | (rw [hps]), rfl⟩)
  · have h1d := h1
    try simp only [boolset, beq_iff_eq, ne_eq] at h1d
    have g'3 := (jn @h1 (jn @h1d g'1))
    refine runTf g'3 ?_
    refine call_v (by kernel_rfl) (est_c _ _ l ⟨_, _, _, rfl, by first | exact hb0s _ | exact hbs⟩ (by omega)) ?_
    refine runTf g'3 ?_
    refine call_v (by kernel_rfl) (rest_c _ _ l ⟨_, _, _, rfl, by first | exact hb0s _ | exact hbs⟩ (by omega)) ?_
    refine runTf g'3 ?_
    refine cond_split (fun h2 => ?_) (fun h2 => ?_)
    · have h2d := h2
      try simp only [boolset, beq_iff_eq, ne_eq] at h2d
      have g'4 := (jn @h2 (jn @h2d g'3))
      refine runTf g'4 ?_
      exact hQ _ _ (end_plain (.inl rfl) hbel (x := .bool true) (resT Tryz.results10) rfl ⟨by first | rfl | (rw [hps]), rfl⟩)
    · have h2d := h2
      try simp only [boolset, beq_iff_eq, ne_eq] at h2d
      have hps0 := est_in h2d
      have hpos := estO_t h2d
      have hps := hps0.2
      have q3 := r6_z0 (l := l) (by omega)
      have q4 := r6_z2 (l := l) (by omega)
      have g'5 := (jn @h2 (jn @h2d (jn @r6_len (jn @q3 (jn @q4 g'3)))))
      refine runTf g'5 ?_
      refine go_loop try_mixed (by kernel_rfl) (fun k F Hx => ∃ i : Nat, i + k = l.length ∧ F = [(0, .sl (some (bs, 0)) l.length cs), (3, .ptr (some (H.length, 0))), (7, .int .i64 (lowN l i)), (8, .int .i64 (hiN l i)), (9, .int .i64 ((i : Nat) : Int))] ∧ Hx = H ++ [.cells true 0 [.int .i64 (estX l), .int .i64 (estY l), .int .i64 (estG l)]]) (l.length) ?_ ?_
      · refine ⟨_, _, _, ⟨0, by omega, rfl, rfl⟩, Abs.byG hbel [] rfl [0] (by decide) ?_⟩
        exact absWf (jn @lowN.eq_1 @hiN.eq_1)
      · rintro k0 F Hx ⟨i, hm0, rfl, rfl⟩ J0 hJ0
        refine runTf g'5 ?_
        refine cond_split (fun h5 => ?_) (fun h5 => ?_)
        · have h5d := h5
          try simp only [boolset, beq_iff_eq, ne_eq] at h5d
          have q6 := r6_at0 (l := l) (j := i) (by omega)
          have q7 := r6_at2 (l := l) (j := i) (by omega)
          have g'6 := (jn @h5 (jn @h5d (jn @q6 (jn @q7 g'5))))
          refine runTf g'6 ?_
          refine hJ0 _ _ ⟨k0 - 1, by omega, _, _, _, ⟨i + 1, by omega, rfl, rfl⟩, Abs.byG hbel [] rfl [0] (by decide) ?_⟩
          exact absWf (jn @lowN.eq_2 @hiN.eq_2)
        · have h5d := h5
          try simp only [boolset, beq_iff_eq, ne_eq] at h5d
          obtain rfl : i = l.length := by omega
          have g'7 := (jn @h5 (jn @h5d g'5))
          refine runTf g'7 ?_
          refine gd_split (fun h8 => ?_) (fun h8 => ?_)
          · have h8d := h8
            try simp only [boolset, beq_iff_eq, ne_eq] at h8d
            have g'8 := (jn @h8 (jn @h8d g'7))
            refine runTf g'8 ?_
            refine gd_split (fun h9 => ?_) (fun h9 => ?_)
            · have h9d := h9
              try simp only [boolset, beq_iff_eq, ne_eq] at h9d
              have g'9 := (jn @h9 (jn @h9d g'8))
              refine runTf g'9 ?_
              refine call_v (by kernel_rfl) (bpose_c _ (estX l) (estY l) (estG l)) ?_
              refine runTf g'9 ?_
              exact hQ _ _ (end_plain (.inl rfl) hbel (x := .bool (poseB (estX l) (estY l) (estG l))) (resT Tryz.results10) rfl ⟨by first | rfl | (rw [hps]), rfl⟩)
            · have h9d := h9
              try simp only [boolset, beq_iff_eq, ne_eq] at h9d
              omega
          · have h8d := h8
            try simp only [boolset, beq_iff_eq, ne_eq] at h8d
            omega
end Go.Proofs.YtoimakfecmhjkaaGreat
namespace Go.Proofs.YtoimakfecmhjkaaGreat
set_option linter.unusedSimpArgs false
set_option linter.unusedVariables false
open Go.RowKit
set_option maxRecDepth 100000 in
theorem motionEstimates_top (H : AHeap) (xs : List AV) (hn : xs.length = 1) (hy : ∀ (j : Nat) (t : TypeId) (x : AV), [50][j]? = some t → xs[j]? = some x → ATy Tryz.prog H 9 t x) : ACalls Tryz.prog 10 xs H (fun v H' => v = .bool true ∧ H' = H) := by
  match xs, hn, hy with
  | [a0], _, hy =>
    have t0 := (hy 0 _ a0 rfl rfl).one (by kernel_rfl) (by kernel_rfl)
    obtain ⟨l1, s1, m1, w1⟩ := t0.rec6 (n := 7) (t := 50) (e := 79) (t1 := 3) (t2 := 3) (t3 := 3) (t4 := 3) (t5 := 3) (t6 := 3) (by kernel_rfl) (by kernel_rfl) (by kernel_rfl) (by kernel_rfl) (by kernel_rfl) (by kernel_rfl) (by kernel_rfl) (by kernel_rfl)
    exact lest_c H _ l1 s1
section
open Go.ChangeShapes Go.WideShapes Go.ChangeAt Go.RowKit Go.Joins
open Go.ChangeMaps (open_string shut_string)
set_option maxRecDepth 100000 in
theorem motionEstimates_lifted (os : Os) (started : os.Started) (H : Type) (enc : TypeId × Value → H) :
    ReturnsInHanded {} Tryz.checked os 10 .any (Rows.motionEstimatesSpec.pre6 enc Tryz.prog Tryz.f10 Rows.motionEstimatesRow.domain false) (Rows.motionEstimatesSpec.post enc Tryz.prog Tryz.f10 false true false false) := by
  refine returnsInHanded_of_change (C := Tryz.checked) own started (by kernel_rfl) Tryz.func10
    (ChangeSpec.witness6 (enc := enc) (C := Tryz.checked) false ⟨#[], #[.slice none 0 0], []⟩ 8 (by kernel_rfl) (by kernel_rfl) (by kernel_rfl) (by kernel_rfl)) ?_
  intro W base args ds gs before hval0 hW hcnd _
  have hval : ∀ (j : Nat) t v, Tryz.f10.params[j]? = some t → args[j]? = some v → Value.okWide Tryz.prog W .any base t v := hval0
  have hW' := hW
  obtain ⟨p, q, hA0, hV, rfl, hfz, hnd⟩ := hW
  have hA : DataW.TrodAll enc Tryz.prog W 0 (fun _ => true) true Tryz.f10.params.toList args.toList ds p := hA0
  rw [Tryz.params10] at hA hval
  have hwalk := calls_top (n := 9) (f := 10) hA (fun j t v a b => hval j t v (by simpa using a) (by simpa using b)) (by kernel_rfl) (fun H xs hn hy => motionEstimates_top H xs hn hy)
  rw [Array.toArray_toList] at hwalk
  obtain ⟨v0, vs0, d0, ds0, p0, q0, hargs, rfl, rfl, h0, r0⟩ := trodAll_cons hA
  obtain ⟨rfl, rfl, rfl⟩ := trodAll_nil r0
  obtain rfl : args = #[v0] := by cases args; simp_all
  obtain ⟨rfl, rfl⟩ := trodVars_none hV
  have k0 := h0
  have lt0 : ∀ x ∈ p0, x.block < W.heap.size := by obtain ⟨m, hm⟩ := k0; exact DataW.trod_lt m _ _ _ hm
  clear hA0 hval0
  refine hwalk.mono fun e W' ⟨he, bel⟩ => ?_
  subst he
  exact ⟨_, rfl, _, _, _, [], _, [], hW', trodAll_mk1 (shut_bool Tryz.underlying4 _), (trodAll_cons_mk (Below.trod laidOut (by kernel_rfl) (of_decide_eq_true (by kernel_rfl)) k0 bel lt0) trodAll_mk0), rfl, bel.frame _, fun h => by cases h⟩
theorem motionEstimates_over : Rows.motionEstimatesRow.holds Tryz.pinned (OpenSpec.ofChange Rows.motionEstimatesSpec) :=
  OpenClaim.holds_of_wide 10 Tryz.f10 rfl rfl rfl rfl rfl rfl rfl ⟨rfl, rfl, rfl, rfl, rfl⟩ rfl rfl rfl rfl rfl (by kernel_rfl) Tryz.func10 (by kernel_rfl)
    (of_decide_eq_true (by kernel_rfl)) (by unfold Func.isWrapper; rw [if_neg (by decide +kernel)]; exact ⟨rfl, rfl⟩)
    (fun os started H enc _ => motionEstimates_lifted os started H enc)
/-- The given statement. -/
theorem motionEstimates_proved : Rows.MotionEstimatesSaid := motionEstimates_over
end
end Go.Proofs.YtoimakfecmhjkaaGreat
