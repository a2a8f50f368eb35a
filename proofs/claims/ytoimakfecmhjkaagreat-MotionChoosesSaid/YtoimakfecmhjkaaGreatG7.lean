/- Proved: the law MotionChooses returns true on every input, and its arguments read afterwards as before. Conditions: none beyond the given row's. -/
import Derived.Test.YtoimakfecmhjkaaGreatG5
import Derived.Test.YtoimakfecmhjkaaGreatG6
import Derived.Test.YtoimakfecmhjkaaGreatG2
import Derived.Test.YtoimakfecmhjkaaGreatG3
namespace Go.Proofs.YtoimakfecmhjkaaGreat
set_option linter.unusedSimpArgs false
set_option linter.unusedVariables false
open Go.RowKit
set_option maxHeartbeats 4000000
set_option maxRecDepth 100000
def badB (b : T6) : Bool := boxB b && (decide (300 < b.2.2.1 - b.1) || decide (300 < b.2.2.2.1 - b.2.1))
def clpI (c : Int) : Int := if 300 < (if c < 0 then 0 else c) then 300 else (if c < 0 then 0 else c)
def sumF (l : List T6) : Nat → Int
  | 0 => 0
  | n + 1 => sumF l n + clpI (g66 l n)
theorem sumF_bd (l : List T6) : ∀ n : Nat, 0 ≤ sumF l n ∧ sumF l n ≤ 300 * (n : Int)
  | 0 => by simp [sumF]
  | n + 1 => by
    have := sumF_bd l n
    have e : 0 ≤ clpI (g66 l n) ∧ clpI (g66 l n) ≤ 300 := by unfold clpI; split <;> split <;> omega
    simp only [sumF]; omega
def fewM (l : List T6) : Nat := min l.length 20
def fewB (xs : List Int) (l : List T6) : Bool := ((List.range (fewM l)).all fun j => !badB (g6 l j)) && (decide (((xs.length : Nat) : Int) ≤ 4096) && (decide (((l.length : Nat) : Int) ≤ 20) && (decide (sumF l (fewM l) ≤ 24) || !setB l)))
theorem few_f {xs : List Int} {l : List T6} {i : Nat} (hi : i < fewM l) (h : badB (g6 l i) = true) : fewB xs l = false := by
  unfold fewB
  have e : ((List.range (fewM l)).all fun j => !badB (g6 l j)) = false := by
    rw [← Bool.not_eq_true]; intro hh
    rw [List.all_eq_true] at hh
    have := hh i (List.mem_range.2 hi)
    rw [h] at this; cases this
  rw [e]; rfl
theorem few_len {xs : List Int} {l : List T6} (h : fewB xs l = true) : l.length ≤ 20 := by
  unfold fewB at h; simp only [Bool.and_eq_true, decide_eq_true_eq] at h; omega
theorem few_a {l : List T6} (h : ∀ j : Nat, j < fewM l → badB (g6 l j) = false) : ((List.range (fewM l)).all fun j => !badB (g6 l j)) = true := by
  rw [List.all_eq_true]; intro j hj; rw [h j (List.mem_range.1 hj)]; rfl
theorem few_c (H : AHeap) (W : Int) (Hh : Int) (pp : AV) (xs : List Int) (s : AV) (l : List T6) (hpp : Sl H 1 pp xs.length (ints .u8 xs)) (hs : Sl H 6 s l.length (r6 l)) : ACalls Tryz.prog 20 [.agg [.int .i64 W, .int .i64 Hh, pp], s] H (fun v H' => v = .bool (fewB xs l) ∧ H' = H) := by
  obtain ⟨bpp, opp, cpp, rfl, hbpp⟩ := hpp
  have hblpp := getElem?_lt hbpp
  have hb0pp := fun l => get_app (l := l) hbpp
  obtain ⟨bs, os, cs, rfl, hbs⟩ := hs
  have hbls := getElem?_lt hbs
  have hb0s := fun l => get_app (l := l) hbs
  have hcl : ∀ c : Int, (if 300 < (if c < 0 then 0 else c) then 300 else (if c < 0 then 0 else c)) = clpI c := fun c => rfl
  refine AcT true Tryz.func20 ?_; intro hbel Q hQ
  have g'1 := (jn @hbpp (jn @hb0pp (jn @hbs (jn @hb0s @hcl))))
  refine runTf g'1 ?_
  refine go_loop try_mixed (by kernel_rfl) (fun k F Hx => ∃ i : Nat, i + k = fewM l ∧ (∀ j : Nat, j < i → badB (g6 l j) = false) ∧ F = [(1, .sl (some (bs, 0)) l.length cs), (2, .ptr (some (H.length, 0))), (5, .int .i64 (sumF l i)), (6, .int .i64 ((i : Nat) : Int))] ∧ Hx = H ++ [.cells true 0 [.int .i64 W, .int .i64 Hh, .sl (some (bpp, 0)) xs.length cpp]]) (fewM l) ?_ ?_
  · refine ⟨_, _, _, ⟨0, by omega, fun j h => by omega, rfl, rfl⟩, Abs.byG hbel [] rfl [0] (by decide) ?_⟩
    exact absWf @sumF.eq_1
  · rintro k0 F Hx ⟨i, hm0, hgd, rfl, rfl⟩ J0 hJ0
    refine runTf g'1 ?_
    refine gd_split (fun h1 => ?_) (fun h1 => ?_)
    · have h1d := bsT h1
      have g'2 := (jn @h1 (jn @h1d g'1))
      refine runTf g'2 ?_
      refine cond_split (fun h2 => ?_) (fun h2 => ?_)
      · have h2d := bsT h2
        have hiF : i < fewM l := by unfold fewM; omega
        have hsm := sumF_bd l i
        have hcp : 0 ≤ clpI (g66 l i) ∧ clpI (g66 l i) ≤ 300 := by unfold clpI; split <;> split <;> omega
        have q3 := r6_load (l := l) (j := i) (by omega)
        have g'3 := (jn @h2 (jn @h2d (jn @r6_len (jn @q3 g'2))))
        refine runTf g'3 ?_
        refine call_d (by kernel_rfl) (bbx_c _ (g61 l i) (g62 l i) (g63 l i) (g64 l i) (g65 l i) (g66 l i)) ?_
        refine runTf g'3 ?_
        refine gd_split (fun h4 => ?_) (fun h4 => ?_)
        · have h4d := bsT h4
          have hbx : boxB (g6 l i) = true := h4d
          have hbb := bxB_iff.1 h4d
          have q5 := r6_at2 (l := l) (j := i) (by omega)
          have q6 := r6_at0 (l := l) (j := i) (by omega)
          have g'4 := (jn @h4 (jn @h4d (jn @q5 (jn @q6 g'3))))
          refine runTf g'4 ?_
          refine gd_split (fun h7 => ?_) (fun h7 => ?_)
          · have h7d := bsT h7
            have hd1 : ¬ 300 < (g6 l i).2.2.1 - (g6 l i).1 := h7d
            have q8 := r6_at3 (l := l) (j := i) (by omega)
            have q9 := r6_at1 (l := l) (j := i) (by omega)
            have g'5 := (jn @h7 (jn @h7d (jn @q8 (jn @q9 g'4))))
            refine runTf g'5 ?_
            refine cond_split (fun h10 => ?_) (fun h10 => ?_)
            · have h10d := bsT h10
              have hfinF : fewB xs l = false := few_f hiF (by unfold badB; rw [hbx, decide_eq_true (show 300 < (g6 l i).2.2.2.1 - (g6 l i).2.1 from h10d)]; simp)
              have g'6 := (jn @h10 (jn @h10d g'5))
              refine runTf g'6 ?_
              exact hQ _ _ (end_plain (.inl rfl) hbel (x := .bool false) (resT Tryz.results20) rfl ⟨by first | (rw [hfinF]; done) | (unfold fewB; rw [hfinA, ← hiM]; simp [h1d, h2d, h4d, h7d, h10d, hfinF]), rfl⟩)
            · have h10d := bsT h10
              have hd2 : ¬ 300 < (g6 l i).2.2.2.1 - (g6 l i).2.1 := h10d
              have hbd : badB (g6 l i) = false := by unfold badB; rw [decide_eq_false hd1, decide_eq_false hd2]; simp
              have q11 := r6_at5 (l := l) (j := i) (by omega)
              have g'7 := (jn @h10 (jn @h10d (jn @q11 g'5)))
              refine runTf g'7 ?_
              refine hJ0 _ _ ⟨k0 - 1, by omega, _, _, _, ⟨i + 1, by omega, fun j hj => by
                          rcases Nat.lt_or_ge j i with hji | hji
                          · exact hgd j hji
                          · rw [show j = i by omega]; exact hbd, rfl, rfl⟩, Abs.byG hbel [] rfl [0] (by decide) ?_⟩
              exact absWf @sumF.eq_2
          · have h7d := bsT h7
            have hfinF : fewB xs l = false := few_f hiF (by unfold badB; rw [hbx, decide_eq_true (show 300 < (g6 l i).2.2.1 - (g6 l i).1 from h7d)]; rfl)
            have g'8 := (jn @h7 (jn @h7d g'4))
            refine runTf g'8 ?_
            exact hQ _ _ (end_plain (.inl rfl) hbel (x := .bool false) (resT Tryz.results20) rfl ⟨by first | (rw [hfinF]; done) | (unfold fewB; rw [hfinA, ← hiM]; simp [h1d, h2d, h4d, h7d, hfinF]), rfl⟩)
        · have h4d := bsT h4
          have hbd : badB (g6 l i) = false := by unfold badB; rw [show boxB (g6 l i) = false from h4d]; rfl
          have q12 := r6_at5 (l := l) (j := i) (by omega)
          have g'9 := (jn @h4 (jn @h4d (jn @q12 g'3)))
          refine runTf g'9 ?_
          refine hJ0 _ _ ⟨k0 - 1, by omega, _, _, _, ⟨i + 1, by omega, fun j hj => by
                      rcases Nat.lt_or_ge j i with hji | hji
                      · exact hgd j hji
                      · rw [show j = i by omega]; exact hbd, rfl, rfl⟩, Abs.byG hbel [] rfl [0] (by decide) ?_⟩
          exact absWf @sumF.eq_2
      · have h2d := bsT h2
        have hM : fewM l = min l.length 20 := rfl
        have hiM : i = fewM l := by omega
        have hfinA := few_a (l := l) (fun j hj => hgd j (by omega))
        have hsl16 := sumF_bd l i
        have g'10 := (jn @h2 (jn @h2d g'2))
        refine runTf g'10 ?_
        refine gd_split (fun h13 => ?_) (fun h13 => ?_)
        · have h13d := bsT h13
          have g'11 := (jn @h13 (jn @h13d g'10))
          refine runTf g'11 ?_
          refine gd_split (fun h14 => ?_) (fun h14 => ?_)
          · have h14d := bsT h14
            omega
          · have h14d := bsT h14
            have g'12 := (jn @h14 (jn @h14d g'11))
            refine runTf g'12 ?_
            exact hQ _ _ (end_plain (.inl rfl) hbel (x := .bool false) (resT Tryz.results20) rfl ⟨by first | (rw [hfinF]; done) | (unfold fewB; rw [hfinA, ← hiM]; simp [h1d, h2d, h13d, h14d, hfinA]), rfl⟩)
        · have h13d := bsT h13
          have g'13 := (jn @h13 (jn @h13d g'10))
          refine runTf g'13 ?_
          exact hQ _ _ (end_plain (.inl rfl) hbel (x := .bool false) (resT Tryz.results20) rfl ⟨by first | (rw [hfinF]; done) | (unfold fewB; rw [hfinA, ← hiM]; simp [h1d, h2d, h13d, hfinA]), rfl⟩)
    · have h1d := bsT h1
      have hM : fewM l = min l.length 20 := rfl
      have hiM : i = fewM l := by omega
      have hfinA := few_a (l := l) (fun j hj => hgd j (by omega))
      have hsl16 := sumF_bd l i
      have g'14 := (jn @h1 (jn @h1d g'1))
      refine runTf g'14 ?_
      refine gd_split (fun h15 => ?_) (fun h15 => ?_)
      · have h15d := bsT h15
        have g'15 := (jn @h15 (jn @h15d g'14))
        refine runTf g'15 ?_
        refine gd_split (fun h16 => ?_) (fun h16 => ?_)
        · have h16d := bsT h16
          have g'16 := (jn @h16 (jn @h16d g'15))
          refine runTf g'16 ?_
          refine gd_split (fun h17 => ?_) (fun h17 => ?_)
          · have h17d := bsT h17
            have g'17 := (jn @h17 (jn @h17d g'16))
            refine runTf g'17 ?_
            refine call_v (by kernel_rfl) (bset_c _ _ l ⟨_, _, _, rfl, by first | exact hb0s _ | exact hbs⟩ (by omega)) ?_
            refine runTf g'17 ?_
            exact hQ _ _ (end_plain (.inl rfl) hbel (x := .bool (!(setB l))) (resT Tryz.results20) rfl ⟨by first | (rw [hfinF]; done) | (unfold fewB; rw [hfinA, ← hiM]; simp [h1d, h15d, h16d, h17d, hfinA]), rfl⟩)
          · have h17d := bsT h17
            have g'18 := (jn @h17 (jn @h17d g'16))
            refine runTf g'18 ?_
            exact hQ _ _ (end_plain (.inl rfl) hbel (x := .bool true) (resT Tryz.results20) rfl ⟨by first | (rw [hfinF]; done) | (unfold fewB; rw [hfinA, ← hiM]; simp [h1d, h15d, h16d, h17d, hfinA]), rfl⟩)
        · have h16d := bsT h16
          have g'19 := (jn @h16 (jn @h16d g'15))
          refine runTf g'19 ?_
          exact hQ _ _ (end_plain (.inl rfl) hbel (x := .bool false) (resT Tryz.results20) rfl ⟨by first | (rw [hfinF]; done) | (unfold fewB; rw [hfinA, ← hiM]; simp [h1d, h15d, h16d, hfinA]), rfl⟩)
      · have h15d := bsT h15
        have g'20 := (jn @h15 (jn @h15d g'14))
        refine runTf g'20 ?_
        exact hQ _ _ (end_plain (.inl rfl) hbel (x := .bool false) (resT Tryz.results20) rfl ⟨by first | (rw [hfinF]; done) | (unfold fewB; rw [hfinA, ← hiM]; simp [h1d, h15d, hfinA]), rfl⟩)
def bdT (n : Int) : Int := (((n % 12).toNat % 3 : Nat) : Int)
def bdL (n : Int) : Int := (((n % 12).toNat % 4 : Nat) : Int)
def bdS (n : Int) : Int := (((n % 12).toNat % 2 : Nat) : Int) * 3
def bdR (n : Int) : Int := 1 + (((n % 12).toNat : Nat) : Int)
theorem lbounds_c (H : AHeap) (n : Int) : ACalls Tryz.prog 22 [.int .i64 n] H (fun v H' => v = .agg [.int .i64 (bdT n), .int .i64 (bdL n), .int .i64 (bdS n), .int .i64 (bdR n)] ∧ H' = H) := by
  have hr3 : ∀ a : Nat, Int.tmod (a : Int) 3 = ((a % 3 : Nat) : Int) := fun a => rfl
  have hr4 : ∀ a : Nat, Int.tmod (a : Int) 4 = ((a % 4 : Nat) : Int) := fun a => rfl
  have hr2 : ∀ a : Nat, Int.tmod (a : Int) 2 = ((a % 2 : Nat) : Int) := fun a => rfl
  refine AcT true Tryz.func22 ?_; intro hbel Q hQ
  have g'21 := (jn @hr3 (jn @hr4 @hr2))
  refine runTf g'21 ?_
  refine call_v (by kernel_rfl) (bmod_c _ n 12 (by omega) (by omega)) ?_
  refine runTf g'21 ?_
  exact hQ _ _ (end_plain (.inl rfl) hbel (x := .agg [.int .i64 ((((n % 12).toNat) % 3 : Nat) : Int), .int .i64 ((((n % 12).toNat) % 4 : Nat) : Int), .int .i64 (((((n % 12).toNat) % 2 : Nat) : Int) * 3), .int .i64 (1 + (((n % 12).toNat : Nat) : Int))]) (resT Tryz.results22) rfl ⟨rfl, rfl⟩)
open Go.RowKit
theorem lcho_c (H : AHeap) (W : Int) (Hh : Int) (pp : AV) (xs : List Int) (s : AV) (l : List T6) (tx : Int) (ty : Int) (hpp : Sl H 1 pp xs.length (ints .u8 xs)) (hs : Sl H 6 s l.length (r6 l)) : ACalls Tryz.prog 11 [.agg [.int .i64 W, .int .i64 Hh, pp], s, .agg [.int .i64 tx, .int .i64 ty]] H (fun v H' => v = .bool true ∧ H' = H) := by
  obtain ⟨bpp, opp, cpp, rfl, hbpp⟩ := hpp
  have hblpp := getElem?_lt hbpp
  have hb0pp := fun l => get_app (l := l) hbpp
  obtain ⟨bs, os, cs, rfl, hbs⟩ := hs
  have hbls := getElem?_lt hbs
  have hb0s := fun l => get_app (l := l) hbs
  refine AcT false Tryz.func11 ?_; intro hbel Q hQ
  have g'1 := (jn @hbpp (jn @hb0pp (jn @hbs @hb0s)))
  refine runTf g'1 ?_
  refine call_v (by kernel_rfl) (awake_a _) ?_
  refine runTf g'1 ?_
  refine call_v (by kernel_rfl) (few_c _ W Hh _ xs _ l ⟨_, _, _, rfl, by first | exact hb0pp _ | exact hbpp⟩ ⟨_, _, _, rfl, by first | exact hb0s _ | exact hbs⟩) ?_
  refine runTf g'1 ?_
  refine cond_split (fun h1 => ?_) (fun h1 => ?_)
  · have h1d := bsT h1
    have g'2 := (jn @h1 (jn @h1d g'1))
    refine runTf g'2 ?_
    refine call_v (by kernel_rfl) (awake_a _) ?_
    refine runTf g'2 ?_
    exact hQ _ _ (end_plain (.inl rfl) hbel (x := .bool true) (resT Tryz.results11) rfl ⟨by first | rfl | (rw [hsafe.2]; rfl) | simp, rfl⟩)
  · have h1d := bsT h1
    have hl20 := few_len h1d
    have g'3 := (jn @h1 (jn @h1d g'1))
    refine runTf g'3 ?_
    refine call_v (by kernel_rfl) (lbounds_c _ Hh) ?_
    refine runTf g'3 ?_
    refine call_v (by kernel_rfl) (cho_c _ W Hh _ xs _ l tx ty (bdT Hh) (bdL Hh) (bdS Hh) (bdR Hh) ⟨_, _, _, rfl, by first | exact hb0pp _ | exact hbpp⟩ ⟨_, _, _, rfl, by first | exact hb0s _ | exact hbs⟩ (by omega)) ?_
    refine runTf g'3 ?_
    refine call_v (by kernel_rfl) (rcho_c _ W Hh _ xs _ l tx ty (bdT Hh) (bdL Hh) (bdS Hh) (bdR Hh) ⟨_, _, _, rfl, by first | exact hb0pp _ | exact hbpp⟩ ⟨_, _, _, rfl, by first | exact hb0s _ | exact hbs⟩ (by omega)) ?_
    refine runTf g'3 ?_
    refine call_v (by kernel_rfl) (safe_c _ W Hh _ xs _ l (chT W Hh xs l tx ty (bdT Hh) (bdL Hh) (bdS Hh) (bdR Hh)) (chF W Hh xs l tx ty (bdT Hh) (bdL Hh) (bdS Hh) (bdR Hh)) (bdT Hh) (bdL Hh) (bdS Hh) (bdR Hh) ⟨_, _, _, rfl, by first | exact hb0pp _ | exact hbpp⟩ ⟨_, _, _, rfl, by first | exact hb0s _ | exact hbs⟩ (by omega)) ?_
    refine runTf g'3 ?_
    refine gd_split (fun h2 => ?_) (fun h2 => ?_)
    · have h2d := bsT h2
      have h2n := bnT h2
      have hce : chE W Hh xs l tx ty (bdT Hh) (bdL Hh) (bdS Hh) (bdR Hh) = 0 := by simpa using h2d
      have hsafe := ch_safe hce
      have g'4 := (jn @h2 (jn @h2n (jn @int_bne (jn @int_beq g'3))))
      refine runTf g'4 ?_
      refine gd_split (fun h3 => ?_) (fun h3 => ?_)
      · have h3d := bsT h3
        have g'5 := (jn @h3 (jn @h3d g'4))
        refine runTf g'5 ?_
        exact hQ _ _ (end_plain (.inl rfl) hbel (x := .bool ((saE W Hh xs l (chT W Hh xs l tx ty (bdT Hh) (bdL Hh) (bdS Hh) (bdR Hh)) (chF W Hh xs l tx ty (bdT Hh) (bdL Hh) (bdS Hh) (bdR Hh)) (bdT Hh) (bdL Hh) (bdS Hh) (bdR Hh)) == 0)) (resTf (jn @int_beq @int_bne) Tryz.results11) rfl ⟨by first | rfl | (rw [hsafe.2]; rfl) | simp, rfl⟩)
      · have h3d := bsT h3
        exact absurd (hsafe.1.symm.trans h3d) (by decide)
    · have h2d := bsT h2
      have h2n := bnT h2
      have g'6 := (jn @h2 (jn @h2n (jn @int_bne (jn @int_beq g'3))))
      refine runTf g'6 ?_
      exact hQ _ _ (end_plain (.inl rfl) hbel (x := .bool true) (resT Tryz.results11) rfl ⟨by first | rfl | (rw [hsafe.2]; rfl) | simp, rfl⟩)
open Go.RowKit
set_option maxRecDepth 100000 in
theorem motionChooses_top (H : AHeap) (xs : List AV) (hn : xs.length = 3) (hy : ∀ (j : Nat) (t : TypeId) (x : AV), [49, 50, 68][j]? = some t → xs[j]? = some x → ATy Tryz.prog H 9 t x) : ACalls Tryz.prog 11 xs H (fun v H' => v = .bool true ∧ H' = H) := by
  match xs, hn, hy with
  | [a0, a1, a2], _, hy =>
    obtain ⟨ys0, e0, r0_0⟩ := (hy 0 _ a0 rfl rfl).agg (ls := [3, 3, 47]) (by kernel_rfl) (by kernel_rfl)
    obtain ⟨y0_0, q0_0, rfl, t0_0, r0_1⟩ := r0_0.cons
    obtain ⟨z1, rfl, w1⟩ := t0_0.int (k := .i64) (by kernel_rfl)
    obtain ⟨y0_1, q0_1, rfl, t0_1, r0_2⟩ := r0_1.cons
    obtain ⟨z2, rfl, w2⟩ := t0_1.int (k := .i64) (by kernel_rfl)
    obtain ⟨y0_2, q0_2, rfl, t0_2, r0_3⟩ := r0_2.cons
    obtain ⟨l3, s3, m3, w3⟩ := t0_2.intsU (n := 7) (t := 47) (e := 5) (by kernel_rfl) (by kernel_rfl) (by kernel_rfl)
    obtain rfl := r0_3.nil
    subst e0
    have t1 := (hy 1 _ a1 rfl rfl).one (by kernel_rfl) (by kernel_rfl)
    obtain ⟨l4, s4, m4, w4⟩ := t1.rec6 (n := 7) (t := 50) (e := 79) (t1 := 3) (t2 := 3) (t3 := 3) (t4 := 3) (t5 := 3) (t6 := 3) (by kernel_rfl) (by kernel_rfl) (by kernel_rfl) (by kernel_rfl) (by kernel_rfl) (by kernel_rfl) (by kernel_rfl) (by kernel_rfl)
    obtain ⟨ys2, e2, r2_0⟩ := (hy 2 _ a2 rfl rfl).agg (ls := [3, 3]) (by kernel_rfl) (by kernel_rfl)
    obtain ⟨y2_0, q2_0, rfl, t2_0, r2_1⟩ := r2_0.cons
    obtain ⟨z5, rfl, w5⟩ := t2_0.int (k := .i64) (by kernel_rfl)
    obtain ⟨y2_1, q2_1, rfl, t2_1, r2_2⟩ := r2_1.cons
    obtain ⟨z6, rfl, w6⟩ := t2_1.int (k := .i64) (by kernel_rfl)
    obtain rfl := r2_2.nil
    subst e2
    exact lcho_c H z1 z2 _ l3 _ l4 z5 z6 s3 s4
section
open Go.ChangeShapes Go.WideShapes Go.ChangeAt Go.RowKit Go.Joins
open Go.ChangeMaps (open_string shut_string)
set_option maxRecDepth 100000 in
theorem motionChooses_lifted (os : Os) (started : os.Started) (H : Type) (enc : TypeId × Value → H) :
    ReturnsInHanded {} Tryz.checked os 11 .any (Rows.motionChoosesSpec.pre6 enc Tryz.prog Tryz.f11 Rows.motionChoosesRow.domain false) (Rows.motionChoosesSpec.post enc Tryz.prog Tryz.f11 false true false false) := by
  refine returnsInHanded_of_change (C := Tryz.checked) own started (by kernel_rfl) Tryz.func11
    (ChangeSpec.witness6 (enc := enc) (C := Tryz.checked) false ⟨#[], #[.agg #[.int .i64 0, .int .i64 0, .slice none 0 0], .slice none 0 0, .agg #[.int .i64 0, .int .i64 0]], []⟩ 8 (by kernel_rfl) (by kernel_rfl) (by kernel_rfl) (by kernel_rfl)) ?_
  intro W base args ds gs before hval0 hW hcnd _
  have hval : ∀ (j : Nat) t v, Tryz.f11.params[j]? = some t → args[j]? = some v → Value.okWide Tryz.prog W .any base t v := hval0
  have hW' := hW
  obtain ⟨p, q, hA0, hV, rfl, hfz, hnd⟩ := hW
  have hA : DataW.TrodAll enc Tryz.prog W 0 (fun _ => true) true Tryz.f11.params.toList args.toList ds p := hA0
  rw [Tryz.params11] at hA hval
  have hwalk := calls_top (n := 9) (f := 11) hA (fun j t v a b => hval j t v (by simpa using a) (by simpa using b)) (by kernel_rfl) (fun H xs hn hy => motionChooses_top H xs hn hy)
  rw [Array.toArray_toList] at hwalk
  obtain ⟨v0, vs0, d0, ds0, p0, q0, hargs, rfl, rfl, h0, r0⟩ := trodAll_cons hA
  obtain ⟨v1, vs1, d1, ds1, p1, q1, rfl, rfl, rfl, h1, r1⟩ := trodAll_cons r0
  obtain ⟨v2, vs2, d2, ds2, p2, q2, rfl, rfl, rfl, h2, r2⟩ := trodAll_cons r1
  obtain ⟨rfl, rfl, rfl⟩ := trodAll_nil r2
  obtain rfl : args = #[v0, v1, v2] := by cases args; simp_all
  obtain ⟨rfl, rfl⟩ := trodVars_none hV
  have k0 := h0
  have lt0 : ∀ x ∈ p0, x.block < W.heap.size := by obtain ⟨m, hm⟩ := k0; exact DataW.trod_lt m _ _ _ hm
  have k1 := h1
  have lt1 : ∀ x ∈ p1, x.block < W.heap.size := by obtain ⟨m, hm⟩ := k1; exact DataW.trod_lt m _ _ _ hm
  have k2 := h2
  have lt2 : ∀ x ∈ p2, x.block < W.heap.size := by obtain ⟨m, hm⟩ := k2; exact DataW.trod_lt m _ _ _ hm
  clear hA0 hval0
  refine hwalk.mono fun e W' ⟨he, bel⟩ => ?_
  subst he
  exact ⟨_, rfl, _, _, _, [], _, [], hW', trodAll_mk1 (shut_bool Tryz.underlying4 _), (trodAll_cons_mk (Below.trod laidOut (by kernel_rfl) (of_decide_eq_true (by kernel_rfl)) k0 bel lt0) (trodAll_cons_mk (Below.trod laidOut (by kernel_rfl) (of_decide_eq_true (by kernel_rfl)) k1 bel lt1) (trodAll_cons_mk (Below.trod laidOut (by kernel_rfl) (of_decide_eq_true (by kernel_rfl)) k2 bel lt2) trodAll_mk0))), rfl, bel.frame _, fun h => by cases h⟩
theorem motionChooses_over : Rows.motionChoosesRow.holds Tryz.pinned (OpenSpec.ofChange Rows.motionChoosesSpec) :=
  OpenClaim.holds_of_wide 11 Tryz.f11 rfl rfl rfl rfl rfl rfl rfl ⟨rfl, rfl, rfl, rfl, rfl⟩ rfl rfl rfl rfl rfl (by kernel_rfl) Tryz.func11 (by kernel_rfl)
    (of_decide_eq_true (by kernel_rfl)) (by unfold Func.isWrapper; rw [if_neg (by decide +kernel)]; exact ⟨rfl, rfl⟩)
    (fun os started H enc _ => motionChooses_lifted os started H enc)
/-- The given statement. -/
theorem motionChooses_proved : Rows.MotionChoosesSaid := motionChooses_over
end
end Go.Proofs.YtoimakfecmhjkaaGreat
