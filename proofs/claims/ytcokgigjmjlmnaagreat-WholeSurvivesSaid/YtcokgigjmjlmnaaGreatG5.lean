/- Parts of the proof: walks and plain facts. Conditions: as each theorem states. -/
import Derived.Test.YtcokgigjmjlmnaaGreatG4
import Derived.Test.YtcokgigjmjlmnaaGreatG3
namespace Go.Proofs.YtcokgigjmjlmnaaGreat
set_option linter.unusedSimpArgs false
set_option linter.unusedVariables false
open Go.RowKit
set_option maxHeartbeats 4000000
set_option maxRecDepth 100000
theorem kset_c (H : AHeap) (s : AV) (l : List T6) (hs : Sl H 6 s l.length (r6 l)) (hl : l.length ≤ 1000000000) : ACalls Tryz.prog 160 [s] H (fun v H' => v = .bool (setB l) ∧ H' = H) := by
  obtain ⟨bs, os, cs, rfl, hbs⟩ := hs
  have hbls := getElem?_lt hbs
  have hb0s := fun l => get_app (l := l) hbs
  refine AcT true Tryz.func160 ?_; intro hbel Q hQ
  have g'1 := (jn @hbs @hb0s)
  refine runTf g'1 ?_
  refine gd_split (fun h1 => ?_) (fun h1 => ?_)
  · have h1d := bsT h1
    have g'2 := (jn @h1 (jn @h1d g'1))
    refine runTf g'2 ?_
    refine call_v (by kernel_rfl) (has_box _ _ l ⟨_, _, _, rfl, by first | exact hb0s _ | exact hbs⟩ (by omega) _ [] (by kernel_rfl) rfl (fun b => !boxB b) (fun j hj => kset1_c _ _ _ _ _ _ _)) ?_
    refine runTf g'2 ?_
    exact hQ _ _ (end_plain0 (.inl rfl) hbel (x := .bool (!(l.any (fun b => !boxB b)))) (resT Tryz.results160) rfl ⟨by first | (simp [setB, h1d]; done) | (unfold setB; simp only [h1]; rfl), rfl⟩)
  · have h1d := bsT h1
    have g'3 := (jn @h1 (jn @h1d g'1))
    refine runTf g'3 ?_
    exact hQ _ _ (end_plain0 (.inl rfl) hbel (x := .bool false) (resT Tryz.results160) rfl ⟨by first | (simp [setB, h1d]; done) | (unfold setB; simp only [h1]; rfl), rfl⟩)
theorem kpairs_c (H : AHeap) (s : AV) (l : List T6) (hs : Sl H 6 s l.length (r6 l)) (hS : setB l = true) : ACalls Tryz.prog 161 [s] H (fun v H' => v = .int .i64 (sumC l l.length) ∧ H' = H) := by
  obtain ⟨bs, os, cs, rfl, hbs⟩ := hs
  have hbls := getElem?_lt hbs
  have hb0s := fun l => get_app (l := l) hbs
  have hln := setB_len hS
  refine AcT true Tryz.func161 ?_; intro hbel Q hQ
  have g'4 := (jn @hbs @hb0s)
  refine runTf g'4 ?_
  refine go_loop try_mixed (by kernel_rfl) (fun k F Hx => ∃ i : Nat, i + k = l.length ∧ F = [(3, .int .i64 (sumC l i)), (6, .sl (some (bs, 0)) l.length cs), (7, .int .i64 ((l.length : Nat) : Int)), (8, .int .i64 ((i : Nat) : Int))] ∧ H = Hx) (l.length) ?_ ?_
  · refine ⟨_, _, _, ⟨0, by omega, rfl, rfl⟩, Abs.by0 hbel ?_⟩
    exact absWf @sumC.eq_1
  · rintro k0 F Hx ⟨i, hm0, rfl, rfl⟩ J0 hJ0
    refine runTf g'4 ?_
    refine cond_split (fun h1 => ?_) (fun h1 => ?_)
    · have h1d := bsT h1
      have hsb := sumC_bd hS i (by omega)
      have hgb := g66_bd hS (show i < l.length by omega)
      have q2 := r6_load (l := l) (j := i) (by omega)
      have g'5 := (jn @h1 (jn @h1d (jn @r6_len (jn @q2 g'4))))
      refine runTf g'5 ?_
      refine hJ0 _ _ ⟨k0 - 1, by omega, _, _, _, ⟨i + 1, by omega, rfl, rfl⟩, Abs.byN hbel ?_⟩
      exact absWf @sumC.eq_2
    · have h1d := bsT h1
      obtain rfl : i = l.length := by omega
      have g'6 := (jn @h1 (jn @h1d g'4))
      refine runTf g'6 ?_
      exact hQ _ _ (end_plain0 (.inl rfl) hbel (x := .int .i64 (sumC l l.length)) (resT Tryz.results161) rfl ⟨rfl, rfl⟩)
theorem ktau1_c (H : AHeap) (x0 : Int) (y0 : Int) (x1 : Int) (y1 : Int) (f : Int) (c : Int) (hb : bxB x0 y0 x1 y1 f c = true) : ACalls Tryz.prog 167 [.agg [.int .i64 x0, .int .i64 y0, .int .i64 x1, .int .i64 y1, .int .i64 f, .int .i64 c]] H (fun v H' => v = .bool (wdeB (x0, y0, x1, y1, f, c)) ∧ H' = H) := by
  have hbb := bxB_iff.1 hb
  refine AcT true Tryz.func167 ?_; intro hbel Q hQ
  refine runT ?_
  refine gd_split (fun h1 => ?_) (fun h1 => ?_)
  · have h1d := bsT h1
    have g'10 := (jn @h1 @h1d)
    refine runTf g'10 ?_
    exact hQ _ _ (end_plain (.inl rfl) hbel (x := .bool (decide (64 < (y1 - y0)))) (resT Tryz.results167) rfl ⟨by simp [wdeB, h1d], rfl⟩)
  · have h1d := bsT h1
    have g'11 := (jn @h1 @h1d)
    refine runTf g'11 ?_
    exact hQ _ _ (end_plain (.inl rfl) hbel (x := .bool true) (resT Tryz.results167) rfl ⟨by simp [wdeB, h1d], rfl⟩)
open Go.RowKit
theorem ktaught_c (H : AHeap) (s : AV) (l : List T6) (hs : Sl H 6 s l.length (r6 l)) (hS : setB l = true) : ACalls Tryz.prog 80 [s] H (fun v H' => v = .bool (tauB l) ∧ H' = H) := by
  obtain ⟨bs, os, cs, rfl, hbs⟩ := hs
  have hbls := getElem?_lt hbs
  have hb0s := fun l => get_app (l := l) hbs
  have hln := setB_len hS
  refine AcT true Tryz.func80 ?_; intro hbel Q hQ
  have g'1 := (jn @hbs @hb0s)
  refine runTf g'1 ?_
  refine call_v (by kernel_rfl) (kpairs_c _ _ l ⟨_, _, _, rfl, by first | exact hb0s _ | exact hbs⟩ (by assumption)) ?_
  refine runTf g'1 ?_
  refine gd_split (fun h1 => ?_) (fun h1 => ?_)
  · have h1d := bsT h1
    have g'2 := (jn @h1 (jn @h1d g'1))
    refine runTf g'2 ?_
    refine call_v (by kernel_rfl) (has_box _ _ l ⟨_, _, _, rfl, by first | exact hb0s _ | exact hbs⟩ (by omega) _ [] (by kernel_rfl) rfl (wdeB) (fun j hj => ktau1_c _ _ _ _ _ _ _ ((setB_iff.1 hS).2 (g6 l j) (g6_mem hj)))) ?_
    refine runTf g'2 ?_
    exact hQ _ _ (end_plain0 (.inl rfl) hbel (x := .bool (!(l.any (wdeB)))) (resT Tryz.results80) rfl ⟨by first | (simp [tauB, h1d]; done) | (unfold tauB; simp only [h1]; rfl), rfl⟩)
  · have h1d := bsT h1
    have g'3 := (jn @h1 (jn @h1d g'1))
    refine runTf g'3 ?_
    exact hQ _ _ (end_plain0 (.inl rfl) hbel (x := .bool false) (resT Tryz.results80) rfl ⟨by first | (simp [tauB, h1d]; done) | (unfold tauB; simp only [h1]; rfl), rfl⟩)
theorem kright_c (H : AHeap) (W : Int) (Hh : Int) (pp : AV) (xs : List Int) (s : AV) (l : List T6) (q : AV) (sc : List (Int × Int)) (g : Int) (hpp : Sl H 1 pp xs.length (ints .u8 xs)) (hs : Sl H 6 s l.length (r6 l)) (hq : Sl H 2 q sc.length (prs sc)) (hl : l.length ≤ 1000000000) (hsc : sc.length ≤ 1000000000) : ACalls Tryz.prog 78 [.agg [.int .i64 W, .int .i64 Hh, pp], s, q, .int .i64 g] H (fun v H' => v = .bool (rgtA W Hh xs l sc g) ∧ H' = H) := by
  obtain ⟨bpp, opp, cpp, rfl, hbpp⟩ := hpp
  have hblpp := getElem?_lt hbpp
  have hb0pp := fun l => get_app (l := l) hbpp
  obtain ⟨bs, os, cs, rfl, hbs⟩ := hs
  have hbls := getElem?_lt hbs
  have hb0s := fun l => get_app (l := l) hbs
  obtain ⟨bq, oq, cq, rfl, hbq⟩ := hq
  have hblq := getElem?_lt hbq
  have hb0q := fun l => get_app (l := l) hbq
  refine AcT true Tryz.func78 ?_; intro hbel Q hQ
  have g'4 := (jn @hbpp (jn @hb0pp (jn @hbs (jn @hb0s (jn @hbq @hb0q)))))
  refine runTf g'4 ?_
  refine call_v (by kernel_rfl) (valid_a _ W Hh _ xs (.inr ⟨_, _, _, rfl, by first | exact hb0pp _ | exact hbpp⟩)) ?_
  refine runTf g'4 ?_
  refine gd_split (fun h1 => ?_) (fun h1 => ?_)
  · have h1d := bsT h1
    have g'5 := (jn @h1 (jn @h1d g'4))
    refine runTf g'5 ?_
    refine gd_split (fun h2 => ?_) (fun h2 => ?_)
    · have h2d := bsT h2
      have g'6 := (jn @h2 (jn @h2d g'5))
      refine runTf g'6 ?_
      refine call_v (by kernel_rfl) (kset_c _ _ l ⟨_, _, _, rfl, by first | exact hb0s _ | exact hbs⟩ (by omega)) ?_
      refine runTf g'6 ?_
      refine gd_split (fun h3 => ?_) (fun h3 => ?_)
      · have h3d := bsT h3
        have g'7 := (jn @h3 (jn @h3d g'6))
        refine runTf g'7 ?_
        refine gd_split (fun h4 => ?_) (fun h4 => ?_)
        · have h4d := bsT h4
          have g'8 := (jn @h4 (jn @h4d g'7))
          refine runTf g'8 ?_
          refine call_v (by kernel_rfl) (has_m _ _ sc ⟨_, _, _, rfl, by first | exact hb0q _ | exact hbq⟩ (by omega) _ [] (by kernel_rfl) rfl (fun e => !beaE e) (fun j hj => kright1_c _ _ _)) ?_
          refine runTf g'8 ?_
          refine gd_split (fun h5 => ?_) (fun h5 => ?_)
          · have h5d := bsT h5
            have g'9 := (jn @h5 (jn @h5d g'8))
            refine runTf g'9 ?_
            refine call_v (by kernel_rfl) (kwithin_c _ g 1 32) ?_
            refine runTf g'9 ?_
            exact hQ _ _ (end_plain (.inl rfl) hbel (x := .bool (btw g 1 32)) (resT Tryz.results78) rfl ⟨by first | (simp [rgtA, scnB, h1d, h2d, h3d, h4d, h5d]; done) | (unfold rgtA scnB; simp only [h1, h2, h3, h4, h5]; rfl), rfl⟩)
          · have h5d := bsT h5
            have g'10 := (jn @h5 (jn @h5d g'8))
            refine runTf g'10 ?_
            exact hQ _ _ (end_plain (.inl rfl) hbel (x := .bool false) (resT Tryz.results78) rfl ⟨by first | (simp [rgtA, scnB, h1d, h2d, h3d, h4d, h5d]; done) | (unfold rgtA scnB; simp only [h1, h2, h3, h4, h5]; rfl), rfl⟩)
        · have h4d := bsT h4
          have g'11 := (jn @h4 (jn @h4d g'7))
          refine runTf g'11 ?_
          exact hQ _ _ (end_plain (.inl rfl) hbel (x := .bool false) (resT Tryz.results78) rfl ⟨by first | (simp [rgtA, scnB, h1d, h2d, h3d, h4d]; done) | (unfold rgtA scnB; simp only [h1, h2, h3, h4]; rfl), rfl⟩)
      · have h3d := bsT h3
        have g'12 := (jn @h3 (jn @h3d g'6))
        refine runTf g'12 ?_
        exact hQ _ _ (end_plain (.inl rfl) hbel (x := .bool false) (resT Tryz.results78) rfl ⟨by first | (simp [rgtA, scnB, h1d, h2d, h3d]; done) | (unfold rgtA scnB; simp only [h1, h2, h3]; rfl), rfl⟩)
    · have h2d := bsT h2
      have g'13 := (jn @h2 (jn @h2d g'5))
      refine runTf g'13 ?_
      exact hQ _ _ (end_plain (.inl rfl) hbel (x := .bool false) (resT Tryz.results78) rfl ⟨by first | (simp [rgtA, scnB, h1d, h2d]; done) | (unfold rgtA scnB; simp only [h1, h2]; rfl), rfl⟩)
  · have h1d := bsT h1
    have g'14 := (jn @h1 (jn @h1d g'4))
    refine runTf g'14 ?_
    exact hQ _ _ (end_plain (.inl rfl) hbel (x := .bool false) (resT Tryz.results78) rfl ⟨by first | (simp [rgtA, scnB, h1d]; done) | (unfold rgtA scnB; simp only [h1]; rfl), rfl⟩)
open Go.RowKit
theorem hlistk_c (H : AHeap) (l : List T6) (i : Nat) (ha : arcB (g65 l i) (g66 l i) = true) : ACalls Tryz.prog 113 [.agg [.int .i64 (g65 l i), .int .i64 (g66 l i)]] H (fun v H' => v = .sl (some (H.length, 0)) (mkB (g6 l i)).length none ∧ H' = H ++ [.cells true 1 (ints .i64 (mkB (g6 l i)))]) := hlist_c H _ _ ha
theorem tracedf_c (H : AHeap) (l : List T6) (m far : Int) : ACalls Tryz.prog 248 [.agg [.int .i64 (g91 (dirA l m) 0), .int .i64 (g92 (dirA l m) 0)], .agg [.int .i64 (g97 (dirA l m) 0), .int .i64 (g98 (dirA l m) 0), .int .i64 (g99 (dirA l m) 0)], .int .i64 0, .int .i64 far] H (fun v H' => v = .tup [.sl (some (H.length, 0)) (fstL l m far).length (capG (fstL l m far).length), .int .i64 (trE (g91 (dirA l m) 0) (g92 (dirA l m) 0) (g97 (dirA l m) 0) (g98 (dirA l m) 0) (g99 (dirA l m) 0) 0 far)] ∧ H' = H ++ [.cells (ownG (fstL l m far).length) 2 (prs (fstL l m far))]) := traced_c H _ _ _ _ _ _ _
theorem g9_mem {l : List T9} {j : Nat} (h : j < l.length) : g9 l j ∈ l := by
  have := g9_eq h
  have e : (g91 l j, g92 l j, g93 l j, g94 l j, g95 l j, g96 l j, g97 l j, g98 l j, g99 l j) = g9 l j := rfl
  rw [e] at this; rw [this]; exact List.getElem_mem h
theorem fstL_len (l : List T6) (m far : Int) : (fstL l m far).length ≤ 7225 := trL_len _ _ _ _ _ _ _
theorem corners_c (H : AHeap) (x0 : Int) (y0 : Int) (x1 : Int) (y1 : Int) (f : Int) (c : Int) (ha : bxB x0 y0 x1 y1 f c = true) : ACalls Tryz.prog 249 [.agg [.int .i64 x0, .int .i64 y0, .int .i64 x1, .int .i64 y1, .int .i64 f, .int .i64 c]] H (fun v H' => v = .sl (some (H.length, 0)) 4 none ∧ H' = H ++ [.cells true 2 [.int .i64 x0, .int .i64 y0, .int .i64 x1, .int .i64 y0, .int .i64 x0, .int .i64 y1, .int .i64 x1, .int .i64 y1]]) := by
  refine AcT true Tryz.func249 ?_; intro hbel Q hQ
  have g'1 := @ha
  refine runTf g'1 ?_
  refine call_v (by kernel_rfl) (bxv_c _ x0 y0 x1 y1 f c) ?_
  refine runTf g'1 ?_
  refine hQ _ _ (end_byG (.inl rfl) hbel (x1 := .sl (some (H.length + 1, 0)) 4 (some 4)) (l2 := [.cells true 2 [.int .i64 x0, .int .i64 y0, .int .i64 x1, .int .i64 y0, .int .i64 x0, .int .i64 y1, .int .i64 x1, .int .i64 y1]]) (.sl (some (H.length, 0)) 4 none) (resT Tryz.results249) [] rfl [1] (by decide) ⟨rfl, rfl⟩ ?_)
  exact absW
theorem directed_c (H : AHeap) (s : AV) (l : List T6) (m : Int) (r : Int) (hs : Sl H 6 s l.length (r6 l)) (hS : setB l = true) : ACalls Tryz.prog 173 [s, .agg [.int .i64 m, .int .i64 r]] H (fun v H' => v = .sl (some (H.length, 0)) ((dirA l m).length) (capG (dirA l m).length) ∧ H' = H ++ [.cells (ownG (dirA l m).length) 9 (r9 (dirA l m))]) := by
  obtain ⟨bs, os, cs, rfl, hbs⟩ := hs
  have hbls := getElem?_lt hbs
  have hb0s := fun l => get_app (l := l) hbs
  have hln := setB_len hS
  refine AcT true Tryz.func173 ?_; intro hbel Q hQ
  have g'2 := (jn @hbs @hb0s)
  refine runTf g'2 ?_
  refine go_loop try_mixed (by kernel_rfl) (fun k F Hx => ∃ i : Nat, i + k = l.length ∧ F = [(3, .ptr (some (H.length, 0))), (5, .sl (some (H.length + 1, 0)) ((dirS l m i).length) (capG (dirS l m i).length)), (10, .sl (some (bs, 0)) l.length cs), (11, .int .i64 ((l.length : Nat) : Int)), (12, .int .i64 ((i : Nat) : Int))] ∧ Hx = H ++ [.cells true 0 [.int .i64 m, .int .i64 r], .cells (ownG (dirS l m i).length) 9 (r9 (dirS l m i))]) (l.length) ?_ ?_
  · refine ⟨_, _, _, ⟨0, by omega, rfl, rfl⟩, Abs.byG hbel [.cells false 9 []] rfl [0, 1] (by decide) ?_⟩
    exact absRf (jn @dirS.eq_1 (jn @r9_append (jn @r9_cons (jn @r9_nil @mvs_r9))))
  · rintro k0 F Hx ⟨i, hm0, rfl, rfl⟩ J0 hJ0
    have g'3 := (jn @r9_len (jn @r9_one g'2))
    refine runTf g'3 ?_
    refine cond_split (fun h1 => ?_) (fun h1 => ?_)
    · have h1d := bsT h1
      have hai : arcB (g65 l i) (g66 l i) = true := (bxB_iff.1 ((setB_iff.1 hS).2 (g6 l i) (g6_mem (by omega)))).2.2
      have hdl := dirS_len hS m i (by omega)
      have hmk := mkB_len hS (show i < l.length by omega)
      have q2 := r6_load (l := l) (j := i) (by omega)
      have g'4 := (jn @h1 (jn @h1d (jn @r6_len (jn @q2 g'3))))
      refine runTf g'4 ?_
      refine call_v (by kernel_rfl) (hlistk_c _ l i hai) ?_
      refine runTf g'4 ?_
      refine go_loop try_mixed (by kernel_rfl) (fun k F Hx => ∃ j : Nat, j + k = (mkB (g6 l i)).length ∧ F = [(3, .ptr (some (H.length, 0))), (5, .sl (some (H.length + 3, 0)) ((dirS l m i ++ dirB (g6 l i) m j).length) (capG (dirS l m i ++ dirB (g6 l i) m j).length)), (7, .ptr (some (H.length + 1, 0))), (10, .sl (some (bs, 0)) l.length cs), (11, .int .i64 ((l.length : Nat) : Int)), (12, .int .i64 ((i : Nat) : Int)), (21, .sl (some (H.length + 2, 0)) ((mkB (g6 l i)).length) none), (22, .int .i64 (((mkB (g6 l i)).length : Nat) : Int)), (23, .int .i64 ((j : Nat) : Int))] ∧ Hx = H ++ [.cells true 0 [.int .i64 m, .int .i64 r], .cells true 0 [.int .i64 (g61 l i), .int .i64 (g62 l i), .int .i64 (g63 l i), .int .i64 (g64 l i), .int .i64 (g65 l i), .int .i64 (g66 l i)], .cells true 1 (ints .i64 (mkB (g6 l i))), .cells (ownG (dirS l m i ++ dirB (g6 l i) m j).length) 9 (r9 (dirS l m i ++ dirB (g6 l i) m j))]) ((mkB (g6 l i)).length) ?_ ?_
      · refine ⟨_, _, _, ⟨0, by omega, rfl, rfl⟩, Abs.byG hbel [] rfl [0, 2, 3, 1] (by decide) ?_⟩
        exact absRf (jn @dirB.eq_1 (jn @List.append_nil.{0} (jn @r9_append (jn @r9_cons (jn @r9_nil @mvs_r9)))))
      · rintro k1 F Hx ⟨j, hm1, rfl, rfl⟩ J1 hJ1
        have hbl := dirB_len (g6 l i) m j
        have hst : dirB (g6 l i) m (j + 1) = dirB (g6 l i) m j ++ [(g61 l i, g62 l i, g63 l i, g64 l i, g65 l i, g66 l i, (beamV (gi (mkB (g6 l i)) j) m).1, (beamV (gi (mkB (g6 l i)) j) m).2.1, (beamV (gi (mkB (g6 l i)) j) m).2.2)] := rfl
        have g'5 := (jn @ints_len (jn @ints_ones g'4))
        refine runTf g'5 ?_
        refine cond_split (fun h3 => ?_) (fun h3 => ?_)
        · have h3d := bsT h3
          have q4 := ints_get (k := .i64) (xs := mkB (g6 l i)) (j := j) (by omega)
          have g'6 := (jn @h3 (jn @h3d (jn @q4 g'5)))
          refine runTf g'6 ?_
          refine call_d (by kernel_rfl) (hbeam_c _ (gi (mkB (g6 l i)) j) m) ?_
          have g'7 := (jn @prs_len (jn @capG_s g'6))
          refine runTf g'7 ?_
          refine hJ1 _ _ ⟨k1 - 1, by omega, _, _, _, ⟨j + 1, by omega, rfl, rfl⟩, Abs.byG hbel [] rfl [0, 1, 2, 5] (by decide) ?_⟩
          exact absRf (jn @hst (jn @List.append_assoc.{0} (jn @r9_append (jn @r9_cons (jn @r9_nil @mvs_r9)))))
        · have h3d := bsT h3
          obtain rfl : j = (mkB (g6 l i)).length := by omega
          have g'8 := (jn @h3 (jn @h3d g'5))
          refine runTf g'8 ?_
          refine hJ0 _ _ ⟨k0 - 1, by omega, _, _, _, ⟨i + 1, by omega, rfl, rfl⟩, Abs.byG hbel [] rfl [0, 3] (by decide) ?_⟩
          exact absRf (jn @dirS.eq_2 (jn @r9_append (jn @r9_cons (jn @r9_nil @mvs_r9))))
    · have h1d := bsT h1
      obtain rfl : i = l.length := by omega
      have g'9 := (jn @h1 (jn @h1d g'3))
      refine runTf g'9 ?_
      refine hQ _ _ (end_byG (.inl rfl) hbel (x1 := .sl (some (H.length + 1, 0)) ((dirS l m l.length).length) (capG (dirS l m l.length).length)) (l2 := [.cells (ownG (dirS l m l.length).length) 9 (r9 (dirS l m l.length))]) (.sl (some (H.length, 0)) ((dirS l m l.length).length) (capG (dirS l m l.length).length)) (resT Tryz.results173) [] rfl [1] (by decide) ⟨rfl, rfl⟩ ?_)
      exact absWf @mvs_r9
theorem passes_c (H : AHeap) (x0 : Int) (y0 : Int) (x1 : Int) (y1 : Int) (f : Int) (c : Int) (vx : Int) (vy : Int) (vd : Int) (s0 : Int) (t0 : Int) (s1 : Int) (t1 : Int) (far : Int) (hp : bxB x0 y0 x1 y1 f c = true) : ACalls Tryz.prog 251 [.agg [.int .i64 x0, .int .i64 y0, .int .i64 x1, .int .i64 y1, .int .i64 f, .int .i64 c, .int .i64 vx, .int .i64 vy, .int .i64 vd], .agg [.int .i64 s0, .int .i64 t0, .int .i64 s1, .int .i64 t1], .int .i64 far] H (fun v H' => v = .bool (psB (x0, y0, x1, y1, f, c, vx, vy, vd) s0 t0 s1 t1 far) ∧ H' = H) := by
  refine AcT true Tryz.func251 ?_; intro hbel Q hQ
  refine runT ?_
  refine call_v (by kernel_rfl) (corners_c _ x0 y0 x1 y1 f c (by assumption)) ?_
  refine runT ?_
  refine go_loop try_mixed (by kernel_rfl) (fun k F Hx => ∃ j : Nat, j + k = 4 ∧ ((1 ≤ j → sbfB x0 y0 vx vy vd far s0 t0 s1 t1 = true) ∧ (2 ≤ j → sbfB x1 y0 vx vy vd far s0 t0 s1 t1 = true) ∧ (3 ≤ j → sbfB x0 y1 vx vy vd far s0 t0 s1 t1 = true) ∧ (4 ≤ j → sbfB x1 y1 vx vy vd far s0 t0 s1 t1 = true)) ∧ F = [(2, .int .i64 far), (3, .ptr (some (H.length, 0))), (4, .ptr (some (H.length + 1, 0))), (11, .sl (some (H.length + 2, 0)) 4 none), (12, .int .i64 4), (13, .int .i64 ((j : Nat) : Int))] ∧ Hx = H ++ [.cells true 0 [.int .i64 x0, .int .i64 y0, .int .i64 x1, .int .i64 y1, .int .i64 f, .int .i64 c, .int .i64 vx, .int .i64 vy, .int .i64 vd], .cells true 0 [.int .i64 s0, .int .i64 t0, .int .i64 s1, .int .i64 t1], .cells true 2 [.int .i64 x0, .int .i64 y0, .int .i64 x1, .int .i64 y0, .int .i64 x0, .int .i64 y1, .int .i64 x1, .int .i64 y1]]) (4) ?_ ?_
  · refine ⟨_, _, _, ⟨0, by omega, ⟨fun h => by omega, fun h => by omega, fun h => by omega, fun h => by omega⟩, rfl, rfl⟩, Abs.byG hbel [] rfl [0, 1, 2] (by decide) ?_⟩
    exact absW
  · rintro k0 F Hx ⟨j, hm0, hal, rfl, rfl⟩ J0 hJ0
    refine runT ?_
    refine cond_split (fun h1 => ?_) (fun h1 => ?_)
    · have h1d := bsT h1
      obtain rfl | rfl | rfl | rfl := (by omega : j = 0 ∨ j = 1 ∨ j = 2 ∨ j = 3)
      · skip
        have g'10 := (jn @h1 @h1d)
        refine runTf g'10 ?_
        refine call_v (by kernel_rfl) (sbefore_c _ x0 y0 vx vy vd far s0 t0 s1 t1) ?_
        refine runTf g'10 ?_
        refine cond_split (fun h2 => ?_) (fun h2 => ?_)
        · have h2d := bsT h2
          have hfinP : psB (x0, y0, x1, y1, f, c, vx, vy, vd) s0 t0 s1 t1 far = false := by simp [psB, h2d]
          have g'11 := (jn @h2 (jn @h2d g'10))
          refine runTf g'11 ?_
          exact hQ _ _ (end_plain (.inl rfl) hbel (x := .bool false) (resT Tryz.results251) rfl ⟨by rw [hfinP], rfl⟩)
        · have h2d := bsT h2
          have hc0 := h2d
          have g'12 := (jn @h2 (jn @h2d g'10))
          refine runTf g'12 ?_
          refine hJ0 _ _ ⟨k0 - 1, by omega, _, _, _, ⟨0 + 1, by omega, by refine ⟨fun h => ?_, fun h => ?_, fun h => ?_, fun h => ?_⟩ <;> first | omega | assumption | exact hal.1 (by omega) | exact hal.2.1 (by omega) | exact hal.2.2.1 (by omega), rfl, rfl⟩, Abs.byG hbel [] rfl [0, 1, 2] (by decide) ?_⟩
          exact absW
      · skip
        have g'13 := (jn @h1 @h1d)
        refine runTf g'13 ?_
        refine call_v (by kernel_rfl) (sbefore_c _ x1 y0 vx vy vd far s0 t0 s1 t1) ?_
        refine runTf g'13 ?_
        refine cond_split (fun h3 => ?_) (fun h3 => ?_)
        · have h3d := bsT h3
          have hfinP : psB (x0, y0, x1, y1, f, c, vx, vy, vd) s0 t0 s1 t1 far = false := by simp [psB, h3d]
          have g'14 := (jn @h3 (jn @h3d g'13))
          refine runTf g'14 ?_
          exact hQ _ _ (end_plain (.inl rfl) hbel (x := .bool false) (resT Tryz.results251) rfl ⟨by rw [hfinP], rfl⟩)
        · have h3d := bsT h3
          have hc1 := h3d
          have g'15 := (jn @h3 (jn @h3d g'13))
          refine runTf g'15 ?_
          refine hJ0 _ _ ⟨k0 - 1, by omega, _, _, _, ⟨1 + 1, by omega, by refine ⟨fun h => ?_, fun h => ?_, fun h => ?_, fun h => ?_⟩ <;> first | omega | assumption | exact hal.1 (by omega) | exact hal.2.1 (by omega) | exact hal.2.2.1 (by omega), rfl, rfl⟩, Abs.byG hbel [] rfl [0, 1, 2] (by decide) ?_⟩
          exact absW
      · skip
        have g'16 := (jn @h1 @h1d)
        refine runTf g'16 ?_
        refine call_v (by kernel_rfl) (sbefore_c _ x0 y1 vx vy vd far s0 t0 s1 t1) ?_
        refine runTf g'16 ?_
        refine cond_split (fun h4 => ?_) (fun h4 => ?_)
        · have h4d := bsT h4
          have hfinP : psB (x0, y0, x1, y1, f, c, vx, vy, vd) s0 t0 s1 t1 far = false := by simp [psB, h4d]
          have g'17 := (jn @h4 (jn @h4d g'16))
          refine runTf g'17 ?_
          exact hQ _ _ (end_plain (.inl rfl) hbel (x := .bool false) (resT Tryz.results251) rfl ⟨by rw [hfinP], rfl⟩)
        · have h4d := bsT h4
          have hc2 := h4d
          have g'18 := (jn @h4 (jn @h4d g'16))
          refine runTf g'18 ?_
          refine hJ0 _ _ ⟨k0 - 1, by omega, _, _, _, ⟨2 + 1, by omega, by refine ⟨fun h => ?_, fun h => ?_, fun h => ?_, fun h => ?_⟩ <;> first | omega | assumption | exact hal.1 (by omega) | exact hal.2.1 (by omega) | exact hal.2.2.1 (by omega), rfl, rfl⟩, Abs.byG hbel [] rfl [0, 1, 2] (by decide) ?_⟩
          exact absW
      · skip
        have g'19 := (jn @h1 @h1d)
        refine runTf g'19 ?_
        refine call_v (by kernel_rfl) (sbefore_c _ x1 y1 vx vy vd far s0 t0 s1 t1) ?_
        refine runTf g'19 ?_
        refine cond_split (fun h5 => ?_) (fun h5 => ?_)
        · have h5d := bsT h5
          have hfinP : psB (x0, y0, x1, y1, f, c, vx, vy, vd) s0 t0 s1 t1 far = false := by simp [psB, h5d]
          have g'20 := (jn @h5 (jn @h5d g'19))
          refine runTf g'20 ?_
          exact hQ _ _ (end_plain (.inl rfl) hbel (x := .bool false) (resT Tryz.results251) rfl ⟨by rw [hfinP], rfl⟩)
        · have h5d := bsT h5
          have hc3 := h5d
          have g'21 := (jn @h5 (jn @h5d g'19))
          refine runTf g'21 ?_
          refine hJ0 _ _ ⟨k0 - 1, by omega, _, _, _, ⟨3 + 1, by omega, by refine ⟨fun h => ?_, fun h => ?_, fun h => ?_, fun h => ?_⟩ <;> first | omega | assumption | exact hal.1 (by omega) | exact hal.2.1 (by omega) | exact hal.2.2.1 (by omega), rfl, rfl⟩, Abs.byG hbel [] rfl [0, 1, 2] (by decide) ?_⟩
          exact absW
    · have h1d := bsT h1
      have hfinP : psB (x0, y0, x1, y1, f, c, vx, vy, vd) s0 t0 s1 t1 far = true := by unfold psB; simp only; rw [hal.1 (by omega), hal.2.1 (by omega), hal.2.2.1 (by omega), hal.2.2.2 (by omega)]; rfl
      have g'22 := (jn @h1 @h1d)
      refine runTf g'22 ?_
      exact hQ _ _ (end_plain (.inl rfl) hbel (x := .bool true) (resT Tryz.results251) rfl ⟨by rw [hfinP], rfl⟩)
theorem kprv1_c (H : AHeap) (x0 : Int) (y0 : Int) (x1 : Int) (y1 : Int) (f : Int) (c : Int) (vx : Int) (vy : Int) (vd : Int) (s0 : Int) (t0 : Int) (s1 : Int) (t1 : Int) (bz : Nat) (far : Int) (bw : Nat) (hz : ∃ o, H[bz]? = some (.cells o 0 [.int .i64 s0, .int .i64 t0, .int .i64 s1, .int .i64 t1])) (hw : ∃ o, H[bw]? = some (.cells o 0 [.int .i64 far])) (hp : bxB x0 y0 x1 y1 f c = true) : ACalls Tryz.prog 250 [.agg [.int .i64 x0, .int .i64 y0, .int .i64 x1, .int .i64 y1, .int .i64 f, .int .i64 c, .int .i64 vx, .int .i64 vy, .int .i64 vd], .ptr (some (bz, 0)), .ptr (some (bw, 0))] H (fun v H' => v = .bool (!(psB (x0, y0, x1, y1, f, c, vx, vy, vd) s0 t0 s1 t1 far)) ∧ H' = H) := by
  obtain ⟨oz, hbz⟩ := hz
  have hblz := getElem?_lt hbz
  have hb0z := fun l => get_app (l := l) hbz
  obtain ⟨ow, hbw⟩ := hw
  have hblw := getElem?_lt hbw
  have hb0w := fun l => get_app (l := l) hbw
  refine AcT true Tryz.func250 ?_; intro hbel Q hQ
  have g'23 := (jn @hbz (jn @hb0z (jn @hbw @hb0w)))
  refine runTf g'23 ?_
  refine call_v (by kernel_rfl) (passes_c _ x0 y0 x1 y1 f c vx vy vd s0 t0 s1 t1 far (by assumption)) ?_
  refine runTf g'23 ?_
  exact hQ _ _ (end_plain (.inl rfl) hbel (x := .bool (!(psB (x0, y0, x1, y1, f, c, vx, vy, vd) s0 t0 s1 t1 far))) (resT Tryz.results250) rfl ⟨rfl, rfl⟩)
theorem psqr_c (H : AHeap) (x : Int) (y : Int) : ACalls Tryz.prog 125 [.agg [.int .i64 x, .int .i64 y]] H (fun v H' => v = .tup [.agg [.int .i64 (mkV (sqO x y) (x * 64)), .int .i64 (mkV (sqO x y) (y * 64)), .int .i64 (mkV (sqO x y) (x * 64 + 64)), .int .i64 (mkV (sqO x y) (y * 64 + 64))], .bool (sqO x y)] ∧ H' = H) := by
  refine AcT true Tryz.func125 ?_; intro hbel Q hQ
  refine runT ?_
  refine call_v (by kernel_rfl) (pwithin_c _ x 16384 (by omega)) ?_
  refine runT ?_
  refine gd_split (fun h1 => ?_) (fun h1 => ?_)
  · have h1d := bsT h1
    have wx := within_iff.1 h1d
    have g'24 := (jn @h1 @h1d)
    refine runTf g'24 ?_
    refine call_v (by kernel_rfl) (pwithin_c _ y 16384 (by omega)) ?_
    refine runTf g'24 ?_
    refine cond_split (fun h2 => ?_) (fun h2 => ?_)
    · have h2d := bsT h2
      have wy : ¬ (-16384 ≤ y ∧ y ≤ 16384) := mt within_iff.2 (by rw [h2d]; decide)
      have g'25 := (jn @h2 (jn @h2d g'24))
      refine runTf g'25 ?_
      exact hQ _ _ (end_plain (.inl rfl) hbel (x := .tup [.agg [.int .i64 0, .int .i64 0, .int .i64 0, .int .i64 0], .bool false]) (resT Tryz.results125) rfl ⟨by simp [mkV, sqO, h1d, h2d], rfl⟩)
    · have h2d := bsT h2
      have wy := within_iff.1 h2d
      have g'26 := (jn @h2 (jn @h2d g'24))
      refine runTf g'26 ?_
      refine call_v (by kernel_rfl) (psquare_c _ x y (by omega) (by omega)) ?_
      refine runTf g'26 ?_
      exact hQ _ _ (end_plain (.inl rfl) hbel (x := .tup [.agg [.int .i64 (x * 64), .int .i64 (y * 64), .int .i64 (x * 64 + 64), .int .i64 (y * 64 + 64)], .bool true]) (resT Tryz.results125) rfl ⟨by simp [mkV, sqO, h1d, h2d], rfl⟩)
  · have h1d := bsT h1
    have wx : ¬ (-16384 ≤ x ∧ x ≤ 16384) := mt within_iff.2 (by rw [h1d]; decide)
    have g'27 := (jn @h1 @h1d)
    refine runTf g'27 ?_
    exact hQ _ _ (end_plain (.inl rfl) hbel (x := .tup [.agg [.int .i64 0, .int .i64 0, .int .i64 0, .int .i64 0], .bool false]) (resT Tryz.results125) rfl ⟨by simp [mkV, sqO, h1d], rfl⟩)
theorem psqr_t (H : AHeap) (x y : Int) (h : sqO x y = true) : ACalls Tryz.prog 125 [.agg [.int .i64 x, .int .i64 y]] H (fun v H' => v = .tup [.agg [.int .i64 (x * 64), .int .i64 (y * 64), .int .i64 (x * 64 + 64), .int .i64 (y * 64 + 64)], .bool true] ∧ H' = H) := by
  have q := psqr_c H x y
  simp only [h, mkV, if_true] at q; exact q
theorem psqr_f (H : AHeap) (x y : Int) (h : sqO x y = false) : ACalls Tryz.prog 125 [.agg [.int .i64 x, .int .i64 y]] H (fun v H' => v = .tup [.agg [.int .i64 0, .int .i64 0, .int .i64 0, .int .i64 0], .bool false] ∧ H' = H) := by
  have q := psqr_c H x y
  simp only [h, mkV, if_false, Bool.false_eq_true] at q; exact q
open Go.RowKit
/-- What a ray meets before far is among the cells of its trace. -/
theorem sbf_trL {px py vx vy vd far cx cy : Int} (h : sbfB px py vx vy vd far (cx * 64) (cy * 64) (cx * 64 + 64) (cy * 64 + 64) = true) (hp : ptB px py = true) (hc : (-16384 ≤ cx ∧ cx ≤ 16383) ∧ -16384 ≤ cy ∧ cy ≤ 16383) (hf : far ≤ 2048) : (cx, cy) ∈ trL px py vx vy vd 0 far := by
  unfold sbfB at h
  simp only [Bool.and_eq_true, decide_eq_true_eq] at h
  obtain ⟨h0, h1, hg, hb⟩ := h
  have hv := thG_vec hg
  have hvB := (thG_iff.1 hg).2.1
  have hq := ptB_iff.1 hp
  have k := bef_traced hv.1 hv.2 hq.1 hq.2 (cx := cx) (cy := cy) (by omega) (by omega) h0
    (mnx := if far * vx < 0 * vx then far * vx else 0 * vx) (mxx := if 0 * vx < far * vx then far * vx else 0 * vx) (mny := if far * vy < 0 * vy then far * vy else 0 * vy) (mxy := if 0 * vy < far * vy then far * vy else 0 * vy)
    (by split <;> omega) (by split <;> omega) (by split <;> omega) (by split <;> omega) (by split <;> omega) (by split <;> omega) (by split <;> omega) (by split <;> omega) hb
  have e : trE px py vx vy vd 0 far = 0 := by unfold trE; rw [if_pos (by rw [hp, hvB]; rfl), if_pos (rngB_iff.2 ⟨by omega, h0, hf⟩)]
  unfold trL mkL; rw [if_pos e]
  refine (swpL_mem (by omega) (by omega) hvB ⟨by omega, h0, hf⟩).2 ?_
  unfold swpP mnsB smeB
  simp only [Bool.and_eq_true, decide_eq_true_eq]
  exact ⟨⟨lnR_iff.2 (by omega), lnR_iff.2 (by omega), lnR_iff.2 (by omega)⟩, by omega, h0, h1, thG_iff.2 ⟨lnP_iff.2 (by omega), hvB, lnR_iff.2 (by omega)⟩, k.1⟩
theorem sbf_BefP {px py vx vy vd far x0 y0 x1 y1 : Int} (h : sbfB px py vx vy vd far x0 y0 x1 y1 = true) : (0 ≤ far ∧ far ≤ 65536) ∧ thG px py vx vy vd x0 y0 x1 y1 = true ∧ BefP px py vx vy vd far x0 y0 x1 y1 := by
  unfold sbfB at h
  simp only [Bool.and_eq_true, decide_eq_true_eq] at h
  obtain ⟨h0, h1, hg, hb⟩ := h
  have hv := thG_vec hg
  have n := thG_near hg
  exact ⟨⟨h0, h1⟩, hg, (bef_iff hv.1 hv.2 n.1 n.2).1 hb⟩
theorem BefP_sbf {px py vx vy vd far x0 y0 x1 y1 : Int} (hf : 0 ≤ far ∧ far ≤ 65536) (hg : thG px py vx vy vd x0 y0 x1 y1 = true) (h : BefP px py vx vy vd far x0 y0 x1 y1) : sbfB px py vx vy vd far x0 y0 x1 y1 = true := by
  have hv := thG_vec hg
  have n := thG_near hg
  unfold sbfB
  simp only [Bool.and_eq_true, decide_eq_true_eq]
  exact ⟨hf.1, hf.2, hg, (bef_iff hv.1 hv.2 n.1 n.2).2 h⟩
theorem sbf_pos {px py vx vy vd far x0 y0 x1 y1 : Int} (h : sbfB px py vx vy vd far x0 y0 x1 y1 = true) : 0 < far := by
  obtain ⟨hf, hg, n, m, hn, hm, hlt, -⟩ := sbf_BefP h
  have hv := (thG_vec hg).1
  rcases Int.lt_or_le 0 far with k | k
  · exact k
  · have e : far = 0 := by omega
    rw [e, Int.zero_mul] at hlt
    have := Int.mul_nonneg hn (show 0 ≤ vd by omega)
    omega
def prvE (l : List T6) (g : Int) (e c : Int × Int) : Bool := prvB l e.1 (farF e.2 g) c
theorem dirA_0 {l : List T6} (hS : setB l = true) (hl : 0 < l.length) (m : Int) : 0 < (dirA l m).length := by have := dirA_len hS m; omega
theorem prv_fst {l : List T6} {m far : Int} {c : Int × Int} (hS : setB l = true) (hl : 0 < l.length) (hf : far ≤ 2048) (hc : (-16384 ≤ c.1 ∧ c.1 ≤ 16383) ∧ -16384 ≤ c.2 ∧ c.2 ≤ 16383) (h : prvB l m far c = true) : c ∈ fstL l m far ∧ 0 < far := by
  have he := g9_mem (dirA_0 hS hl m)
  have k := List.all_eq_true.1 h _ he
  have ok := dirA_ok hS he
  unfold pairB at ok
  rw [Bool.and_eq_true] at ok
  have hb := bxB_iff.1 ok.1
  unfold psC psB at k
  rw [Bool.and_eq_true] at k
  have hp : ptB (g9 (dirA l m) 0).1 (g9 (dirA l m) 0).2.1 = true := ptB_iff.2 (by omega)
  exact ⟨sbf_trL k.1 hp hc hf, sbf_pos k.1⟩
theorem prS_mem {W Hh : Int} {l : List T6} {sc : List (Int × Int)} {g : Int} {c : Int × Int} : ∀ {i : Nat}, c ∈ prS W Hh l sc g i ↔ ∃ j : Nat, j < i ∧ c ∈ prvL W Hh l (g1 sc j) (g2 sc j) g
  | 0 => ⟨fun h => (by cases h), fun ⟨j, hj, _⟩ => (by omega)⟩
  | i + 1 => by
    unfold prS
    rw [List.mem_append, prS_mem]
    constructor
    · rintro (⟨j, hj, h⟩ | h)
      · exact ⟨j, by omega, h⟩
      · exact ⟨i, by omega, h⟩
    · rintro ⟨j, hj, h⟩
      rcases Nat.lt_or_ge j i with k | k
      · exact .inl ⟨j, k, h⟩
      · rw [show j = i by omega] at h; exact .inr h
theorem inB_bd {W Hh : Int} {xs : List Int} {x y : Int} (hV : vldB W Hh xs = true) (h : inB W Hh x y = true) : (0 ≤ x ∧ x ≤ 63) ∧ 0 ≤ y ∧ y ≤ 63 := by
  have q := vld_iff.1 hV
  have := inB_iff.1 h
  have := q.w1; have := q.h1
  omega
/-- The cells that a scan proves free. -/
theorem mem_all {W Hh : Int} {xs : List Int} {l : List T6} {sc : List (Int × Int)} {g : Int} (hR : rgtA W Hh xs l sc g = true) {c : Int × Int} : c ∈ allL W Hh l sc g ↔ tauB l = true ∧ inB W Hh c.1 c.2 = true ∧ ∃ e ∈ sc, prvE l g e c = true := by
  obtain ⟨hV, hl0, hS, hsB, hg⟩ := rgtA_iff.1 hR
  have hs := scnB_iff.1 hsB
  unfold allL
  rw [cptC_mem, (srtC_perm _).mem_iff]
  unfold rowA
  by_cases ht : tauB l = true
  · rw [if_pos ht, prS_mem]
    constructor
    · rintro ⟨j, hj, h⟩
      unfold prvL at h
      split at h
      · cases h
      · have k := (List.mem_filter.1 h).2
        unfold okcB at k
        rw [Bool.and_eq_true, Bool.and_eq_true, btw_iff, btw_iff] at k
        refine ⟨ht, inB_iff.2 (by omega), sc[j], List.getElem_mem hj, ?_⟩
        unfold prvE
        rw [← pr_eq hj]; exact k.2.2
    · rintro ⟨-, hin, e, he, hp⟩
      obtain ⟨j, hj, rfl⟩ := List.mem_iff_getElem.1 he
      have hbe := beaB_iff.1 (hs.2 _ he)
      rw [← pr_eq hj] at hbe hp
      have hb := inB_bd hV hin
      have hff : farF (g2 sc j) g ≤ 2048 := by unfold farF; split <;> omega
      have q := prv_fst hS hl0 hff (by omega) hp
      refine ⟨j, hj, ?_⟩
      unfold prvL
      rw [if_neg (by omega)]
      refine List.mem_filter.2 ⟨q.1, ?_⟩
      unfold okcB
      rw [Bool.and_eq_true, Bool.and_eq_true, btw_iff, btw_iff]
      have := inB_iff.1 hin
      exact ⟨by omega, by omega, hp⟩
  · rw [if_neg ht]
    exact ⟨fun h => (by cases h), fun h => absurd h.1 ht⟩
open Go.RowKit
theorem gi_mkB {b : T6} {j : Nat} (h : j < (mkB b).length) : gi (mkB b) j = (b.2.2.2.2.1 + (j : Int)) % 256 := by
  have h2 : j < b.2.2.2.2.2.toNat := by have e : (mkB b).length = b.2.2.2.2.2.toNat := mrkL_len _ _; omega
  show gi (mrkL b.2.2.2.2.1 b.2.2.2.2.2.toNat) j = _
  rw [gi_eq (by rw [mrkL_len]; exact h2)]
  unfold mrkL
  rw [List.getElem_map, List.getElem_range]
open Go.RowKit
/-- What the document's example gives. -/
theorem all_put {W Hh : Int} {l : List T6} {sc : List (Int × Int)} {g : Int} : allL W Hh l sc g = (rowA W Hh l sc g).foldl (fun o c => putK c o) [] := cpt_put (srtC_sorted _) fun _ => (srtC_perm _).mem_iff
theorem sus_put {l : List T6} {m r g : Int} : susL l m r g = (rowU l m r g).foldl (fun o c => putK c o) [] := cpt_put (srtC_sorted _) fun _ => (srtC_perm _).mem_iff
open Go.RowKit
def swT (r g : Int) (e : T9) : List (Int × Int) := sptL e.1 e.2.1 e.2.2.1 e.2.2.2.1 e.2.2.2.2.2.2.1 e.2.2.2.2.2.2.2.1 e.2.2.2.2.2.2.2.2 (if 0 < r - g then r - g else 0) (r + g)
theorem swS_flat {l : List T9} {r g : Int} : ∀ {i : Nat}, i ≤ l.length → swS l r g i = (l.take i).flatMap (swT r g)
  | 0, _ => by simp [swS]
  | i + 1, hi => by
    have h : i < l.length := by omega
    rw [List.take_succ_eq_append_getElem h, List.flatMap_append, ← swS_flat (by omega)]
    have e := g9_eq h
    simp only [List.flatMap_cons, List.flatMap_nil, List.append_nil]
    rw [← e]; rfl
open Go.RowKit
def sqBf (x y : Int) (v : Int × Int × Int) (far : Int) (c : Int × Int) : Bool := sbfB x y v.1 v.2.1 v.2.2 far (c.1 * 64) (c.2 * 64) (c.1 * 64 + 64) (c.2 * 64 + 64)
def sqMe (x y : Int) (v : Int × Int × Int) (lo hi : Int) (c : Int × Int) : Bool := smeB x y v.1 v.2.1 v.2.2 lo hi (c.1 * 64) (c.2 * 64) (c.1 * 64 + 64) (c.2 * 64 + 64)
def low0 (r g : Int) : Int := if 0 < r - g then r - g else 0
/-- A pose is in a set. -/
def CovP (l : List T6) (x y h : Int) : Prop := ∃ b ∈ l, (b.1 ≤ x ∧ x ≤ b.2.2.1) ∧ (b.2.1 ≤ y ∧ y ≤ b.2.2.2.1) ∧ ∃ j : Nat, j < (mkB b).length ∧ h = gi (mkB b) j
theorem psC_pt {l : List T6} {m far x y : Int} {c : Int × Int} {b : T6} {j : Nat} (hS : setB l = true) (hb : b ∈ l) (hx : b.1 ≤ x ∧ x ≤ b.2.2.1) (hy : b.2.1 ≤ y ∧ y ≤ b.2.2.2.1) (hj : j < (mkB b).length) (h : prvB l m far c = true) : sqBf x y (beamV (gi (mkB b) j) m) far c = true := by
  obtain ⟨i, hi, rfl⟩ := List.mem_iff_getElem.1 hb
  have hbi : g6 l i = l[i] := g6_eq hi
  have hbx := (setB_iff.1 hS).2 _ hb
  have he : dirE l[i] m (gi (mkB l[i]) j) ∈ dirA l m := (dirS_mem (Nat.le_refl _)).2 ⟨i, j, hi, by rw [hbi]; exact hj, by rw [hbi]⟩
  have k := List.all_eq_true.1 h _ he
  unfold psC psB at k
  simp only [Bool.and_eq_true] at k
  obtain ⟨k1, k2, k3, k4⟩ := k
  have p1 := sbf_BefP k1
  have p2 := sbf_BefP k2
  have p3 := sbf_BefP k3
  have p4 := sbf_BefP k4
  have hg := thG_iff.1 p1.2.1
  have hb4 := bxB_iff.1 hbx
  exact BefP_sbf p1.1 (thG_iff.2 ⟨lnP_iff.2 (by omega), hg.2.1, hg.2.2⟩) (bef_box hx hy p1.2.2 p2.2.2 p3.2.2 p4.2.2)
theorem sme_ray {px py vx vy vd lo hi x0 y0 x1 y1 : Int} : smeB px py vx vy vd lo hi x0 y0 x1 y1 = true ↔ (0 ≤ lo ∧ lo ≤ hi ∧ hi ≤ 65536) ∧ thG px py vx vy vd x0 y0 x1 y1 = true ∧ ∃ n m : Int, 0 ≤ n ∧ 0 < m ∧ lo * m ≤ n * vd ∧ n * vd ≤ hi * m ∧ RayP px py vx vy x0 y0 x1 y1 n m := by
  unfold smeB
  simp only [Bool.and_eq_true, decide_eq_true_eq]
  constructor
  · rintro ⟨h0, h1, h2, hg, hm⟩
    have hv := thG_vec hg
    have n := thG_near hg
    exact ⟨⟨h0, h1, h2⟩, hg, (mee_iff hv.1 hv.2 n.1 n.2 h0 h1).1 hm⟩
  · rintro ⟨⟨h0, h1, h2⟩, hg, hm⟩
    have hv := thG_vec hg
    have n := thG_near hg
    exact ⟨h0, h1, h2, hg, (mee_iff hv.1 hv.2 n.1 n.2 h0 h1).2 hm⟩
theorem tau_side {l : List T6} (h : tauB l = true) {b : T6} (hb : b ∈ l) : b.2.2.1 - b.1 ≤ 64 ∧ b.2.2.2.1 - b.2.1 ≤ 64 := by
  unfold tauB at h
  rw [Bool.and_eq_true, Bool.not_eq_true', List.any_eq_false] at h
  have k := h.2 b hb
  unfold wdeB at k
  rw [Bool.or_eq_true, decide_eq_true_eq, decide_eq_true_eq] at k
  omega
theorem sus_pt {l : List T6} {m r g x y : Int} {c : Int × Int} {b : T6} {j : Nat} (hS : setB l = true) (ht : tauB l = true) (hr : 0 ≤ r ∧ r ≤ 1024) (hg : 1 ≤ g ∧ g ≤ 32) (hb : b ∈ l) (hx : b.1 ≤ x ∧ x ≤ b.2.2.1) (hy : b.2.1 ≤ y ∧ y ≤ b.2.2.2.1) (hj : j < (mkB b).length) (hc : (-1024 ≤ c.1 ∧ c.1 ≤ 1024) ∧ -1024 ≤ c.2 ∧ c.2 ≤ 1024) (h : sqMe x y (beamV (gi (mkB b) j) m) (low0 r g) (r + g) c = true) : c ∈ susL l m r g := by
  have hr1 : ¬ r = -1 := by omega
  have e : rowU l m r g = swS (dirA l m) r g (dirA l m).length := by unfold rowU; rw [decide_eq_false hr1, ht]; rfl
  have hsd := tau_side ht hb
  have hbx := bxB_iff.1 ((setB_iff.1 hS).2 _ hb)
  obtain ⟨i, hi, rfl⟩ := List.mem_iff_getElem.1 hb
  have hbi : g6 l i = l[i] := g6_eq hi
  have he : dirE l[i] m (gi (mkB l[i]) j) ∈ dirA l m := (dirS_mem (Nat.le_refl _)).2 ⟨i, j, hi, by rw [hbi]; exact hj, by rw [hbi]⟩
  unfold susL
  rw [cptC_mem, (srtC_perm _).mem_iff, e, swS_flat (Nat.le_refl _), List.take_length, List.mem_flatMap]
  refine ⟨_, he, ?_⟩
  obtain ⟨h1, h2, n, m', k1, k2, k3, k4, k5⟩ := sme_ray.1 h
  have hv := (thG_iff.1 h2).2.1
  have hl0 : 0 ≤ low0 r g ∧ low0 r g ≤ r + g ∧ r + g ≤ 2048 := by unfold low0; split <;> omega
  unfold swT dirE
  show c ∈ sptL _ _ _ _ _ _ _ (low0 r g) (r + g)
  have hE := (sptE_0 (x0 := l[i].1) (y0 := l[i].2.1) (x1 := l[i].2.2.1) (y1 := l[i].2.2.2.1) (rctB_iff.2 (by omega)) hv hl0 (by omega)).2
  rw [hE]
  refine (swpL_mem (by omega) (by omega) hv hl0).2 ?_
  unfold swpP mnsB
  simp only [Bool.and_eq_true]
  exact ⟨⟨lnR_iff.2 (by omega), lnR_iff.2 (by omega), lnR_iff.2 (by omega)⟩, sme_ray.2 ⟨by omega, thG_iff.2 ⟨lnP_iff.2 (by omega), hv, lnR_iff.2 (by omega)⟩, mee_box hx hy ⟨n, m', k1, k2, k3, k4, k5⟩⟩⟩
open Go.RowKit
section
variable {W Hh : Int} {xs : List Int} {px py vx vy vd most : Int}
end
set_option linter.unusedSimpArgs false
set_option linter.unusedVariables false
open Go.RowKit
set_option maxHeartbeats 800000
open Go.RowKit
set_option maxHeartbeats 4000000
set_option maxRecDepth 100000
open Go.RowKit
open Go.RowKit
open Go.RowKit
def poseB (x y h : Int) : Bool := within x 1048576 && (within y 1048576 && (decide (0 ≤ h) && decide (h < 256)))
theorem poseB_iff {x y h : Int} : poseB x y h = true ↔ (ptB x y = true ∧ btw h 0 255 = true) := by
  unfold poseB ptB; simp only [Bool.and_eq_true, within_iff, btw_iff, decide_eq_true_eq]; omega
theorem bpose_c (H : AHeap) (x : Int) (y : Int) (h : Int) : ACalls Tryz.prog 41 [.agg [.int .i64 x, .int .i64 y, .int .i64 h]] H (fun v H' => v = .bool (poseB x y h) ∧ H' = H) := by
  refine AcT true Tryz.func41 ?_; intro hbel Q hQ
  refine runT ?_
  refine call_v (by kernel_rfl) (bsize_c _ _ _ (by decide)) ?_
  refine runT ?_
  refine gd_split (fun h1 => ?_) (fun h1 => ?_)
  · have h1d := bsT h1
    have g'2 := (jn @h1 @h1d)
    refine runTf g'2 ?_
    refine call_v (by kernel_rfl) (bsize_c _ _ _ (by decide)) ?_
    refine runTf g'2 ?_
    refine gd_split (fun h2 => ?_) (fun h2 => ?_)
    · have h2d := bsT h2
      have g'3 := (jn @h2 (jn @h2d g'2))
      refine runTf g'3 ?_
      refine gd_split (fun h3 => ?_) (fun h3 => ?_)
      · have h3d := bsT h3
        have g'4 := (jn @h3 (jn @h3d g'3))
        refine runTf g'4 ?_
        exact hQ _ _ (end_plain (.inl rfl) hbel (x := .bool (decide (h < 256))) (resT Tryz.results41) rfl ⟨by simp [poseB, h1d, h2d, h3d], rfl⟩)
      · have h3d := bsT h3
        have g'5 := (jn @h3 (jn @h3d g'3))
        refine runTf g'5 ?_
        exact hQ _ _ (end_plain (.inl rfl) hbel (x := .bool false) (resT Tryz.results41) rfl ⟨by simp [poseB, h1d, h2d, h3d], rfl⟩)
    · have h2d := bsT h2
      have g'6 := (jn @h2 (jn @h2d g'2))
      refine runTf g'6 ?_
      exact hQ _ _ (end_plain (.inl rfl) hbel (x := .bool false) (resT Tryz.results41) rfl ⟨by simp [poseB, h1d, h2d], rfl⟩)
  · have h1d := bsT h1
    have g'7 := (jn @h1 @h1d)
    refine runTf g'7 ?_
    exact hQ _ _ (end_plain (.inl rfl) hbel (x := .bool false) (resT Tryz.results41) rfl ⟨by simp [poseB, h1d], rfl⟩)
open Go.RowKit
open Go.RowKit
def bldB (W Hh : Int) (xs : List Int) : Bool := vldB W Hh xs && !(xs.any fun v => v == 0)
theorem bld_c (H : AHeap) (W : Int) (Hh : Int) (pp : AV) (xs : List Int) (hpp : Sl H 1 pp xs.length (ints .u8 xs)) : ACalls Tryz.prog 16 [.agg [.int .i64 W, .int .i64 Hh, pp]] H (fun v H' => v = .bool (bldB W Hh xs) ∧ H' = H) := by
  obtain ⟨bpp, opp, cpp, rfl, hbpp⟩ := hpp
  have hblpp := getElem?_lt hbpp
  have hb0pp := fun l => get_app (l := l) hbpp
  refine AcT true Tryz.func16 ?_; intro hbel Q hQ
  have g'1 := (jn @hbpp @hb0pp)
  refine runTf g'1 ?_
  refine call_v (by kernel_rfl) (rplan_a _ W Hh _ xs (.inr ⟨_, _, _, rfl, by first | exact hb0pp _ | exact hbpp⟩)) ?_
  refine runTf g'1 ?_
  refine cond_split (fun h1 => ?_) (fun h1 => ?_)
  · have h1d := bsT h1
    have hfinD : bldB W Hh xs = false := by unfold bldB; rw [h1d]; rfl
    have g'2 := (jn @h1 (jn @h1d g'1))
    refine runTf g'2 ?_
    exact hQ _ _ (end_plain (.inl rfl) hbel (x := .bool false) (resT Tryz.results16) rfl ⟨by first | (rw [hfinD]; done) | (unfold bldB; simp [h1d, hfinD]; done), rfl⟩)
  · have h1d := bsT h1
    have hV := h1d
    have hVl := vld_iff.1 hV
    have g'3 := (jn @h1 (jn @h1d g'1))
    refine runTf g'3 ?_
    refine go_loop try_mixed (by kernel_rfl) (fun k F Hx => ∃ i : Nat, i + k = xs.length ∧ (∀ j : Nat, j < i → ¬ gi xs j = 0) ∧ F = [(1, .ptr (some (H.length, 0))), (3, .int .i64 ((i : Nat) : Int))] ∧ Hx = H ++ [.cells true 0 [.int .i64 W, .int .i64 Hh, .sl (some (bpp, 0)) xs.length cpp]]) (xs.length) ?_ ?_
    · refine ⟨_, _, _, ⟨0, by omega, fun j h => by omega, rfl, rfl⟩, Abs.byG hbel [] rfl [0] (by decide) ?_⟩
      exact absW
    · rintro k0 F Hx ⟨i, hm0, hal, rfl, rfl⟩ J0 hJ0
      have hl4 := hVl.len
      have hl5 := hVl.pos
      refine runTf g'3 ?_
      refine cond_split (fun h2 => ?_) (fun h2 => ?_)
      · have h2d := bsT h2
        have q3 := ints_get (k := .u8) (xs := xs) (j := i) (by omega)
        have g'4 := (jn @h2 (jn @h2d (jn @q3 g'3)))
        refine runTf g'4 ?_
        refine cond_split (fun h4 => ?_) (fun h4 => ?_)
        · have h4d := bsT h4
          have h4n := bnT h4
          have hfinD : bldB W Hh xs = false := by
            unfold bldB
            have e : xs.any (fun v => v == 0) = true := List.any_eq_true.2 ⟨xs[i]'(by omega), List.getElem_mem _, by rw [← gi_eq (show i < xs.length by omega)]; simpa using h4d⟩
            rw [e]; simp
          have g'5 := (jn @h4 (jn @h4n (jn @int_bne (jn @int_beq g'4))))
          refine runTf g'5 ?_
          exact hQ _ _ (end_plain (.inl rfl) hbel (x := .bool false) (resT Tryz.results16) rfl ⟨by first | (rw [hfinD]; done) | (unfold bldB; simp [h1d, h2d, h4d, hfinD]; done), rfl⟩)
        · have h4d := bsT h4
          have h4n := bnT h4
          have hnz : ¬ gi xs i = 0 := by simpa using h4d
          have g'6 := (jn @h4 (jn @h4n (jn @int_bne (jn @int_beq g'4))))
          refine runTf g'6 ?_
          refine hJ0 _ _ ⟨k0 - 1, by omega, _, _, _, ⟨i + 1, by omega, fun j hj => by
                      rcases Nat.lt_or_ge j i with hji | hji
                      · exact hal j hji
                      · rw [show j = i by omega]; exact hnz, rfl, rfl⟩, Abs.byG hbel [] rfl [0] (by decide) ?_⟩
          exact absW
      · have h2d := bsT h2
        have hfinD : bldB W Hh xs = true := by
          unfold bldB
          have e : xs.any (fun v => v == 0) = false := List.any_eq_false.2 fun v hv => by
            obtain ⟨j, hj, rfl⟩ := List.mem_iff_getElem.1 hv
            rw [← gi_eq hj]; simpa using hal j (by omega)
          rw [e, hV]; rfl
        have g'7 := (jn @h2 (jn @h2d g'3))
        refine runTf g'7 ?_
        exact hQ _ _ (end_plain (.inl rfl) hbel (x := .bool true) (resT Tryz.results16) rfl ⟨by first | (rw [hfinD]; done) | (unfold bldB; simp [h1d, h2d, hfinD]; done), rfl⟩)
open Go.RowKit
/-- A point is in a valid plan; a pose is. -/
def inpB (W Hh : Int) (xs : List Int) (x y : Int) : Bool := vldB W Hh xs && (decide (0 ≤ x) && (decide (x ≤ 64 * W) && (decide (0 ≤ y) && decide (y ≤ 64 * Hh))))
theorem inpB_iff {W Hh : Int} {xs : List Int} {x y : Int} : inpB W Hh xs x y = true ↔ vldB W Hh xs = true ∧ (0 ≤ x ∧ x ≤ 64 * W) ∧ 0 ≤ y ∧ y ≤ 64 * Hh := by
  unfold inpB; simp only [Bool.and_eq_true, decide_eq_true_eq]
  exact ⟨fun ⟨a, b, c, d, e⟩ => ⟨a, ⟨b, c⟩, d, e⟩, fun ⟨a, ⟨b, c⟩, d, e⟩ => ⟨a, b, c, d, e⟩⟩
theorem mkV_t (n : Int) : mkV true n = n := rfl
def mrkB (m : Int) : Bool := decide (0 ≤ m) && decide (m ≤ 255)
def meaE (m : Int) : Int := if mrkB m = true then 0 else 2
def swpE (mks : List Int) : Int := if 32 < mks.length then 6 else if mks.all mrkB = true then 0 else 2
theorem gi_out {l : List Int} {i : Nat} (h : l.length ≤ i) : gi l i = 0 := by unfold gi; rw [List.getD_eq_getElem?_getD, List.getElem?_eq_none h]; rfl
theorem swpE_6 {mks : List Int} (h : 32 < mks.length) : swpE mks = 6 := if_pos h
theorem swpE_2 {mks : List Int} (h : ¬ 32 < mks.length) {i : Nat} (hi : i < mks.length) (k : mrkB (gi mks i) = false) : swpE mks = 2 := by
  unfold swpE
  rw [if_neg h, if_neg]
  intro ha
  rw [gi_eq hi, List.all_eq_true.1 ha _ (List.getElem_mem hi)] at k
  cases k
theorem swpE_0 {mks : List Int} (h : ¬ 32 < mks.length) (k : ∀ j : Nat, j < mks.length → mrkB (gi mks j) = true) : swpE mks = 0 := by
  unfold swpE
  rw [if_neg h, if_pos]
  refine List.all_eq_true.2 fun e he => ?_
  obtain ⟨j, hj, rfl⟩ := List.mem_iff_getElem.1 he
  rw [← gi_eq hj]; exact k j hj
open Go.RowKit
/-- A pose is in a box, as the program tests it. -/
def hsgB (f c h : Int) : Bool := arcB f c && decide ((((IntKind.i64.wrap (h - f) % 256).toNat : Nat) : Int) < c)
def hbB (x y h : Int) (b : T6) : Bool := bxB b.1 b.2.1 b.2.2.1 b.2.2.2.1 b.2.2.2.2.1 b.2.2.2.2.2 && (decide (b.1 ≤ x) && (decide (x ≤ b.2.2.1) && (decide (b.2.1 ≤ y) && (decide (y ≤ b.2.2.2.1) && hsgB b.2.2.2.2.1 b.2.2.2.2.2 h))))
def covB (l : List T6) (x y h : Int) : Bool := l.any (hbB x y h)
theorem covB_iff {l : List T6} {x y h : Int} (hh : 0 ≤ h ∧ h ≤ 255) (k : covB l x y h = true) : ∃ b ∈ l, (b.1 ≤ x ∧ x ≤ b.2.2.1) ∧ (b.2.1 ≤ y ∧ y ≤ b.2.2.2.1) ∧ inArc b.2.2.2.2.1 b.2.2.2.2.2 h ∧ arcB b.2.2.2.2.1 b.2.2.2.2.2 = true := by
  obtain ⟨b, hb, hk⟩ := List.any_eq_true.1 k
  unfold hbB hsgB at hk
  simp only [Bool.and_eq_true, decide_eq_true_eq] at hk
  obtain ⟨-, h1, h2, h3, h4, h5, h6⟩ := hk
  have ha := arcB_iff.1 h5
  rw [wrap_in (by omega) (by omega)] at h6
  exact ⟨b, hb, by omega, by omega, by unfold inArc; omega, h5⟩
open Go.RowKit
theorem mee_conv {px qx py vx vy x0 y0 x1 y1 n m n' m' a T vd hi : Int} (hT : 0 < T) (ha : 0 ≤ a ∧ a ≤ T) (hn : 0 ≤ n) (hm : 0 < m) (hn' : 0 ≤ n') (hm' : 0 < m') (hb : n * vd ≤ hi * m) (hb' : n' * vd ≤ hi * m') (h : RayP px py vx vy x0 y0 x1 y1 n m) (h' : RayP qx py vx vy x0 y0 x1 y1 n' m')
    {rx : Int} (hx : T * rx = (T - a) * px + a * qx) : ∃ k l : Int, 0 ≤ k ∧ 0 < l ∧ k * vd ≤ hi * l ∧ RayP rx py vx vy x0 y0 x1 y1 k l := by
  obtain ⟨⟨a1, a2⟩, a3, a4⟩ := h
  obtain ⟨⟨b1, b2⟩, b3, b4⟩ := h'
  -- the point (T-a)*(n/m) + a*(n'/m') over T
  have hTa : 0 ≤ T - a := by omega
  have A : 0 ≤ (T - a) * m' := Int.mul_nonneg hTa (by omega)
  have B : 0 ≤ a * m := Int.mul_nonneg ha.1 (by omega)
  have Tmm : 0 < T * m * m' := Int.mul_pos (Int.mul_pos hT hm) hm'
  refine ⟨(T - a) * m' * n + a * m * n', T * m * m', by have := Int.mul_nonneg A hn; have := Int.mul_nonneg B hn'; omega, Tmm, ?_, ⟨?_, ?_⟩, ?_, ?_⟩
  · have e1 : ((T - a) * m' * n + a * m * n') * vd = (T - a) * m' * (n * vd) + a * m * (n' * vd) := by grind
    have e2 : hi * (T * m * m') = (T - a) * m' * (hi * m) + a * m * (hi * m') := by grind
    rw [e1, e2]
    have p1 := Int.mul_le_mul_of_nonneg_left hb A
    have p2 := Int.mul_le_mul_of_nonneg_left hb' B
    omega
  · have p1 := Int.mul_le_mul_of_nonneg_left a1 A
    have p2 := Int.mul_le_mul_of_nonneg_left b1 B
    have e : T * m * m' * rx + ((T - a) * m' * n + a * m * n') * vx = (T - a) * m' * (m * px + n * vx) + a * m * (m' * qx + n' * vx) := by grind
    have e2 : T * m * m' * x0 = (T - a) * m' * (m * x0) + a * m * (m' * x0) := by grind
    omega
  · have p1 := Int.mul_le_mul_of_nonneg_left a2 A
    have p2 := Int.mul_le_mul_of_nonneg_left b2 B
    have e : T * m * m' * rx + ((T - a) * m' * n + a * m * n') * vx = (T - a) * m' * (m * px + n * vx) + a * m * (m' * qx + n' * vx) := by grind
    have e2 : T * m * m' * x1 = (T - a) * m' * (m * x1) + a * m * (m' * x1) := by grind
    omega
  · have p1 := Int.mul_le_mul_of_nonneg_left a3 A
    have p2 := Int.mul_le_mul_of_nonneg_left b3 B
    have e : T * m * m' * py + ((T - a) * m' * n + a * m * n') * vy = (T - a) * m' * (m * py + n * vy) + a * m * (m' * py + n' * vy) := by grind
    have e2 : T * m * m' * y0 = (T - a) * m' * (m * y0) + a * m * (m' * y0) := by grind
    omega
  · have p1 := Int.mul_le_mul_of_nonneg_left a4 A
    have p2 := Int.mul_le_mul_of_nonneg_left b4 B
    have e : T * m * m' * py + ((T - a) * m' * n + a * m * n') * vy = (T - a) * m' * (m * py + n * vy) + a * m * (m' * py + n' * vy) := by grind
    have e2 : T * m * m' * y1 = (T - a) * m' * (m * y1) + a * m * (m' * y1) := by grind
    omega

/-- Some parameter up to hi. -/
def MeeP (px py vx vy vd hi x0 y0 x1 y1 : Int) : Prop := ∃ n m : Int, 0 ≤ n ∧ 0 < m ∧ n * vd ≤ hi * m ∧ RayP px py vx vy x0 y0 x1 y1 n m
theorem mee_swap {px py vx vy vd hi x0 y0 x1 y1 : Int} : MeeP px py vx vy vd hi x0 y0 x1 y1 ↔ MeeP py px vy vx vd hi y0 x0 y1 x1 :=
  ⟨fun ⟨n, m, a, b, c, d⟩ => ⟨n, m, a, b, c, ray_swap.1 d⟩, fun ⟨n, m, a, b, c, d⟩ => ⟨n, m, a, b, c, ray_swap.2 d⟩⟩
theorem mee_line {ax bx py vx vy vd hi x0 y0 x1 y1 rx : Int} (hr : ax ≤ rx ∧ rx ≤ bx) (h : MeeP ax py vx vy vd hi x0 y0 x1 y1) (k : MeeP bx py vx vy vd hi x0 y0 x1 y1) : MeeP rx py vx vy vd hi x0 y0 x1 y1 := by
  by_cases e : ax = bx
  · rw [show rx = ax by omega]; exact h
  · obtain ⟨n, m, h1, h2, h3, h4⟩ := h
    obtain ⟨n', m', k1, k2, k3, k4⟩ := k
    exact mee_conv (T := bx - ax) (a := rx - ax) (by omega) (by omega) h1 h2 k1 k2 h3 k3 h4 k4 (by grind)
/-- What all four corners of a box meet up to hi, each of its points does. -/
theorem mee_box4 {ax ay bx by' vx vy vd hi x0 y0 x1 y1 rx ry : Int} (hx : ax ≤ rx ∧ rx ≤ bx) (hy : ay ≤ ry ∧ ry ≤ by') (h1 : MeeP ax ay vx vy vd hi x0 y0 x1 y1) (h2 : MeeP bx ay vx vy vd hi x0 y0 x1 y1) (h3 : MeeP ax by' vx vy vd hi x0 y0 x1 y1) (h4 : MeeP bx by' vx vy vd hi x0 y0 x1 y1) : MeeP rx ry vx vy vd hi x0 y0 x1 y1 :=
  mee_swap.1 (mee_line hy (mee_swap.1 (mee_line hx h1 h2)) (mee_swap.1 (mee_line hx h3 h4)))
theorem sme_MeeP {px py vx vy vd hi x0 y0 x1 y1 : Int} (h : smeB px py vx vy vd 0 hi x0 y0 x1 y1 = true) : (0 ≤ hi ∧ hi ≤ 65536) ∧ thG px py vx vy vd x0 y0 x1 y1 = true ∧ MeeP px py vx vy vd hi x0 y0 x1 y1 := by
  obtain ⟨h1, h2, n, m, k1, k2, -, k4, k5⟩ := sme_ray.1 h
  exact ⟨⟨h1.2.1, h1.2.2⟩, h2, n, m, k1, k2, k4, k5⟩
theorem MeeP_sme {px py vx vy vd hi x0 y0 x1 y1 : Int} (h1 : 0 ≤ hi ∧ hi ≤ 65536) (h2 : thG px py vx vy vd x0 y0 x1 y1 = true) (h : MeeP px py vx vy vd hi x0 y0 x1 y1) : smeB px py vx vy vd 0 hi x0 y0 x1 y1 = true := by
  obtain ⟨n, m, k1, k2, k4, k5⟩ := h
  have hv := thG_vec h2
  exact sme_ray.2 ⟨⟨by omega, h1.1, h1.2⟩, h2, n, m, k1, k2, by rw [Int.zero_mul]; exact Int.mul_nonneg k1 (by omega), k4, k5⟩
/-- A wall's square is met from a corner. -/
def hcB (op : Bool) (x y vx vy vd far cx cy : Int) : Bool := bif op then sbfB x y vx vy vd far (cx * 64) (cy * 64) ((cx + 1) * 64) ((cy + 1) * 64) else smeB x y vx vy vd 0 far (cx * 64) (cy * 64) ((cx + 1) * 64) ((cy + 1) * 64)
def h4B (op : Bool) (x0 y0 x1 y1 vx vy vd far cx cy : Int) : Bool := hcB op x0 y0 vx vy vd far cx cy && (hcB op x1 y0 vx vy vd far cx cy && (hcB op x0 y1 vx vy vd far cx cy && hcB op x1 y1 vx vy vd far cx cy))
def hidC (W Hh : Int) (xs : List Int) (op : Bool) (x0 y0 x1 y1 vx vy vd far : Int) (c : Int × Int) : Bool := (atI W Hh xs c.1 c.2 == 2) && h4B op x0 y0 x1 y1 vx vy vd far c.1 c.2
def hidB (W Hh : Int) (xs : List Int) (x0 y0 x1 y1 vx vy vd far : Int) (op : Bool) : Bool := !decide (far < 0) && (trL x0 y0 vx vy vd 0 far).any (hidC W Hh xs op x0 y0 x1 y1 vx vy vd far)
/-- All cells that are swept are free. -/
def frC (W Hh : Int) (xs : List Int) (c : Int × Int) : Bool := atI W Hh xs c.1 c.2 == 1
def empB (W Hh : Int) (xs : List Int) (x0 y0 x1 y1 vx vy vd lo hi : Int) : Bool := (sptL x0 y0 x1 y1 vx vy vd lo hi).all (frC W Hh xs)
/-- A beam refutes a rectangle with a heading. -/
def refB (W Hh : Int) (xs : List Int) (x0 y0 x1 y1 h m r g : Int) : Bool :=
  bif r == -1 then hidB W Hh xs x0 y0 x1 y1 (beamV h m).1 (beamV h m).2.1 (beamV h m).2.2 (1024 - g) false
  else hidB W Hh xs x0 y0 x1 y1 (beamV h m).1 (beamV h m).2.1 (beamV h m).2.2 (r - g) true || empB W Hh xs x0 y0 x1 y1 (beamV h m).1 (beamV h m).2.1 (beamV h m).2.2 (low0 r g) (r + g)
def admB (x0 y0 x1 y1 : Int) : Bool := btw x0 (-1048576) 1048576 && (btw y0 (-1048576) 1048576 && (btw x1 (-1048576) 1048576 && (btw y1 (-1048576) 1048576 && (btw (x1 - x0) 0 1024 && btw (y1 - y0) 0 1024))))
def badB (W Hh : Int) (xs : List Int) (x0 y0 x1 y1 h : Int) (s : List (Int × Int)) (g : Int) : Bool := admB x0 y0 x1 y1 && s.any fun e => refB W Hh xs x0 y0 x1 y1 h e.1 e.2 g
theorem admB_iff {x0 y0 x1 y1 : Int} : admB x0 y0 x1 y1 = true ↔ ((-1048576 ≤ x0 ∧ x0 ≤ x1 ∧ x1 ≤ 1048576) ∧ -1048576 ≤ y0 ∧ y0 ≤ y1 ∧ y1 ≤ 1048576) ∧ x1 - x0 ≤ 1024 ∧ y1 - y0 ≤ 1024 := by
  unfold admB
  simp only [Bool.and_eq_true, btw_iff]
  omega
/-- A reading is plausible: no wall is nearer than it allows, and, if there is an echo, a wall is in its range. -/
def PlauD (W Hh : Int) (xs : List Int) (x y h : Int) (g : Int) (e : Int × Int) : Prop :=
  (¬ e.2 = -1 → (∀ c, atI W Hh xs c.1 c.2 = 2 → sqBf x y (beamV h e.1) (e.2 - g) c = false) ∧ ∃ c : Int × Int, ((-1024 ≤ c.1 ∧ c.1 ≤ 1024) ∧ -1024 ≤ c.2 ∧ c.2 ≤ 1024) ∧ atI W Hh xs c.1 c.2 = 2 ∧ sqMe x y (beamV h e.1) (low0 e.2 g) (e.2 + g) c = true) ∧
  (e.2 = -1 → ∀ c, atI W Hh xs c.1 c.2 = 2 → sqMe x y (beamV h e.1) 0 (1024 - g) c = false)
theorem bel_two {W H x y : Int} {ks xs : List Int} (h : BelP ks xs) (k : atI W H ks x y = 2) : atI W H xs x y = 2 := by
  unfold atI at *
  split at k
  · rename_i hi
    rw [if_pos hi]
    rcases h.2 (y * W + x).toNat with q | q
    · rw [q] at k; cases k
    · rw [← q]; exact k
  · rename_i hi
    rw [if_neg hi]
theorem hcB_sq {op : Bool} {x y vx vy vd far cx cy : Int} : hcB op x y vx vy vd far cx cy = bif op then sqBf x y (vx, vy, vd) far (cx, cy) else sqMe x y (vx, vy, vd) 0 far (cx, cy) := by
  unfold hcB sqBf sqMe
  rw [show (cx + 1) * 64 = cx * 64 + 64 by omega, show (cy + 1) * 64 = cy * 64 + 64 by omega]
/-- What hides a rectangle, hides each of its points. -/
theorem h4_pt {op : Bool} {x0 y0 x1 y1 x y vx vy vd far cx cy : Int} (hx : x0 ≤ x ∧ x ≤ x1) (hy : y0 ≤ y ∧ y ≤ y1) (h : h4B op x0 y0 x1 y1 vx vy vd far cx cy = true) : hcB op x y vx vy vd far cx cy = true := by
  unfold h4B at h
  simp only [Bool.and_eq_true] at h
  obtain ⟨k1, k2, k3, k4⟩ := h
  unfold hcB at *
  cases op with
  | true =>
    simp only [cond_true] at *
    have p1 := sbf_BefP k1
    have p2 := sbf_BefP k2
    have p3 := sbf_BefP k3
    have p4 := sbf_BefP k4
    have hg := thG_iff.1 p1.2.1
    have q1 := lnP_iff.1 hg.1
    have q4 := lnP_iff.1 (thG_iff.1 p4.2.1).1
    exact BefP_sbf p1.1 (thG_iff.2 ⟨lnP_iff.2 (by omega), hg.2.1, hg.2.2⟩) (bef_box hx hy p1.2.2 p2.2.2 p3.2.2 p4.2.2)
  | false =>
    simp only [cond_false] at *
    have p1 := sme_MeeP k1
    have p2 := sme_MeeP k2
    have p3 := sme_MeeP k3
    have p4 := sme_MeeP k4
    have hg := thG_iff.1 p1.2.1
    have q1 := lnP_iff.1 hg.1
    have q4 := lnP_iff.1 (thG_iff.1 p4.2.1).1
    exact MeeP_sme p1.1 (thG_iff.2 ⟨lnP_iff.2 (by omega), hg.2.1, hg.2.2⟩) (mee_box4 hx hy p1.2.2 p2.2.2 p3.2.2 p4.2.2)
theorem hid_f {W Hh : Int} {ks xs : List Int} {x0 y0 x1 y1 x y far : Int} {v : Int × Int × Int} {op : Bool} (hk : BelP ks xs) (hx : x0 ≤ x ∧ x ≤ x1) (hy : y0 ≤ y ∧ y ≤ y1) (h : ∀ c, atI W Hh xs c.1 c.2 = 2 → (bif op then sqBf x y v far c else sqMe x y v 0 far c) = false) : hidB W Hh ks x0 y0 x1 y1 v.1 v.2.1 v.2.2 far op = false := by
  rw [← Bool.not_eq_true]
  intro hb
  unfold hidB at hb
  rw [Bool.and_eq_true, List.any_eq_true] at hb
  obtain ⟨-, c, -, hc⟩ := hb
  unfold hidC at hc
  rw [Bool.and_eq_true, beq_iff_eq] at hc
  have k := h4_pt hx hy hc.2
  rw [hcB_sq] at k
  have q := h c (bel_two hk hc.1)
  rw [show (bif op then sqBf x y v far c else sqMe x y v 0 far c) = true from k] at q
  cases q
/-- A plausible reading refutes no rectangle that has the pose. -/
theorem ref_f {W Hh : Int} {ks xs : List Int} {x0 y0 x1 y1 x y h g : Int} {e : Int × Int} (hk : BelP ks xs) (hx : x0 ≤ x ∧ x ≤ x1) (hy : y0 ≤ y ∧ y ≤ y1) (ha : admB x0 y0 x1 y1 = true) (hg : 1 ≤ g ∧ g ≤ 32) (he : beaE e = true) (hP : PlauD W Hh xs x y h g e) : refB W Hh ks x0 y0 x1 y1 h e.1 e.2 g = false := by
  have hbe := beaB_iff.1 he
  unfold refB
  cases hr : (e.2 == -1) with
  | true =>
    have hr1 : e.2 = -1 := by simpa using hr
    exact hid_f hk hx hy (hP.2 hr1)
  | false =>
    have hr1 : ¬ e.2 = -1 := by simpa using hr
    obtain ⟨h1, c, hc1, hc2, hc3⟩ := hP.1 hr1
    rw [cond_false, Bool.or_eq_false_iff]
    refine ⟨hid_f hk hx hy h1, ?_⟩
    rw [← Bool.not_eq_true]
    intro hb
    unfold empB at hb
    rw [List.all_eq_true] at hb
    have had := admB_iff.1 ha
    have hl0 : 0 ≤ low0 e.2 g ∧ low0 e.2 g ≤ e.2 + g ∧ e.2 + g ≤ 2048 := by unfold low0; split <;> omega
    obtain ⟨_, h2, n, m', k1, k2, k3, k4, k5⟩ := sme_ray.1 hc3
    have hv := (thG_iff.1 h2).2.1
    have hE := (sptE_0 (x0 := x0) (y0 := y0) (x1 := x1) (y1 := y1) (rctB_iff.2 (by omega)) hv hl0 (by omega)).2
    have hm : c ∈ sptL x0 y0 x1 y1 (beamV h e.1).1 (beamV h e.1).2.1 (beamV h e.1).2.2 (low0 e.2 g) (e.2 + g) := by
      rw [hE]
      refine (swpL_mem (by omega) (by omega) hv hl0).2 ?_
      unfold swpP mnsB
      simp only [Bool.and_eq_true]
      exact ⟨⟨lnR_iff.2 (by omega), lnR_iff.2 (by omega), lnR_iff.2 (by omega)⟩, sme_ray.2 ⟨by omega, thG_iff.2 ⟨lnP_iff.2 (by omega), hv, lnR_iff.2 (by omega)⟩, mee_box hx hy ⟨n, m', k1, k2, k3, k4, k5⟩⟩⟩
    have q := hb c hm
    unfold frC at q
    have q := bel_free hk (show atI W Hh ks c.1 c.2 = 1 by simpa using q)
    rw [q] at hc2; cases hc2
theorem bad_f {W Hh : Int} {ks xs : List Int} {x0 y0 x1 y1 x y h g : Int} {s : List (Int × Int)} (hk : BelP ks xs) (hx : x0 ≤ x ∧ x ≤ x1) (hy : y0 ≤ y ∧ y ≤ y1) (hg : 1 ≤ g ∧ g ≤ 32) (hs : ∀ e ∈ s, beaE e = true) (hP : ∀ e ∈ s, PlauD W Hh xs x y h g e) : badB W Hh ks x0 y0 x1 y1 h s g = false := by
  unfold badB
  cases ha : admB x0 y0 x1 y1 with
  | false => rfl
  | true =>
    rw [Bool.true_and, List.any_eq_false]
    intro e he
    rw [ref_f hk hx hy ha hg (hs e he) (hP e he)]
    decide
/-- How many at the beginning, and what is left of the end. -/
def ldN (p : Nat → Bool) : Nat → Nat
  | 0 => 0
  | n + 1 => if ldN p n = n ∧ p n = true then n + 1 else ldN p n
def tlN (p : Nat → Bool) : Nat → Nat
  | 0 => 0
  | n + 1 => if p n = true then tlN p n else n + 1
theorem ldN_le (p : Nat → Bool) : ∀ n, ldN p n ≤ n
  | 0 => Nat.le_refl _
  | n + 1 => by have := ldN_le p n; unfold ldN; split <;> omega
theorem ldN_all (p : Nat → Bool) : ∀ n k, k < ldN p n → p k = true
  | 0, k, h => by unfold ldN at h; omega
  | n + 1, k, h => by
    unfold ldN at h
    split at h
    · rename_i q
      rcases Nat.lt_or_ge k n with hk | hk
      · exact ldN_all p n k (by omega)
      · obtain rfl : k = n := by omega
        exact q.2
    · exact ldN_all p n k h
theorem ldN_eq {p : Nat → Bool} {i : Nat} : ∀ {n : Nat}, (∀ k, k < i → p k = true) → i ≤ n → (i = n ∨ p i = false) → ldN p n = i
  | 0, _, h, _ => by unfold ldN; omega
  | n + 1, h1, h2, h3 => by
    unfold ldN
    rcases Nat.lt_or_ge i (n + 1) with h | h
    · have hp : p i = false := h3.resolve_left (by omega)
      have e := ldN_eq (n := n) h1 (by omega) (.inr hp)
      rw [e, if_neg]
      rintro ⟨rfl, q⟩
      rw [hp] at q; cases q
    · obtain rfl : i = n + 1 := by omega
      have e := ldN_eq (p := p) (i := n) (n := n) (fun k hk => h1 k (by omega)) (Nat.le_refl _) (.inl rfl)
      rw [e, if_pos ⟨rfl, h1 n (by omega)⟩]
theorem ldN_n {p : Nat → Bool} {n k : Nat} (hk : k < n) (hp : p k = false) : ldN p n ≤ k := by
  rcases Nat.lt_or_ge k (ldN p n) with h | h
  · have := ldN_all p n k h; rw [hp] at this; cases this
  · exact h
theorem ldN_at {p : Nat → Bool} : ∀ {n : Nat}, ldN p n < n → p (ldN p n) = false
  | n + 1, h => by
    unfold ldN at h ⊢
    split at h
    · omega
    · rename_i hn
      rw [if_neg hn]
      rcases Nat.lt_or_ge (ldN p n) n with q | q
      · exact ldN_at q
      · have e : ldN p n = n := by have := ldN_le p n; omega
        rw [e] at hn ⊢
        rw [← Bool.not_eq_true]
        exact fun k => hn ⟨rfl, k⟩
theorem tlN_le (p : Nat → Bool) : ∀ n, tlN p n ≤ n
  | 0 => Nat.le_refl _
  | n + 1 => by have := tlN_le p n; unfold tlN; split <;> omega
theorem tlN_lt {p : Nat → Bool} {k : Nat} (hp : p k = false) : ∀ {n : Nat}, k < n → k < tlN p n
  | n + 1, h => by
    unfold tlN
    split
    · rename_i q
      refine tlN_lt hp ?_
      rcases Nat.lt_or_ge k n with h' | h'
      · exact h'
      · obtain rfl : k = n := by omega
        rw [hp] at q; cases q
    · exact h
theorem tlN_eq {p : Nat → Bool} {j : Nat} (hj : 0 < j ∧ p (j - 1) = false) : ∀ {n : Nat}, j ≤ n → (∀ k, j ≤ k → k < n → p k = true) → tlN p n = j
  | 0, h, _ => by omega
  | n + 1, h, h1 => by
    unfold tlN
    rcases Nat.lt_or_ge n j with q | q
    · obtain rfl : j = n + 1 := by omega
      rw [if_neg (by rw [show p n = false from hj.2]; decide)]
    · rw [if_pos (h1 n q (by omega))]
      exact tlN_eq hj q (fun k a b => h1 k a (by omega))
/-- A box is trimmed. -/
def tX0 (b : T6) : Int := if b.1 < 0 then 0 else b.1
def tY0 (b : T6) : Int := if b.2.1 < 0 then 0 else b.2.1
def tX1 (W : Int) (b : T6) : Int := if 64 * W < b.2.2.1 then 64 * W else b.2.2.1
def tY1 (Hh : Int) (b : T6) : Int := if 64 * Hh < b.2.2.2.1 then 64 * Hh else b.2.2.2.1
def tP (W Hh : Int) (xs : List Int) (b : T6) (s : List (Int × Int)) (g : Int) (k : Nat) : Bool := badB W Hh xs (tX0 b) (tY0 b) (tX1 W b) (tY1 Hh b) (gi (mkB b) k) s g
def tI (W Hh : Int) (xs : List Int) (b : T6) (s : List (Int × Int)) (g : Int) : Nat := ldN (tP W Hh xs b s g) (mkB b).length
def tJ (W Hh : Int) (xs : List Int) (b : T6) (s : List (Int × Int)) (g : Int) : Nat := tlN (tP W Hh xs b s g) (mkB b).length
def tOk (W Hh : Int) (xs : List Int) (b : T6) (s : List (Int × Int)) (g : Int) : Bool := !decide (tX1 W b < tX0 b) && (!decide (tY1 Hh b < tY0 b) && decide (tI W Hh xs b s g < (mkB b).length))
def tB (W Hh : Int) (xs : List Int) (b : T6) (s : List (Int × Int)) (g : Int) : T6 := (tX0 b, tY0 b, tX1 W b, tY1 Hh b, gi (mkB b) (tI W Hh xs b s g), (((tJ W Hh xs b s g - tI W Hh xs b s g : Nat)) : Int))
/-- A pose is in a box. -/
def InP (b : T6) (x y h : Int) : Prop := (b.1 ≤ x ∧ x ≤ b.2.2.1) ∧ (b.2.1 ≤ y ∧ y ≤ b.2.2.2.1) ∧ inArc b.2.2.2.2.1 b.2.2.2.2.2 h
theorem mkB_n {b : T6} : (mkB b).length = b.2.2.2.2.2.toNat := mrkL_len _ _
theorem inP_idx {b : T6} {x y h : Int} (hb : boxB b = true) (hh : 0 ≤ h ∧ h ≤ 255) (k : InP b x y h) : ∃ j : Nat, j < (mkB b).length ∧ h = gi (mkB b) j := by
  have ha := arcB_iff.1 (bxB_iff.1 hb).2.2
  obtain ⟨-, -, hi⟩ := k
  unfold inArc at hi
  refine ⟨((h - b.2.2.2.2.1) % 256).toNat, by rw [mkB_n]; omega, ?_⟩
  rw [gi_mkB (by rw [mkB_n]; omega)]
  omega
theorem cov_in {l : List T6} {x y h : Int} (hh : 0 ≤ h ∧ h ≤ 255) (k : covB l x y h = true) : ∃ b ∈ l, InP b x y h := by
  obtain ⟨b, hb, h1, h2, h3, -⟩ := covB_iff hh k
  exact ⟨b, hb, h1, h2, h3⟩
theorem in_cov {l : List T6} {x y h : Int} (hh : 0 ≤ h ∧ h ≤ 255) (hS : ∀ b ∈ l, boxB b = true) (k : ∃ b ∈ l, InP b x y h) : covB l x y h = true ∧ CovP l x y h := by
  obtain ⟨b, hb, h1, h2, h3⟩ := k
  have hv := hS b hb
  have hbx := (bxB_iff.1 hv).2.2
  have ha := arcB_iff.1 hbx
  constructor
  · unfold covB
    rw [List.any_eq_true]
    refine ⟨b, hb, ?_⟩
    unfold hbB hsgB
    unfold inArc at h3
    rw [show bxB b.1 b.2.1 b.2.2.1 b.2.2.2.1 b.2.2.2.2.1 b.2.2.2.2.2 = true from hv, hbx, wrap_in (by omega) (by omega)]
    simp only [Bool.true_and, Bool.and_eq_true, decide_eq_true_eq]
    omega
  · obtain ⟨j, hj, e⟩ := inP_idx hv hh ⟨h1, h2, h3⟩
    exact ⟨b, hb, h1, h2, j, hj, e⟩
/-- A box that is trimmed is valid. -/
theorem tB_ok {W Hh : Int} {xs : List Int} {b : T6} {s : List (Int × Int)} {g : Int} (hW : 1 ≤ W ∧ W ≤ 64) (hH : 1 ≤ Hh ∧ Hh ≤ 64) (hb : boxB b = true) (h : tOk W Hh xs b s g = true) : boxB (tB W Hh xs b s g) = true ∧ tI W Hh xs b s g < tJ W Hh xs b s g ∧ tJ W Hh xs b s g ≤ (mkB b).length := by
  unfold tOk at h
  simp only [Bool.and_eq_true, Bool.not_eq_true', decide_eq_false_iff_not, decide_eq_true_eq] at h
  obtain ⟨h1, h2, h3⟩ := h
  have hb6 := bxB_iff.1 hb
  have ha := arcB_iff.1 hb6.2.2
  have hf : tP W Hh xs b s g (tI W Hh xs b s g) = false := ldN_at h3
  have h4 : tI W Hh xs b s g < tJ W Hh xs b s g := tlN_lt hf h3
  have h5 : tJ W Hh xs b s g ≤ (mkB b).length := tlN_le _ _
  refine ⟨?_, h4, h5⟩
  have hgi := gi_mkB (b := b) h3
  rw [mkB_n] at h3 h5
  unfold boxB tB
  simp only
  refine bxB_iff.2 ⟨?_, ?_, arcB_iff.2 ?_⟩
  · have q1 : (tX0 b = 0 ∧ b.1 < 0) ∨ (tX0 b = b.1 ∧ 0 ≤ b.1) := by unfold tX0; split <;> omega
    have q2 : (tX1 W b = 64 * W ∧ 64 * W < b.2.2.1) ∨ (tX1 W b = b.2.2.1 ∧ b.2.2.1 ≤ 64 * W) := by unfold tX1; split <;> omega
    omega
  · have q1 : (tY0 b = 0 ∧ b.2.1 < 0) ∨ (tY0 b = b.2.1 ∧ 0 ≤ b.2.1) := by unfold tY0; split <;> omega
    have q2 : (tY1 Hh b = 64 * Hh ∧ 64 * Hh < b.2.2.2.1) ∨ (tY1 Hh b = b.2.2.2.1 ∧ b.2.2.2.1 ≤ 64 * Hh) := by unfold tY1; split <;> omega
    omega
  · rw [hgi]; omega
/-- Trimming keeps the true pose. -/
theorem trim_keep {W Hh : Int} {ks xs : List Int} {b : T6} {s : List (Int × Int)} {x y h g : Int} (hk : BelP ks xs) (hx : 0 ≤ x ∧ x ≤ 64 * W) (hy : 0 ≤ y ∧ y ≤ 64 * Hh) (hh : 0 ≤ h ∧ h ≤ 255) (hb : boxB b = true) (hg : 1 ≤ g ∧ g ≤ 32) (hs : ∀ e ∈ s, beaE e = true) (hP : ∀ e ∈ s, PlauD W Hh xs x y h g e) (hi : InP b x y h) : tOk W Hh ks b s g = true ∧ InP (tB W Hh ks b s g) x y h := by
  obtain ⟨j, hj, e⟩ := inP_idx hb hh hi
  obtain ⟨h1, h2, h3⟩ := hi
  have x0 : tX0 b ≤ x ∧ x ≤ tX1 W b := by unfold tX0 tX1; split <;> split <;> omega
  have y0 : tY0 b ≤ y ∧ y ≤ tY1 Hh b := by unfold tY0 tY1; split <;> split <;> omega
  have hp : tP W Hh ks b s g j = false := by
    unfold tP
    rw [← e]
    exact bad_f hk x0 y0 hg hs hP
  have hI : tI W Hh ks b s g ≤ j := ldN_n hj hp
  have hJ : j < tJ W Hh ks b s g := tlN_lt hp hj
  have hJ2 : tJ W Hh ks b s g ≤ (mkB b).length := tlN_le _ _
  constructor
  · unfold tOk
    rw [decide_eq_false (show ¬ tX1 W b < tX0 b by omega), decide_eq_false (show ¬ tY1 Hh b < tY0 b by omega), decide_eq_true (show tI W Hh ks b s g < (mkB b).length by omega)]
    rfl
  · refine ⟨x0, y0, ?_⟩
    have ha := arcB_iff.1 (bxB_iff.1 hb).2.2
    have g1 := gi_mkB hj
    have g2 := gi_mkB (b := b) (j := tI W Hh ks b s g) (by omega)
    rw [mkB_n] at hj hJ2
    unfold inArc tB
    simp only
    rw [e, g1, g2]
    omega
/-- A box in two halves. -/
def splS (n u : Int) : Int := if n = 1 then 0 else n * u
def splA (b : T6) : Int := splS (b.2.2.1 - b.1 + 1) 1
def splB (b : T6) : Int := splS (b.2.2.2.1 - b.2.1 + 1) 1
def splC (b : T6) : Int := splS b.2.2.2.2.2 8
def volI (b : T6) : Int := if boxB b = true then (b.2.2.1 - b.1 + 1) * (b.2.2.2.1 - b.2.1 + 1) * b.2.2.2.2.2 else 0
def spl2 (b : T6) : Bool := !decide (volI b < 2)
def splX (b : T6) : T6 := if splB b ≤ splA b ∧ splC b ≤ splA b then (b.1, b.2.1, b.1 + (b.2.2.1 - b.1 + 1) / 2 - 1, b.2.2.2.1, b.2.2.2.2.1, b.2.2.2.2.2)
  else if splC b ≤ splB b then (b.1, b.2.1, b.2.2.1, b.2.1 + (b.2.2.2.1 - b.2.1 + 1) / 2 - 1, b.2.2.2.2.1, b.2.2.2.2.2)
  else (b.1, b.2.1, b.2.2.1, b.2.2.2.1, b.2.2.2.2.1, b.2.2.2.2.2 / 2)
def splY (b : T6) : T6 := if splB b ≤ splA b ∧ splC b ≤ splA b then (b.1 + (b.2.2.1 - b.1 + 1) / 2, b.2.1, b.2.2.1, b.2.2.2.1, b.2.2.2.2.1, b.2.2.2.2.2)
  else if splC b ≤ splB b then (b.1, b.2.1 + (b.2.2.2.1 - b.2.1 + 1) / 2, b.2.2.1, b.2.2.2.1, b.2.2.2.2.1, b.2.2.2.2.2)
  else (b.1, b.2.1, b.2.2.1, b.2.2.2.1, (b.2.2.2.2.1 + b.2.2.2.2.2 / 2) % 256, b.2.2.2.2.2 - b.2.2.2.2.2 / 2)
theorem splS_1 {n : Int} (h : 1 ≤ n) : (splS n 1 = 0 ∧ n = 1) ∨ (splS n 1 = n ∧ 2 ≤ n) := by unfold splS; split <;> omega
theorem splS_8 {n : Int} (h : 1 ≤ n) : (splS n 8 = 0 ∧ n = 1) ∨ (splS n 8 = 8 * n ∧ 2 ≤ n) := by unfold splS; split <;> omega
theorem spl_ok {b : T6} (hb : boxB b = true) (h : spl2 b = true) : boxB (splX b) = true ∧ boxB (splY b) = true ∧ ∀ x y h : Int, InP b x y h → InP (splX b) x y h ∨ InP (splY b) x y h := by
  have hb6 := bxB_iff.1 hb
  have ha := arcB_iff.1 hb6.2.2
  have hA : (splA b = 0 ∧ b.2.2.1 - b.1 + 1 = 1) ∨ (splA b = b.2.2.1 - b.1 + 1 ∧ 2 ≤ b.2.2.1 - b.1 + 1) := splS_1 (by omega)
  have hB : (splB b = 0 ∧ b.2.2.2.1 - b.2.1 + 1 = 1) ∨ (splB b = b.2.2.2.1 - b.2.1 + 1 ∧ 2 ≤ b.2.2.2.1 - b.2.1 + 1) := splS_1 (by omega)
  have hC : (splC b = 0 ∧ b.2.2.2.2.2 = 1) ∨ (splC b = 8 * b.2.2.2.2.2 ∧ 2 ≤ b.2.2.2.2.2) := splS_8 (by omega)
  have hn : ¬ (b.2.2.1 - b.1 + 1 = 1 ∧ b.2.2.2.1 - b.2.1 + 1 = 1 ∧ b.2.2.2.2.2 = 1) := fun ⟨q1, q2, q3⟩ => by
    unfold spl2 volI at h
    rw [if_pos hb, q1, q2, q3] at h
    revert h; decide
  unfold splX splY
  split
  · rename_i hc
    refine ⟨?_, ?_, fun x y h ⟨k1, k2, k3⟩ => ?_⟩
    · exact bxB_iff.2 ⟨by simp only; omega, hb6.2.1, hb6.2.2⟩
    · exact bxB_iff.2 ⟨by simp only; omega, hb6.2.1, hb6.2.2⟩
    · rcases Int.lt_or_le x (b.1 + (b.2.2.1 - b.1 + 1) / 2) with q | q
      · exact .inl ⟨by simp only; omega, k2, k3⟩
      · exact .inr ⟨by simp only; omega, k2, k3⟩
  · split
    · rename_i hc0 hc
      refine ⟨?_, ?_, fun x y h ⟨k1, k2, k3⟩ => ?_⟩
      · exact bxB_iff.2 ⟨hb6.1, by simp only; omega, hb6.2.2⟩
      · exact bxB_iff.2 ⟨hb6.1, by simp only; omega, hb6.2.2⟩
      · rcases Int.lt_or_le y (b.2.1 + (b.2.2.2.1 - b.2.1 + 1) / 2) with q | q
        · exact .inl ⟨k1, by simp only; omega, k3⟩
        · exact .inr ⟨k1, by simp only; omega, k3⟩
    · rename_i hc0 hc
      refine ⟨?_, ?_, fun x y h ⟨k1, k2, k3⟩ => ?_⟩
      · exact bxB_iff.2 ⟨hb6.1, hb6.2.1, arcB_iff.2 (by simp only; omega)⟩
      · exact bxB_iff.2 ⟨hb6.1, hb6.2.1, arcB_iff.2 (by simp only; omega)⟩
      · unfold inArc at k3
        rcases Int.lt_or_le ((h - b.2.2.2.2.1) % 256) (b.2.2.2.2.2 / 2) with q | q
        · exact .inl ⟨k1, k2, by unfold inArc; simp only; omega⟩
        · exact .inr ⟨k1, k2, by unfold inArc; simp only; omega⟩
/-- The queue is worked off. -/
def rfn (W Hh : Int) (xs : List Int) (s : List (Int × Int)) (g : Int) : Nat → List T6 → Nat → List T6 → List T6
  | 0, _, _, O => O
  | _ + 1, [], _, O => O
  | n + 1, b :: Q, k, O => if tOk W Hh xs b s g = true then (if 0 < k ∧ spl2 (tB W Hh xs b s g) = true then rfn W Hh xs s g n (Q ++ [splX (tB W Hh xs b s g), splY (tB W Hh xs b s g)]) (k - 1) O else rfn W Hh xs s g n Q k (O ++ [tB W Hh xs b s g])) else rfn W Hh xs s g n Q k O
def rfnL (W Hh : Int) (xs : List Int) (l : List T6) (s : List (Int × Int)) (g : Int) (k : Nat) : List T6 := rfn W Hh xs s g (l.length + 2 * k) l k []
theorem rfn_ok {W Hh : Int} {xs : List Int} {s : List (Int × Int)} {g : Int} (hW : 1 ≤ W ∧ W ≤ 64) (hH : 1 ≤ Hh ∧ Hh ≤ 64) : ∀ (n : Nat) (Q : List T6) (k : Nat) (O : List T6), n = Q.length + 2 * k → (∀ b ∈ Q, boxB b = true) → (∀ b ∈ O, boxB b = true) → (∀ b ∈ rfn W Hh xs s g n Q k O, boxB b = true) ∧ (rfn W Hh xs s g n Q k O).length ≤ Q.length + k + O.length
  | 0, Q, k, O, hn, hQ, hO => ⟨hO, by unfold rfn; omega⟩
  | n + 1, [], k, O, hn, hQ, hO => ⟨hO, by unfold rfn; omega⟩
  | n + 1, b :: Q, k, O, hn, hQ, hO => by
    have hb := hQ b (List.mem_cons_self ..)
    have hQ' : ∀ b ∈ Q, boxB b = true := fun c hc => hQ c (List.mem_cons_of_mem _ hc)
    rw [List.length_cons] at hn ⊢
    unfold rfn
    split
    · rename_i ht
      have hb' := (tB_ok hW hH hb ht).1
      split
      · rename_i h2
        have hs := spl_ok hb' h2.2
        have ih := rfn_ok hW hH (xs := xs) (s := s) (g := g) n (Q ++ [splX (tB W Hh xs b s g), splY (tB W Hh xs b s g)]) (k - 1) O (by rw [List.length_append]; simp only [List.length_cons, List.length_nil]; omega) (fun c hc => by
          rcases List.mem_append.1 hc with hc | hc
          · exact hQ' c hc
          · rcases List.mem_cons.1 hc with hc | hc
            · rw [hc]; exact hs.1
            · rw [List.mem_singleton.1 hc]; exact hs.2.1) hO
        refine ⟨ih.1, ?_⟩
        have := ih.2
        rw [List.length_append] at this
        simp only [List.length_cons, List.length_nil] at this
        omega
      · have hO' : ∀ c ∈ O ++ [tB W Hh xs b s g], boxB c = true := fun c hc => by
          rcases List.mem_append.1 hc with hc | hc
          · exact hO c hc
          · rw [List.mem_singleton.1 hc]; exact hb'
        rcases Nat.eq_zero_or_pos n with hn0 | hn0
        · subst hn0
          refine ⟨hO', ?_⟩
          unfold rfn
          rw [List.length_append]; simp only [List.length_cons, List.length_nil]; omega
        · have ih := rfn_ok hW hH (xs := xs) (s := s) (g := g) n Q k (O ++ [tB W Hh xs b s g]) (by omega) hQ' hO'
          refine ⟨ih.1, ?_⟩
          have := ih.2
          rw [List.length_append] at this
          simp only [List.length_cons, List.length_nil] at this
          omega
    · have ih := rfn_ok hW hH (xs := xs) (s := s) (g := g) n Q k O (by omega) hQ' hO
      exact ⟨ih.1, by have := ih.2; omega⟩
/-- Refining keeps the true pose. -/
theorem rfn_keep {W Hh : Int} {ks xs : List Int} {s : List (Int × Int)} {x y h g : Int} (hW : 1 ≤ W ∧ W ≤ 64) (hH : 1 ≤ Hh ∧ Hh ≤ 64) (hk : BelP ks xs) (hx : 0 ≤ x ∧ x ≤ 64 * W) (hy : 0 ≤ y ∧ y ≤ 64 * Hh) (hh : 0 ≤ h ∧ h ≤ 255) (hg : 1 ≤ g ∧ g ≤ 32) (hs : ∀ e ∈ s, beaE e = true) (hP : ∀ e ∈ s, PlauD W Hh xs x y h g e) : ∀ (n : Nat) (Q : List T6) (k : Nat) (O : List T6), n = Q.length + 2 * k → (∀ b ∈ Q, boxB b = true) → ((∃ b ∈ Q, InP b x y h) ∨ ∃ b ∈ O, InP b x y h) → ∃ b ∈ rfn W Hh ks s g n Q k O, InP b x y h
  | 0, Q, k, O, hn, hQ, hI => by
    have : Q = [] := List.eq_nil_of_length_eq_zero (by omega)
    subst this
    exact hI.resolve_left (by simp)
  | n + 1, [], k, O, hn, hQ, hI => hI.resolve_left (by simp)
  | n + 1, b :: Q, k, O, hn, hQ, hI => by
    have hb := hQ b (List.mem_cons_self ..)
    have hQ' : ∀ b ∈ Q, boxB b = true := fun c hc => hQ c (List.mem_cons_of_mem _ hc)
    rw [List.length_cons] at hn
    have keep := fun hi => trim_keep hk hx hy hh hb hg hs hP hi
    unfold rfn
    split
    · rename_i ht
      have hb' := (tB_ok hW hH hb ht).1
      split
      · rename_i h2
        have hs2 := spl_ok hb' h2.2
        refine rfn_keep hW hH hk hx hy hh hg hs hP n (Q ++ [splX (tB W Hh ks b s g), splY (tB W Hh ks b s g)]) (k - 1) O (by rw [List.length_append]; simp only [List.length_cons, List.length_nil]; omega) (fun c hc => by
          rcases List.mem_append.1 hc with hc | hc
          · exact hQ' c hc
          · rcases List.mem_cons.1 hc with hc | hc
            · rw [hc]; exact hs2.1
            · rw [List.mem_singleton.1 hc]; exact hs2.2.1) ?_
        rcases hI with ⟨c, hc, hi⟩ | hI
        · rcases List.mem_cons.1 hc with hc | hc
          · rw [hc] at hi
            rcases hs2.2.2 x y h (keep hi).2 with q | q
            · exact .inl ⟨_, List.mem_append_right _ (List.mem_cons_self ..), q⟩
            · exact .inl ⟨_, List.mem_append_right _ (List.mem_cons_of_mem _ (List.mem_singleton.2 rfl)), q⟩
          · exact .inl ⟨c, List.mem_append_left _ hc, hi⟩
        · exact .inr hI
      · have hI' : (∃ b ∈ Q, InP b x y h) ∨ ∃ c ∈ O ++ [tB W Hh ks b s g], InP c x y h := by
          rcases hI with ⟨c, hc, hi⟩ | ⟨c, hc, hi⟩
          · rcases List.mem_cons.1 hc with hc | hc
            · rw [hc] at hi
              exact .inr ⟨_, List.mem_append_right _ (List.mem_singleton.2 rfl), (keep hi).2⟩
            · exact .inl ⟨c, hc, hi⟩
          · exact .inr ⟨c, List.mem_append_left _ hc, hi⟩
        exact rfn_keep hW hH hk hx hy hh hg hs hP n Q k _ (by omega) hQ' hI'
    · rename_i ht
      refine rfn_keep hW hH hk hx hy hh hg hs hP n Q k O (by omega) hQ' ?_
      rcases hI with ⟨c, hc, hi⟩ | hI
      · rcases List.mem_cons.1 hc with hc | hc
        · rw [hc] at hi
          exact absurd (keep hi).1 ht
        · exact .inl ⟨c, hc, hi⟩
      · exact .inr hI
/-- What is learned holds, with readings that are plausible. -/
theorem learn_trueD {W Hh : Int} {ks xs : List Int} {l : List T6} {sc : List (Int × Int)} {g x y h : Int} (hR : rgtA W Hh ks l sc g = true) (hk : BelP ks xs) (hV : vldB W Hh xs = true) (hB : ∀ i, i < xs.length → 1 ≤ gi xs i ∧ gi xs i ≤ 2) (hc : CovP l x y h) (hP : ∀ e ∈ sc, PlauD W Hh xs x y h g e) : ∃ o, lnO W Hh ks l sc g = some o ∧ BelP o xs := by
  obtain ⟨hVk, hl0, hS, hsB, hg⟩ := rgtA_iff.1 hR
  have hv := vld_iff.1 hV
  obtain ⟨b, hb, hx, hy, j, hj, rfl⟩ := hc
  unfold lnO
  by_cases ht : tauB l = true
  · rw [if_pos ht]
    obtain ⟨q, hq, hqB⟩ := lrnF_true (t := xs) (W := W) (H := Hh) hv.len (l := allL W Hh l sc g) (o := ks) (fun c hc => by
      obtain ⟨-, hin, e, he, hp⟩ := (mem_all hR).1 hc
      refine ⟨hin, ?_⟩
      have hlt := cidx_lt hv.len hin
      have hne : ¬ atI W Hh xs c.1 c.2 = 2 := fun hw => by
        have k2 := psC_pt hS hb hx hy hj hp
        have k1 : sqBf x y (beamV (gi (mkB b) j) e.1) (farF e.2 g) c = false := by
          by_cases hr : e.2 = -1
          · have e1 : farF e.2 g = 1024 - g := if_pos hr
            rw [e1] at k2 ⊢
            rw [← Bool.not_eq_true]
            intro hbf
            have q := (hP e he).2 hr c hw
            have p := sbf_BefP hbf
            obtain ⟨n, m, a1, a2, a3, a4⟩ := p.2.2
            have : sqMe x y (beamV (gi (mkB b) j) e.1) 0 (1024 - g) c = true := MeeP_sme p.1 p.2.1 ⟨n, m, a1, a2, Int.le_of_lt a3, a4⟩
            rw [this] at q; cases q
          · have e1 : farF e.2 g = e.2 - g := if_neg hr
            rw [e1]
            exact ((hP e he).1 hr).1 c hw
        rw [k2] at k1; cases k1
      have hb12 := hB _ hlt
      rw [at_in hin] at hne ⊢
      omega) hk
    rw [hq]
    obtain ⟨q2, hq2, hqB2⟩ := lrnW_true (t := xs) (W := W) (H := Hh) hv.len (l := echL l sc g) (o := q) (fun s hs => by
      obtain ⟨e, he, rfl⟩ := List.mem_map.1 hs
      obtain ⟨he1, he2⟩ := List.mem_filter.1 he
      have hr1 : ¬ e.2 = -1 := by simpa using he2
      have hbe := beaB_iff.1 ((scnB_iff.1 hsB).2 e he1)
      obtain ⟨-, c, hcW, hc2, hcm⟩ := (hP e he1).1 hr1
      exact ⟨c, sus_pt hS ht (by omega) hg hb hx hy hj hcW hcm, hc2⟩) hqB
    exact ⟨q2, hq2, hqB2⟩
  · rw [if_neg ht]
    exact ⟨ks, rfl, hk⟩
open Go.RowKit
theorem lwD_pos {n d : Int} (hd : 0 < d) : 0 < lwD n d := by
  have hg := gcd_pos (n := n) hd
  unfold lwD
  obtain ⟨b, hb⟩ : (Int.gcd n d : Int) ∣ d := Int.gcd_dvd_right ..
  generalize (Int.gcd n d : Int) = g at *
  subst hb
  rw [Int.mul_ediv_cancel_left _ (by omega)]
  rcases Int.lt_or_le 0 b with h | h
  · exact h
  · have := Int.mul_nonpos_of_nonneg_of_nonpos (show 0 ≤ g by omega) h; omega
/-- Where the program's ray enters a cell's square. -/
def peS (px py vx vy : Int) (c : Int × Int) : Fr2 × Fr2 := thS px py vx vy (c.1 * 64) (c.2 * 64) (c.1 * 64 + 64) (c.2 * 64 + 64)
def peN (px py vx vy vd : Int) (c : Int × Int) : Int := lwN ((peS px py vx vy c).1.1 * vd) (peS px py vx vy c).1.2
def peD (px py vx vy vd : Int) (c : Int × Int) : Int := lwD ((peS px py vx vy c).1.1 * vd) (peS px py vx vy c).1.2
def peC (px py vx vy vd : Int) (c : Int × Int) : Int × Int := (peN px py vx vy vd c, peD px py vx vy vd c)
def onC (px py vx vy vd : Int) (c : Int × Int) : Bool := thO px py vx vy vd (c.1 * 64) (c.2 * 64) (c.1 * 64 + 64) (c.2 * 64 + 64)
def wlB (W Hh : Int) (xs : List Int) (c : Int × Int) : Bool := atI W Hh xs c.1 c.2 == 2
theorem peS_pos {px py vx vy : Int} {c : Int × Int} : 0 < (peS px py vx vy c).1.2 := thS_ok.1
theorem peD_pos {px py vx vy vd : Int} (c : Int × Int) : 0 < (peC px py vx vy vd c).2 := lwD_pos peS_pos
theorem on_nn {px py vx vy vd : Int} {c : Int × Int} (h : onC px py vx vy vd c = true) : 0 ≤ (peS px py vx vy c).1.1 ∧ RayP px py vx vy (c.1 * 64) (c.2 * 64) (c.1 * 64 + 64) (c.2 * 64 + 64) (peS px py vx vy c).1.1 (peS px py vx vy c).1.2 := by
  obtain ⟨hg, hb⟩ := thO_t h
  have k := (th_in thS_ok.1 hb).1 (th_lo (thG_vec hg).2 hb)
  exact ⟨k.1.1, k.2⟩
theorem pe_bd {px py vx vy vd : Int} {c : Int × Int} (h : onC px py vx vy vd c = true) : 0 ≤ peN px py vx vy vd c ∧ 0 < peD px py vx vy vd c ∧ peD px py vx vy vd c ≤ 67108864 ∧ (0 ≤ (peS px py vx vy c).1.1 ∧ (peS px py vx vy c).1.1 ≤ 8388608) ∧ 0 < (peS px py vx vy c).1.2 ∧ (peS px py vx vy c).1.2 ≤ 67108864 := by
  obtain ⟨hg, hb⟩ := thO_t h
  have n0 := (on_nn h).1
  have hv := vecB_iff.1 (thG_iff.1 hg).2.1
  obtain ⟨⟨b1, b2⟩, b3, b4⟩ := (thS_bd hg).2.1
  have hp : 0 < (peS px py vx vy c).1.2 := peS_pos
  have n1 : (peS px py vx vy c).1.1 ≤ 8388608 := b2
  have n2 : (peS px py vx vy c).1.2 ≤ 67108864 := b4
  have m1 := mul_bd (a := (peS px py vx vy c).1.1) (b := vd) (A := 8388608) (B := 67108864) (by omega) (by omega)
  have m2 := Int.mul_nonneg n0 (show 0 ≤ vd by omega)
  have k := lw_bd (n := (peS px py vx vy c).1.1 * vd) (d := (peS px py vx vy c).1.2) (B := 562949953421312) (by omega) hp
  exact ⟨k.1.1, k.2.1, Int.le_trans k.2.2 n2, ⟨n0, n1⟩, hp, n2⟩
theorem me_on {x y hi : Int} {v : Int × Int × Int} {c : Int × Int} (h : sqMe x y v 0 hi c = true) : onC x y v.1 v.2.1 v.2.2 c = true ∧ peN x y v.1 v.2.1 v.2.2 c ≤ hi * peD x y v.1 v.2.1 v.2.2 c := by
  unfold sqMe smeB meeB at h
  simp only [Bool.and_eq_true, decide_eq_true_eq] at h
  obtain ⟨-, -, -, hg, hb, -, hl⟩ := h
  refine ⟨?_, (lw_le peS_pos).1.2 hl⟩
  unfold onC thO; rw [hg, hb]; rfl
theorem on_me {x y lo hi : Int} {v : Int × Int × Int} {c : Int × Int} (h : onC x y v.1 v.2.1 v.2.2 c = true) (h0 : 0 ≤ lo ∧ lo ≤ hi ∧ hi ≤ 65536) (h1 : lo * peD x y v.1 v.2.1 v.2.2 c ≤ peN x y v.1 v.2.1 v.2.2 c) (h2 : peN x y v.1 v.2.1 v.2.2 c ≤ hi * peD x y v.1 v.2.1 v.2.2 c) : sqMe x y v lo hi c = true := by
  have k := on_nn h
  exact sme_ray.2 ⟨h0, (thO_t h).1, _, _, k.1, peS_pos, (lw_le peS_pos).2.1 h1, (lw_le peS_pos).1.1 h2, k.2⟩
theorem bf_on {x y far : Int} {v : Int × Int × Int} {c : Int × Int} (h : sqBf x y v far c = true) : onC x y v.1 v.2.1 v.2.2 c = true ∧ peN x y v.1 v.2.1 v.2.2 c < far * peD x y v.1 v.2.1 v.2.2 c ∧ 0 ≤ far := by
  unfold sqBf sbfB bfrB at h
  simp only [Bool.and_eq_true, decide_eq_true_eq] at h
  obtain ⟨h0, -, hg, hb, hl⟩ := h
  refine ⟨?_, (lw_lt peS_pos).2 hl, h0⟩
  unfold onC thO; rw [hg, hb]; rfl
/-- What a ray meets up to hi is not further than hi. -/
theorem ray_near {px py vx vy vd hi x0 y0 x1 y1 n m : Int} (hn : 0 ≤ n) (hm : 0 < m) (h : n * vd ≤ hi * m) (hx : -vd ≤ vx ∧ vx ≤ vd) (hy : -vd ≤ vy ∧ vy ≤ vd) (hr : RayP px py vx vy x0 y0 x1 y1 n m) : (x0 ≤ px + hi ∧ px - hi ≤ x1) ∧ y0 ≤ py + hi ∧ py - hi ≤ y1 := by
  have one : ∀ {p v a b : Int}, -vd ≤ v ∧ v ≤ vd → m * a ≤ m * p + n * v → m * p + n * v ≤ m * b → a ≤ p + hi ∧ p - hi ≤ b := fun {p v a b} hv k1 k2 => by
    have a1 := Int.mul_le_mul_of_nonneg_left hv.2 hn
    have a2 := Int.mul_le_mul_of_nonneg_left hv.1 hn
    have e0 : n * -vd = -(n * vd) := Int.mul_neg _ _
    have e1 : m * (p + hi) = m * p + hi * m := by grind
    have e2 : m * (p - hi) = m * p - hi * m := by grind
    exact ⟨Int.le_of_mul_le_mul_left (by omega) hm, Int.le_of_mul_le_mul_left (by omega) hm⟩
  exact ⟨one hx hr.1.1 hr.1.2, one hy hr.2.1 hr.2.2⟩
theorem me_near {x y hi lo : Int} {v : Int × Int × Int} {c : Int × Int} (h : sqMe x y v lo hi c = true) : (c.1 * 64 ≤ x + hi ∧ x - hi ≤ c.1 * 64 + 64) ∧ c.2 * 64 ≤ y + hi ∧ y - hi ≤ c.2 * 64 + 64 := by
  obtain ⟨-, hg, n, m, k1, k2, -, k4, k5⟩ := sme_ray.1 h
  have hv := vecB_iff.1 (thG_iff.1 hg).2.1
  exact ray_near k1 k2 k4 (by omega) (by omega) k5
/-- The cells of the program's ray are those that it meets. -/
theorem trL_iff {x y most : Int} {v : Int × Int × Int} {c : Int × Int} (hx : -1048576 ≤ x ∧ x ≤ 1048576) (hy : -1048576 ≤ y ∧ y ≤ 1048576) (hv : vecB v.1 v.2.1 v.2.2 = true) (hm : 0 ≤ most ∧ most ≤ 2048) : c ∈ trL x y v.1 v.2.1 v.2.2 0 most ↔ sqMe x y v 0 most c = true := by
  rw [(trE_0 (ptB_iff.2 ⟨hx, hy⟩) hv ⟨Int.le_refl _, hm.1, hm.2⟩).2, swpL_mem (by omega) (by omega) hv ⟨Int.le_refl _, hm.1, hm.2⟩]
  constructor
  · intro h
    have hc := swp_bd h
    unfold swpP mnsB at h
    simp only [Bool.and_eq_true, lnR_iff] at h
    obtain ⟨⟨k1, -, k3⟩, k4⟩ := h
    obtain ⟨-, -, n, m, q1, q2, q3, q4, q5⟩ := sme_ray.1 k4
    exact sme_ray.2 ⟨by omega, thG_iff.2 ⟨lnP_iff.2 (by omega), hv, lnR_iff.2 (by omega)⟩, n, m, q1, q2, q3, q4, ray_sh.2 q5⟩
  · intro h
    have hn := me_near h
    obtain ⟨-, -, n, m, q1, q2, q3, q4, q5⟩ := sme_ray.1 h
    unfold swpP mnsB
    simp only [Bool.and_eq_true]
    exact ⟨⟨lnR_iff.2 (by omega), lnR_iff.2 (by omega), lnR_iff.2 (by omega)⟩, sme_ray.2 ⟨by omega, thG_iff.2 ⟨lnP_iff.2 (by omega), hv, lnR_iff.2 (by omega)⟩, n, m, q1, q2, q3, q4, ray_sh.1 q5⟩⟩
/-- The program's first wall. -/
def fpA (W Hh : Int) (xs : List Int) (px py vx vy vd most : Int) (i : Nat) : Option (Int × Int) := fsF (wlB W Hh xs) (peC px py vx vy vd) ((trL px py vx vy vd 0 most).take i)
def fpZ (W Hh : Int) (xs : List Int) (px py vx vy vd most : Int) : Option (Int × Int) := fpA W Hh xs px py vx vy vd most (trL px py vx vy vd 0 most).length
def fpN (px py vx vy vd : Int) (s : Option (Int × Int)) : Int := match s with | none => 0 | some c => peN px py vx vy vd c
def fpD (px py vx vy vd : Int) (s : Option (Int × Int)) : Int := match s with | none => 0 | some c => peD px py vx vy vd c
theorem fpA_0 {W Hh : Int} {xs : List Int} {px py vx vy vd most : Int} : fpA W Hh xs px py vx vy vd most 0 = none := rfl
theorem fpA_s {W Hh : Int} {xs : List Int} {px py vx vy vd most : Int} {i : Nat} (hi : i < (trL px py vx vy vd 0 most).length) : fpA W Hh xs px py vx vy vd most (i + 1) = fsStep (wlB W Hh xs) (peC px py vx vy vd) (fpA W Hh xs px py vx vy vd most i) (g1 (trL px py vx vy vd 0 most) i, g2 (trL px py vx vy vd 0 most) i) := by
  unfold fpA fsF
  rw [List.take_succ_eq_append_getElem hi, List.foldl_append, ← pr_eq hi]; rfl
theorem fpA_mem {W Hh : Int} {xs : List Int} {px py vx vy vd most : Int} {i : Nat} {b : Int × Int} (h : fpA W Hh xs px py vx vy vd most i = some b) : b ∈ trL px py vx vy vd 0 most ∧ atI W Hh xs b.1 b.2 = 2 := by
  obtain ⟨h1, h2, -⟩ := fs_some peD_pos h
  exact ⟨List.mem_of_mem_take h1, by unfold wlB at h2; simpa using h2⟩
theorem fpZ_some {W Hh : Int} {xs : List Int} {px py vx vy vd most : Int} {b : Int × Int} (h : fpZ W Hh xs px py vx vy vd most = some b) : b ∈ trL px py vx vy vd 0 most ∧ atI W Hh xs b.1 b.2 = 2 ∧ ∀ c ∈ trL px py vx vy vd 0 most, atI W Hh xs c.1 c.2 = 2 → peN px py vx vy vd b * peD px py vx vy vd c ≤ peN px py vx vy vd c * peD px py vx vy vd b := by
  have k := fpA_mem h
  obtain ⟨-, -, h3⟩ := fs_some peD_pos h
  rw [List.take_length] at h3
  exact ⟨k.1, k.2, fun c hc hw => h3 c hc (by unfold wlB; rw [hw]; rfl)⟩
theorem fpZ_none {W Hh : Int} {xs : List Int} {px py vx vy vd most : Int} (h : fpZ W Hh xs px py vx vy vd most = none) : ∀ c ∈ trL px py vx vy vd 0 most, ¬ atI W Hh xs c.1 c.2 = 2 := fun c hc hw => by
  have k := (fs_none peD_pos).1 h c (by rw [List.take_length]; exact hc)
  unfold wlB at k
  rw [hw] at k; cases k
section
variable {W Hh : Int} {xs : List Int} {x y h m g z : Int} {c : Int × Int}
theorem me_mono {x y lo hi hi2 : Int} {v : Int × Int × Int} {c : Int × Int} (h : sqMe x y v lo hi c = true) (k : hi ≤ hi2 ∧ hi2 ≤ 65536) : sqMe x y v lo hi2 c = true := by
  obtain ⟨a, b, n, m, q1, q2, q3, q4, q5⟩ := sme_ray.1 h
  have := Int.mul_le_mul_of_nonneg_right k.1 (show 0 ≤ m by omega)
  exact sme_ray.2 ⟨by omega, b, n, m, q1, q2, q3, by omega, q5⟩
theorem bf_me {x y far : Int} {v : Int × Int × Int} {c : Int × Int} (h : sqBf x y v far c = true) : sqMe x y v 0 far c = true := by
  have p := sbf_BefP h
  obtain ⟨n, m, a1, a2, a3, a4⟩ := p.2.2
  exact MeeP_sme p.1 p.2.1 ⟨n, m, a1, a2, Int.le_of_lt a3, a4⟩
/-- No wall is nearer than the first wall. -/
theorem fp_near {most far : Int} {v : Int × Int × Int} (hx : -1048576 ≤ x ∧ x ≤ 1048576) (hy : -1048576 ≤ y ∧ y ≤ 1048576) (hv : vecB v.1 v.2.1 v.2.2 = true) (hm : 0 ≤ most ∧ most ≤ 2048) (hf : fpZ W Hh xs x y v.1 v.2.1 v.2.2 most = some c) (h1 : far * peD x y v.1 v.2.1 v.2.2 c ≤ peN x y v.1 v.2.1 v.2.2 c) (hfm : far ≤ most) : ∀ c', atI W Hh xs c'.1 c'.2 = 2 → sqBf x y v far c' = false := fun c' hw => by
  rw [← Bool.not_eq_true]
  intro hb
  obtain ⟨hcm, -, hmin⟩ := fpZ_some hf
  obtain ⟨ho', hlt, h0⟩ := bf_on hb
  have hc' : c' ∈ trL x y v.1 v.2.1 v.2.2 0 most := (trL_iff hx hy hv hm).2 (me_mono (bf_me hb) ⟨hfm, by omega⟩)
  have k := hmin c' hc' hw
  have ho := (me_on ((trL_iff hx hy hv hm).1 hcm)).1
  have p := pe_bd ho
  have p' := pe_bd ho'
  have a1 := Int.mul_lt_mul_of_pos_right hlt p.2.1
  have a2 := Int.mul_le_mul_of_nonneg_right h1 (show 0 ≤ peD x y v.1 v.2.1 v.2.2 c' by omega)
  have e : far * peD x y v.1 v.2.1 v.2.2 c' * peD x y v.1 v.2.1 v.2.2 c = far * peD x y v.1 v.2.1 v.2.2 c * peD x y v.1 v.2.1 v.2.2 c' := by grind
  omega
/-- The same, closed. -/
theorem fp_clos {most far : Int} {v : Int × Int × Int} (hx : -1048576 ≤ x ∧ x ≤ 1048576) (hy : -1048576 ≤ y ∧ y ≤ 1048576) (hv : vecB v.1 v.2.1 v.2.2 = true) (hm : 0 ≤ most ∧ most ≤ 2048) (hf : fpZ W Hh xs x y v.1 v.2.1 v.2.2 most = some c) (h1 : far * peD x y v.1 v.2.1 v.2.2 c < peN x y v.1 v.2.1 v.2.2 c) (hfm : far ≤ most) : ∀ c', atI W Hh xs c'.1 c'.2 = 2 → sqMe x y v 0 far c' = false := fun c' hw => by
  rw [← Bool.not_eq_true]
  intro hb
  obtain ⟨hcm, -, hmin⟩ := fpZ_some hf
  obtain ⟨ho', hlt⟩ := me_on hb
  have hc' : c' ∈ trL x y v.1 v.2.1 v.2.2 0 most := (trL_iff hx hy hv hm).2 (me_mono hb ⟨hfm, by omega⟩)
  have k := hmin c' hc' hw
  have ho := (me_on ((trL_iff hx hy hv hm).1 hcm)).1
  have p := pe_bd ho
  have p' := pe_bd ho'
  have a1 := Int.mul_le_mul_of_nonneg_right hlt (show 0 ≤ peD x y v.1 v.2.1 v.2.2 c by omega)
  have a2 := Int.mul_lt_mul_of_pos_right h1 p'.2.1
  have e : far * peD x y v.1 v.2.1 v.2.2 c' * peD x y v.1 v.2.1 v.2.2 c = far * peD x y v.1 v.2.1 v.2.2 c * peD x y v.1 v.2.1 v.2.2 c' := by grind
  omega
theorem fp_no {most far : Int} {v : Int × Int × Int} (hx : -1048576 ≤ x ∧ x ≤ 1048576) (hy : -1048576 ≤ y ∧ y ≤ 1048576) (hv : vecB v.1 v.2.1 v.2.2 = true) (hm : 0 ≤ most ∧ most ≤ 2048) (hf : fpZ W Hh xs x y v.1 v.2.1 v.2.2 most = none) (hfm : far ≤ most) : ∀ c', atI W Hh xs c'.1 c'.2 = 2 → sqMe x y v 0 far c' = false := fun c' hw => by
  rw [← Bool.not_eq_true]
  intro hb
  exact fpZ_none hf c' ((trL_iff hx hy hv hm).2 (me_mono hb ⟨hfm, by omega⟩)) hw
/-- A reading that fits the first wall is plausible. -/
theorem plau_some {most : Int} (hx : 0 ≤ x ∧ x ≤ 4096) (hy : 0 ≤ y ∧ y ≤ 4096) (hz : 0 ≤ z ∧ z ≤ 1024) (hg : 1 ≤ g ∧ g ≤ 32) (hm : 0 ≤ most ∧ most ≤ 1056) (hzm : z - g ≤ most) (hf : fpZ W Hh xs x y (beamV h m).1 (beamV h m).2.1 (beamV h m).2.2 most = some c) (h1 : (z - g) * peD x y (beamV h m).1 (beamV h m).2.1 (beamV h m).2.2 c ≤ peN x y (beamV h m).1 (beamV h m).2.1 (beamV h m).2.2 c) (h2 : peN x y (beamV h m).1 (beamV h m).2.1 (beamV h m).2.2 c ≤ (z + g) * peD x y (beamV h m).1 (beamV h m).2.1 (beamV h m).2.2 c) : PlauD W Hh xs x y h g (m, z) := by
  obtain ⟨hcm, hw, -⟩ := fpZ_some hf
  have hme := (trL_iff (v := beamV h m) (by omega) (by omega) (beam_ok _ _) ⟨hm.1, by omega⟩).1 hcm
  have ho := (me_on hme).1
  have hn := me_near hme
  have p := pe_bd ho
  refine ⟨fun _ => ⟨fp_near (v := beamV h m) (by omega) (by omega) (beam_ok _ _) ⟨hm.1, by omega⟩ hf h1 hzm, c, by omega, hw, ?_⟩, fun e => by have e : z = -1 := e; omega⟩
  refine on_me (v := beamV h m) ho ?_ ?_ h2
  · show 0 ≤ low0 z g ∧ low0 z g ≤ z + g ∧ z + g ≤ 65536
    unfold low0; split <;> omega
  · show low0 z g * _ ≤ _
    unfold low0; split
    · exact h1
    · rw [Int.zero_mul]; exact p.1
theorem plau_none (hc : ∀ c', atI W Hh xs c'.1 c'.2 = 2 → sqMe x y (beamV h m) 0 (1024 - g) c' = false) : PlauD W Hh xs x y h g (m, -1) := ⟨fun e => absurd rfl e, fun _ => hc⟩
/-- A reading. -/
def lkS (W Hh : Int) (xs : List Int) (x y h m most : Int) : Option (Int × Int) := fpZ W Hh xs x y (beamV h m).1 (beamV h m).2.1 (beamV h m).2.2 most
def lkN (W Hh : Int) (xs : List Int) (x y h m most : Int) : Int := fpN x y (beamV h m).1 (beamV h m).2.1 (beamV h m).2.2 (lkS W Hh xs x y h m most)
def lkD (W Hh : Int) (xs : List Int) (x y h m most : Int) : Int := fpD x y (beamV h m).1 (beamV h m).2.1 (beamV h m).2.2 (lkS W Hh xs x y h m most)
def clp1 (e g : Int) : Int := if e < 1 - g then 1 - g else e
def clpE (e g : Int) : Int := if g < clp1 e g then g else clp1 e g
theorem clpE_bd {e g : Int} (hg : 1 ≤ g) : 1 - g ≤ clpE e g ∧ clpE e g ≤ g := by unfold clpE clp1; split <;> split <;> omega
def zpI (W Hh : Int) (xs : List Int) (x y h g m e : Int) : Int := if lkN W Hh xs x y h m 1024 / lkD W Hh xs x y h m 1024 + clpE e g < 0 then 0 else lkN W Hh xs x y h m 1024 / lkD W Hh xs x y h m 1024 + clpE e g
def mpZ (W Hh : Int) (xs : List Int) (x y h g m e : Int) : Int := if (lkS W Hh xs x y h m 1024).isSome = true then (if 1024 < zpI W Hh xs x y h g m e then -1 else zpI W Hh xs x y h g m e) else -1
def mpV (W Hh : Int) (xs : List Int) (x y h g m e : Int) : Int := if mrkB m = true then mpZ W Hh xs x y h g m e else 0
theorem lk_bd {most : Int} (hx : -1048576 ≤ x ∧ x ≤ 1048576) (hy : -1048576 ≤ y ∧ y ≤ 1048576) (hm : 0 ≤ most ∧ most ≤ 2048) (hf : lkS W Hh xs x y h m most = some c) : (0 ≤ lkN W Hh xs x y h m most ∧ lkN W Hh xs x y h m most ≤ most * lkD W Hh xs x y h m most) ∧ 0 < lkD W Hh xs x y h m most ∧ lkD W Hh xs x y h m most ≤ 67108864 := by
  obtain ⟨hcm, -, -⟩ := fpZ_some hf
  obtain ⟨ho, hl⟩ := me_on ((trL_iff (v := beamV h m) hx hy (beam_ok _ _) hm).1 hcm)
  have p := pe_bd ho
  unfold lkN lkD
  rw [hf]
  exact ⟨⟨p.1, hl⟩, p.2.1, p.2.2.1⟩
theorem mp_plau {e : Int} (hx : 0 ≤ x ∧ x ≤ 4096) (hy : 0 ≤ y ∧ y ≤ 4096) (hg : 1 ≤ g ∧ g ≤ 32) : PlauD W Hh xs x y h g (m, mpZ W Hh xs x y h g m e) ∧ -1 ≤ mpZ W Hh xs x y h g m e ∧ mpZ W Hh xs x y h g m e ≤ 1024 := by
  cases hf : lkS W Hh xs x y h m 1024 with
  | none =>
    have ez : mpZ W Hh xs x y h g m e = -1 := by unfold mpZ; rw [hf]; rfl
    rw [ez]
    exact ⟨plau_none (fp_no (v := beamV h m) (most := 1024) (by omega) (by omega) (beam_ok _ _) (by omega) hf (by omega)), by omega, by omega⟩
  | some c =>
    have hb := lk_bd (by omega) (by omega) (by omega) hf
    have eN : lkN W Hh xs x y h m 1024 = peN x y (beamV h m).1 (beamV h m).2.1 (beamV h m).2.2 c := by unfold lkN; rw [hf]; rfl
    have eD : lkD W Hh xs x y h m 1024 = peD x y (beamV h m).1 (beamV h m).2.1 (beamV h m).2.2 c := by unfold lkD; rw [hf]; rfl
    have hc := clpE_bd (e := e) hg.1
    have hz0 : 0 ≤ zpI W Hh xs x y h g m e := by unfold zpI; split <;> omega
    have k := read_bd (z := zpI W Hh xs x y h g m e) hb.2.1 hb.1.1 hc (by unfold zpI; split <;> omega)
    rw [eN, eD] at k
    unfold mpZ
    rw [hf, if_pos (show (some c).isSome = true from rfl)]
    split
    · rename_i h1
      refine ⟨plau_none (fp_clos (v := beamV h m) (most := 1024) (by omega) (by omega) (beam_ok _ _) (by omega) hf ?_ (by omega)), by omega, by omega⟩
      have p := hb.2.1
      rw [eD] at p
      have a1 := Int.mul_le_mul_of_nonneg_right (show 1025 - g ≤ zpI W Hh xs x y h g m e - g by omega) (show 0 ≤ peD x y (beamV h m).1 (beamV h m).2.1 (beamV h m).2.2 c by omega)
      have e1 : (1025 - g) * peD x y (beamV h m).1 (beamV h m).2.1 (beamV h m).2.2 c = (1024 - g) * peD x y (beamV h m).1 (beamV h m).2.1 (beamV h m).2.2 c + peD x y (beamV h m).1 (beamV h m).2.1 (beamV h m).2.2 c := by grind
      omega
    · rename_i h1
      exact ⟨plau_some hx hy (by omega) hg (most := 1024) (by omega) (by omega) hf k.1 (Int.le_of_lt k.2), by omega, by omega⟩
end
/-- The beams of a scan. -/
def spB (W Hh : Int) (xs : List Int) (x y h g : Int) (mks ers : List Int) : Nat → List (Int × Int)
  | 0 => []
  | i + 1 => spB W Hh xs x y h g mks ers i ++ [(gi mks i, mpZ W Hh xs x y h g (gi mks i) (gi ers i))]
def spL (W Hh : Int) (xs : List Int) (x y h g : Int) (mks ers : List Int) : List (Int × Int) := if swpE mks = 0 then spB W Hh xs x y h g mks ers mks.length else []
theorem spB_len {W Hh : Int} {xs : List Int} {x y h g : Int} {mks ers : List Int} : ∀ i : Nat, (spB W Hh xs x y h g mks ers i).length = i
  | 0 => rfl
  | i + 1 => by rw [spB, List.length_append, spB_len i]; rfl
theorem spB_mem {W Hh : Int} {xs : List Int} {x y h g : Int} {mks ers : List Int} {e : Int × Int} : ∀ {i : Nat}, e ∈ spB W Hh xs x y h g mks ers i → ∃ j : Nat, j < i ∧ e = (gi mks j, mpZ W Hh xs x y h g (gi mks j) (gi ers j))
  | 0, h => by cases h
  | i + 1, hm => by
    rw [spB, List.mem_append, List.mem_singleton] at hm
    rcases hm with hm | hm
    · obtain ⟨j, h1, h2⟩ := spB_mem hm
      exact ⟨j, by omega, h2⟩
    · exact ⟨i, by omega, hm⟩
theorem spL_n {W Hh : Int} {xs : List Int} {x y h g : Int} {mks ers : List Int} (k : ¬ swpE mks = 0) : spL W Hh xs x y h g mks ers = [] := if_neg k
theorem spL_y {W Hh : Int} {xs : List Int} {x y h g : Int} {mks ers : List Int} (k : swpE mks = 0) : spL W Hh xs x y h g mks ers = spB W Hh xs x y h g mks ers mks.length := if_pos k
theorem spL_ok {W Hh : Int} {xs : List Int} {x y h g : Int} {mks ers : List Int} (hx : 0 ≤ x ∧ x ≤ 4096) (hy : 0 ≤ y ∧ y ≤ 4096) (hg : 1 ≤ g ∧ g ≤ 32) : scnB (spL W Hh xs x y h g mks ers) = true ∧ ∀ e ∈ spL W Hh xs x y h g mks ers, PlauD W Hh xs x y h g e := by
  by_cases k : swpE mks = 0
  · rw [spL_y k]
    have hl : ¬ 32 < mks.length := fun q => by rw [swpE_6 q] at k; exact absurd k (by decide)
    have ha : mks.all mrkB = true := by
      rw [← Bool.not_eq_false]; intro q
      unfold swpE at k
      rw [if_neg hl, if_neg (by rw [q]; decide)] at k
      exact absurd k (by decide)
    refine ⟨scnB_iff.2 ⟨by rw [spB_len]; omega, fun e he => ?_⟩, fun e he => ?_⟩
    · obtain ⟨j, hj, rfl⟩ := spB_mem he
      have q := List.all_eq_true.1 ha _ (List.getElem_mem hj)
      rw [← gi_eq hj] at q
      unfold mrkB at q
      rw [Bool.and_eq_true, decide_eq_true_eq, decide_eq_true_eq] at q
      have := (mp_plau (W := W) (Hh := Hh) (xs := xs) (x := x) (y := y) (h := h) (m := gi mks j) (e := gi ers j) hx hy hg).2
      exact beaB_iff.2 (by omega)
    · obtain ⟨j, hj, rfl⟩ := spB_mem he
      exact (mp_plau hx hy hg).1
  · rw [spL_n k]
    exact ⟨by decide, fun e he => by cases he⟩
set_option linter.unusedSimpArgs false
set_option linter.unusedVariables false
open Go.RowKit
/-- What is learned keeps what is known. -/
theorem ln_keeps {W Hh : Int} {xs : List Int} {l : List T6} {sc : List (Int × Int)} {g : Int} (h : lnE W Hh xs l sc g = 0) (h0 : ∀ z ∈ xs, 0 ≤ z) : (lnZ W Hh xs l sc g W = W ∧ lnZ W Hh xs l sc g Hh = Hh) ∧ (lnX W Hh xs l sc g).length = xs.length ∧ ∀ i : Nat, i < xs.length → ¬ gi xs i = 0 → gi (lnX W Hh xs l sc g) i = gi xs i := by
  have hR : rgtA W Hh xs l sc g = true := by
    cases k : rgtA W Hh xs l sc g
    · rw [(ln_1 k).1] at h; exact absurd h (by decide)
    · rfl
  obtain ⟨o, ho⟩ : ∃ o, lnO W Hh xs l sc g = some o := by
    cases k : lnO W Hh xs l sc g with
    | none => rw [(ln_11 hR k).1] at h; exact absurd h (by decide)
    | some o => exact ⟨o, rfl⟩
  obtain ⟨-, e1, e2, e3⟩ := ln_0 hR ho
  have hv := vld_iff.1 (rgtA_iff.1 hR).1
  have hp : ∀ i, i < xs.length → 0 ≤ gi xs i ∧ gi xs i ≤ 2 := fun i hi => by rw [gi_eq hi]; exact ⟨h0 _ (List.getElem_mem hi), hv.le _ (List.getElem_mem hi)⟩
  have hk0 : Keeps xs xs := ⟨rfl, hv.le, fun i hi hn => rfl⟩
  have hk : Keeps xs o := by
    unfold lnO at ho
    split at ho
    · obtain ⟨q, h1, h2⟩ := Option.bind_eq_some_iff.1 ho
      exact lrnW_keeps hv.len hp (lrnF_keeps hv.len hp (fun c hc => allL_in hc) hk0 h1) h2
    · cases ho; exact hk0
  rw [e1]
  exact ⟨⟨e2, e3⟩, hk.1, hk.2.2⟩
open Go.RowKit
theorem rem_n3 (a : Nat) : Int.tmod (a : Int) 3 = ((a % 3 : Nat) : Int) := rfl
/-- The block of a set that is the caller's at first. -/
def fl (i a b : Nat) : Nat := match i with
  | 0 => a
  | _ + 1 => b
def fq (i : Nat) (Q : List T6) : List T6 := match i with
  | 0 => []
  | _ + 1 => Q
def ow (i : Nat) : Bool := match i with
  | 0 => false
  | _ + 1 => true
theorem fl_0 {a b : Nat} : fl 0 a b = a := rfl
theorem fl_s {i a b : Nat} : fl (i + 1) a b = b := rfl
theorem fl_1 {a b : Nat} : fl 1 a b = b := rfl
theorem fq_0 {Q : List T6} : fq 0 Q = [] := rfl
theorem fq_s {i : Nat} {Q : List T6} : fq (i + 1) Q = Q := rfl
theorem fq_1 {Q : List T6} : fq 1 Q = Q := rfl
theorem ow_0 : ow 0 = false := rfl
theorem ow_s {i : Nat} : ow (i + 1) = true := rfl
theorem ow_1 : ow 1 = true := rfl
/-- A look at a building; its readings. -/
def senA (W Hh : Int) (xs : List Int) (ax ay ah : Int) (mks : List Int) (g : Int) : Bool := bldB W Hh xs && (!decide (49 < ((xs.length : Nat) : Int)) && (!decide (3 < ((mks.length : Nat) : Int)) && (poseB ax ay ah && (!decide (g < 1) && (!decide (32 < g) && (!decide (ax < 0) && (!decide (ay < 0) && (!decide (W * 64 < ax) && !decide (Hh * 64 < ay)))))))))
def senB (W Hh : Int) (xs : List Int) (ax ay ah : Int) (mks : List Int) (g : Int) : Bool := senA W Hh xs ax ay ah mks g && (swpE mks == 0)
def senL (W Hh : Int) (xs : List Int) (ax ay ah : Int) (mks ers : List Int) (g : Int) : List (Int × Int) := if senA W Hh xs ax ay ah mks g = true then spL W Hh xs ax ay ah g mks ers else []
theorem senA_iff {W Hh : Int} {xs : List Int} {ax ay ah : Int} {mks : List Int} {g : Int} (h : senA W Hh xs ax ay ah mks g = true) : bldB W Hh xs = true ∧ xs.length ≤ 49 ∧ mks.length ≤ 3 ∧ poseB ax ay ah = true ∧ (1 ≤ g ∧ g ≤ 32) ∧ (0 ≤ ax ∧ ax ≤ 64 * W) ∧ 0 ≤ ay ∧ ay ≤ 64 * Hh := by
  unfold senA at h
  simp only [Bool.and_eq_true, Bool.not_eq_true', decide_eq_false_iff_not] at h
  obtain ⟨a, b, c, d, e, f, i, j, k, l⟩ := h
  exact ⟨a, by omega, by omega, d, by omega, by omega, by omega⟩
theorem senB_f {W Hh : Int} {xs : List Int} {ax ay ah : Int} {mks ers : List Int} {g : Int} (q : senA W Hh xs ax ay ah mks g = false) : senB W Hh xs ax ay ah mks g = false ∧ senL W Hh xs ax ay ah mks ers g = [] := ⟨by unfold senB; rw [q]; rfl, if_neg (by rw [q]; decide)⟩
theorem senB_t {W Hh : Int} {xs : List Int} {ax ay ah : Int} {mks ers : List Int} {g : Int} (q : senA W Hh xs ax ay ah mks g = true) : senB W Hh xs ax ay ah mks g = (swpE mks == 0) ∧ senL W Hh xs ax ay ah mks ers g = spL W Hh xs ax ay ah g mks ers := ⟨by unfold senB; rw [q]; rfl, if_pos q⟩
theorem senB_ok {W Hh : Int} {xs : List Int} {ax ay ah : Int} {mks ers : List Int} {g : Int} (h : senB W Hh xs ax ay ah mks g = true) : bldB W Hh xs = true ∧ xs.length ≤ 49 ∧ poseB ax ay ah = true ∧ (1 ≤ g ∧ g ≤ 32) ∧ ((0 ≤ ax ∧ ax ≤ 64 * W) ∧ 0 ≤ ay ∧ ay ≤ 64 * Hh) ∧ scnB (senL W Hh xs ax ay ah mks ers g) = true ∧ ∀ e ∈ senL W Hh xs ax ay ah mks ers g, PlauD W Hh xs ax ay ah g e := by
  unfold senB at h
  rw [Bool.and_eq_true] at h
  obtain ⟨a, b, c, d, e, f, i⟩ := senA_iff h.1
  have hV : vldB W Hh xs = true := by have q := a; unfold bldB at q; rw [Bool.and_eq_true] at q; exact q.1
  have hv := vld_iff.1 hV
  have hw := hv.w1
  have hh := hv.h1
  have k := spL_ok (W := W) (Hh := Hh) (xs := xs) (h := ah) (mks := mks) (ers := ers) (x := ax) (y := ay) (by omega) (by omega) e
  have es : senL W Hh xs ax ay ah mks ers g = spL W Hh xs ax ay ah g mks ers := if_pos h.1
  rw [es]
  exact ⟨a, b, d, e, ⟨f, i⟩, k.1, k.2⟩
/-- One round: refining keeps the pose, and what is learned of the refined set holds. -/
theorem surv_step {W Hh : Int} {ks xs : List Int} {s : List (Int × Int)} {Q : List T6} {x y h g : Int} (hV : vldB W Hh xs = true) (hB : ∀ z ∈ xs, 1 ≤ z ∧ z ≤ 2) (hk : BelP ks xs) (hx : 0 ≤ x ∧ x ≤ 64 * W) (hy : 0 ≤ y ∧ y ≤ 64 * Hh) (hh : 0 ≤ h ∧ h ≤ 255) (hg : 1 ≤ g ∧ g ≤ 32) (hs : scnB s = true) (hP : ∀ e ∈ s, PlauD W Hh xs x y h g e) (hS : setB Q = true) (hl : Q.length ≤ 12) (hc : ∃ b ∈ Q, InP b x y h) :
    setB (rfnL W Hh ks Q s g 4) = true ∧ (rfnL W Hh ks Q s g 4).length ≤ Q.length + 4 ∧ (∃ b ∈ rfnL W Hh ks Q s g 4, InP b x y h) ∧ covB (rfnL W Hh ks Q s g 4) x y h = true ∧ 0 < (rfnL W Hh ks Q s g 4).length ∧ (∀ b ∈ rfnL W Hh ks Q s g 4, boxB b = true) ∧ ∃ o, lnO W Hh ks (rfnL W Hh ks Q s g 4) s g = some o ∧ BelP o xs ∧ rgtA W Hh ks (rfnL W Hh ks Q s g 4) s g = true ∧ BelP ks o := by
  have hv := vld_iff.1 hV
  have hss := scnB_iff.1 hs
  have hSS := setB_iff.1 hS
  have ok := rfn_ok (xs := ks) (s := s) (g := g) ⟨hv.w0, hv.w1⟩ ⟨hv.h0, hv.h1⟩ (Q.length + 2 * 4) Q 4 [] rfl hSS.2 (fun b hb => by cases hb)
  have kp := rfn_keep (s := s) ⟨hv.w0, hv.w1⟩ ⟨hv.h0, hv.h1⟩ hk hx hy hh hg hss.2 hP (Q.length + 2 * 4) Q 4 [] rfl hSS.2 (.inl hc)
  have hR : (∀ b ∈ rfnL W Hh ks Q s g 4, boxB b = true) ∧ (rfnL W Hh ks Q s g 4).length ≤ Q.length + 4 + ([] : List T6).length := ok
  have hK : ∃ b ∈ rfnL W Hh ks Q s g 4, InP b x y h := kp
  generalize rfnL W Hh ks Q s g 4 = R at *
  have hRl : R.length ≤ Q.length + 4 := hR.2
  have hRS : setB R = true := setB_iff.2 ⟨by omega, hR.1⟩
  have hR0 : 0 < R.length := by obtain ⟨b, hb, -⟩ := hK; exact List.length_pos_of_mem hb
  have cv := in_cov hh hR.1 hK
  have hVk := bel_vld hk hV
  have hRg : rgtA W Hh ks R s g = true := rgtA_iff.2 ⟨hVk, hR0, hRS, hs, hg⟩
  obtain ⟨o, ho, hbo⟩ := learn_trueD hRg hk hV (fun i hi => by rw [gi_eq hi]; exact hB _ (List.getElem_mem hi)) cv.2 hP
  refine ⟨hRS, hRl, hK, cv.1, hR0, hR.1, o, ho, hbo, hRg, ?_⟩
  have e0 := ln_0 hRg ho
  have hk0 : ∀ z ∈ ks, 0 ≤ z := fun z hz => by
    obtain ⟨j, hj, rfl⟩ := List.mem_iff_getElem.1 hz
    rw [← gi_eq hj]
    rcases hk.2 j with q | q
    · omega
    · rw [q, gi_eq (by rw [← hk.1]; exact hj)]
      have := (hB _ (List.getElem_mem (show j < xs.length by rw [← hk.1]; exact hj))).1
      omega
  obtain ⟨-, k2, k3⟩ := ln_keeps e0.1 hk0
  rw [e0.2.1] at k2 k3
  refine ⟨k2.symm, fun i => ?_⟩
  by_cases hz : gi ks i = 0
  · exact .inl hz
  · right
    rcases Nat.lt_or_ge i ks.length with q | q
    · exact (k3 i q hz).symm
    · exact absurd (gi_out q) hz
theorem sv_rgt : rgtA 4 1 [0, 0, 0, 0] [(32, 32, 32, 32, 0, 1)] [(0, 160)] 4 = true := by decide +kernel
theorem sv_tau : tauB [(32, 32, 32, 32, 0, 1)] = true := by decide +kernel
theorem sv_all : allL 4 1 [(32, 32, 32, 32, 0, 1)] [(0, 160)] 4 = [(0, 0), (1, 0), (2, 0)] := by rw [all_put]; decide +kernel
theorem sv_sus : susL [(32, 32, 32, 32, 0, 1)] 0 160 4 = [(2, 0), (3, 0)] := by rw [sus_put]; decide +kernel
theorem sv_ln : lnO 4 1 [0, 0, 0, 0] [(32, 32, 32, 32, 0, 1)] [(0, 160)] 4 = some [1, 1, 1, 2] := by
  unfold lnO echL
  rw [if_pos sv_tau, sv_all]
  show Option.bind _ (lrnW 4 1 [susL [(32, 32, 32, 32, 0, 1)] 0 160 4]) = _
  rw [sv_sus]; decide +kernel
theorem sv_rfn : rfnL 4 1 [1, 1, 1, 2] [(32, 32, 32, 32, 0, 1)] [(0, 3)] 4 0 = [] := by decide +kernel
theorem sv_vld : vldB 4 1 [1, 1, 1, 2] = true := by decide +kernel
theorem sv_set : setB [(32, 32, 32, 32, 0, 1)] = true := by decide +kernel
theorem sv_scn : scnB [(0, 3)] = true := by decide +kernel
open Go.RowKit
set_option maxHeartbeats 4000000
set_option maxRecDepth 100000
/-- How far the corners' tests have come. -/
def cqX (x0 x1 : Int) : Nat → Int
  | 0 => x0
  | 1 => x1
  | 2 => x0
  | _ => x1
def cqY (y0 y1 : Int) : Nat → Int
  | 0 => y0
  | 1 => y0
  | 2 => y1
  | _ => y1
def h4K (op : Bool) (x0 y0 x1 y1 vx vy vd far cx cy : Int) : Nat → Bool
  | 0 => true
  | n + 1 => h4K op x0 y0 x1 y1 vx vy vd far cx cy n && hcB op (cqX x0 x1 n) (cqY y0 y1 n) vx vy vd far cx cy
theorem h4K_4 {op : Bool} {x0 y0 x1 y1 vx vy vd far cx cy : Int} : h4K op x0 y0 x1 y1 vx vy vd far cx cy 4 = h4B op x0 y0 x1 y1 vx vy vd far cx cy := by
  simp only [h4K, h4B, cqX, cqY, Bool.true_and, Bool.and_assoc]
theorem hcB_t {op : Bool} (h : op = true) {x y vx vy vd far cx cy : Int} : hcB op x y vx vy vd far cx cy = sbfB x y vx vy vd far (cx * 64) (cy * 64) ((cx + 1) * 64) ((cy + 1) * 64) := by unfold hcB; rw [h]; rfl
theorem hcB_f {op : Bool} (h : op = false) {x y vx vy vd far cx cy : Int} : hcB op x y vx vy vd far cx cy = smeB x y vx vy vd 0 far (cx * 64) (cy * 64) ((cx + 1) * 64) ((cy + 1) * 64) := by unfold hcB; rw [h]; rfl
def ad4 (x0 y0 x1 y1 : Int) : Nat → Int
  | 0 => x0
  | 1 => y0
  | 2 => x1
  | _ => y1
theorem any_le {α : Type} {p : α → Bool} {l : List α} (h : ∀ j : Nat, (hj : j < l.length) → p l[j] = false) : l.any p = false := List.any_eq_false.2 fun c hc => by
  obtain ⟨j, hj, rfl⟩ := List.mem_iff_getElem.1 hc
  rw [h j hj]; decide
theorem cwithin_c (H : AHeap) (n : Int) (lo : Int) (hi : Int) : ACalls Tryz.prog 97 [.int .i64 n, .int .i64 lo, .int .i64 hi] H (fun v H' => v = .bool (btw n lo hi) ∧ H' = H) := by
  refine AcT true Tryz.func97 ?_; intro hbel Q hQ
  refine runT ?_
  refine gd_split (fun h1 => ?_) (fun h1 => ?_)
  · have h1d := bsT h1
    have g'1 := (jn @h1 @h1d)
    refine runTf g'1 ?_
    exact hQ _ _ (end_plain0 (.inl rfl) hbel (x := .bool (decide (n ≤ hi))) (resT Tryz.results97) rfl ⟨by simp [btw, h1d], rfl⟩)
  · have h1d := bsT h1
    have g'2 := (jn @h1 @h1d)
    refine runTf g'2 ?_
    exact hQ _ _ (end_plain0 (.inl rfl) hbel (x := .bool false) (resT Tryz.results97) rfl ⟨by simp [btw, h1d], rfl⟩)
theorem cvb_c (H : AHeap) (m : Int) (r : Int) : ACalls Tryz.prog 261 [.agg [.int .i64 m, .int .i64 r]] H (fun v H' => v = .bool (beaB m r) ∧ H' = H) := by
  refine AcT true Tryz.func261 ?_; intro hbel Q hQ
  refine runT ?_
  refine call_v (by kernel_rfl) (cwithin_c _ m 0 255) ?_
  refine runT ?_
  refine gd_split (fun h1 => ?_) (fun h1 => ?_)
  · have h1d := bsT h1
    have g'3 := (jn @h1 @h1d)
    refine runTf g'3 ?_
    refine call_v (by kernel_rfl) (cwithin_c _ r (-1) 1024) ?_
    refine runTf g'3 ?_
    exact hQ _ _ (end_plain (.inl rfl) hbel (x := .bool (btw r (-1) 1024)) (resT Tryz.results261) rfl ⟨by simp [beaB, h1d], rfl⟩)
  · have h1d := bsT h1
    have g'4 := (jn @h1 @h1d)
    refine runTf g'4 ?_
    exact hQ _ _ (end_plain (.inl rfl) hbel (x := .bool false) (resT Tryz.results261) rfl ⟨by simp [beaB, h1d], rfl⟩)
theorem cvs_c (H : AHeap) (q : AV) (sc : List (Int × Int)) (hq : Sl H 2 q sc.length (prs sc)) (hl : sc.length ≤ 1000000000) : ACalls Tryz.prog 181 [q] H (fun v H' => v = .bool (scnB sc) ∧ H' = H) := by
  obtain ⟨bq, oq, cq, rfl, hbq⟩ := hq
  have hblq := getElem?_lt hbq
  have hb0q := fun l => get_app (l := l) hbq
  refine AcT true Tryz.func181 ?_; intro hbel Q hQ
  have g'5 := (jn @hbq @hb0q)
  refine runTf g'5 ?_
  refine go_loop try_mixed (by kernel_rfl) (fun k F Hx => ∃ i : Nat, i + k = sc.length ∧ (∀ j : Nat, j < i → beaB (g1 sc j) (g2 sc j) = true) ∧ F = [(0, .sl (some (bq, 0)) sc.length cq), (5, .sl (some (bq, 0)) sc.length cq), (6, .int .i64 ((sc.length : Nat) : Int)), (7, .int .i64 ((i : Nat) : Int))] ∧ H = Hx) (sc.length) ?_ ?_
  · refine ⟨_, _, _, ⟨0, by omega, (fun j h => by omega), rfl, rfl⟩, Abs.by0 hbel ?_⟩
    exact absW
  · rintro k0 F Hx ⟨i, hm0, hal, rfl, rfl⟩ J0 hJ0
    refine runTf g'5 ?_
    refine cond_split (fun h1 => ?_) (fun h1 => ?_)
    · have h1d := bsT h1
      have hlt : i < sc.length := by omega
      have q2 := prs_load (l := sc) (j := i) (by omega)
      have g'6 := (jn @h1 (jn @h1d (jn @q2 g'5)))
      refine runTf g'6 ?_
      refine call_v (by kernel_rfl) (cvb_c _ (g1 sc i) (g2 sc i)) ?_
      refine runTf g'6 ?_
      refine cond_split (fun h3 => ?_) (fun h3 => ?_)
      · have h3d := bsT h3
        have hfinS : scnB sc = false := by
          rw [← Bool.not_eq_true]; intro k
          have q := (scnB_iff.1 k).2 _ (List.getElem_mem hlt)
          rw [← pr_eq hlt] at q
          exact absurd (q.symm.trans h3d) (by decide)
        have g'7 := (jn @h3 (jn @h3d g'6))
        refine runTf g'7 ?_
        exact hQ _ _ (end_plain (.inl rfl) hbel (x := .bool false) (resT Tryz.results181) rfl ⟨by first | (rw [hfinS]; done) | (rw [hfinS]; rfl), rfl⟩)
      · have h3d := bsT h3
        have hbk := h3d
        have g'8 := (jn @h3 (jn @h3d g'6))
        refine runTf g'8 ?_
        refine hJ0 _ _ ⟨k0 - 1, by omega, _, _, _, ⟨i + 1, by omega, fun j hj => by
                    rcases Nat.lt_or_ge j i with h | h
                    · exact hal j h
                    · rw [show j = i by omega]; exact hbk, rfl, rfl⟩, Abs.byN hbel ?_⟩
        exact absW
    · have h1d := bsT h1
      obtain rfl : i = sc.length := by omega
      have hfinS : scnB sc = decide (((sc.length : Nat) : Int) ≤ 32) := by
        unfold scnB
        rw [any_le (fun j hj => by rw [← pr_eq hj]; show (!beaB _ _) = false; rw [hal j hj]; rfl)]; simp
      have g'9 := (jn @h1 (jn @h1d g'5))
      refine runTf g'9 ?_
      exact hQ _ _ (end_plain0 (.inl rfl) hbel (x := .bool (decide (((sc.length : Nat) : Int) ≤ 32))) (resT Tryz.results181) rfl ⟨by first | (rw [hfinS]; done) | (rw [hfinS]; rfl), rfl⟩)
theorem cadm_c (H : AHeap) (x0 : Int) (y0 : Int) (x1 : Int) (y1 : Int) : ACalls Tryz.prog 263 [.agg [.int .i64 x0, .int .i64 y0, .int .i64 x1, .int .i64 y1]] H (fun v H' => v = .bool (admB x0 y0 x1 y1) ∧ H' = H) := by
  refine AcT true Tryz.func263 ?_; intro hbel Q hQ
  refine runT ?_
  refine go_loop try_mixed (by kernel_rfl) (fun k F Hx => ∃ i : Nat, i + k = 4 ∧ (∀ j : Nat, j < i → btw (ad4 x0 y0 x1 y1 j) (-1048576) 1048576 = true) ∧ F = [(1, .ptr (some (H.length, 0))), (13, .agg [.int .i64 x0, .int .i64 y0, .int .i64 x1, .int .i64 y1]), (14, .int .i64 ((i : Nat) : Int))] ∧ Hx = H ++ [.cells true 0 [.int .i64 x0, .int .i64 y0, .int .i64 x1, .int .i64 y1]]) (4) ?_ ?_
  · refine ⟨_, _, _, ⟨0, by omega, (fun j h => by omega), rfl, rfl⟩, Abs.byG hbel [] rfl [0] (by decide) ?_⟩
    exact absW
  · rintro k0 F Hx ⟨i, hm0, hal, rfl, rfl⟩ J0 hJ0
    refine runT ?_
    refine cond_split (fun h1 => ?_) (fun h1 => ?_)
    · have h1d := bsT h1
      obtain rfl | rfl | rfl | rfl := (by omega : i = 0 ∨ i = 1 ∨ i = 2 ∨ i = 3)
      · skip
        have g'10 := (jn @h1 @h1d)
        refine runTf g'10 ?_
        refine call_v (by kernel_rfl) (cwithin_c _ x0 (-1048576) 1048576) ?_
        refine runTf g'10 ?_
        refine cond_split (fun h2 => ?_) (fun h2 => ?_)
        · have h2d := bsT h2
          have hfinA : admB x0 y0 x1 y1 = false := by unfold admB; simp [h2d]
          have g'11 := (jn @h2 (jn @h2d g'10))
          refine runTf g'11 ?_
          exact hQ _ _ (end_plain (.inl rfl) hbel (x := .bool false) (resT Tryz.results263) rfl ⟨by first | (rw [hfinA]; done) | (unfold admB; rw [hfa0, hfa1, hfa2, hfa3]; simp [h1d, h2d, hfinA]; done), rfl⟩)
        · have h2d := bsT h2
          have hbk := h2d
          have g'12 := (jn @h2 (jn @h2d g'10))
          refine runTf g'12 ?_
          refine hJ0 _ _ ⟨k0 - 1, by omega, _, _, _, ⟨0 + 1, by omega, fun j hj => by
                      rcases Nat.lt_or_ge j 0 with h | h
                      · exact hal j h
                      · rw [show j = 0 by omega]; exact hbk, rfl, rfl⟩, Abs.byG hbel [] rfl [0] (by decide) ?_⟩
          exact absW
      · skip
        have g'13 := (jn @h1 @h1d)
        refine runTf g'13 ?_
        refine call_v (by kernel_rfl) (cwithin_c _ y0 (-1048576) 1048576) ?_
        refine runTf g'13 ?_
        refine cond_split (fun h3 => ?_) (fun h3 => ?_)
        · have h3d := bsT h3
          have hfinA : admB x0 y0 x1 y1 = false := by unfold admB; simp [h3d]
          have g'14 := (jn @h3 (jn @h3d g'13))
          refine runTf g'14 ?_
          exact hQ _ _ (end_plain (.inl rfl) hbel (x := .bool false) (resT Tryz.results263) rfl ⟨by first | (rw [hfinA]; done) | (unfold admB; rw [hfa0, hfa1, hfa2, hfa3]; simp [h1d, h3d, hfinA]; done), rfl⟩)
        · have h3d := bsT h3
          have hbk := h3d
          have g'15 := (jn @h3 (jn @h3d g'13))
          refine runTf g'15 ?_
          refine hJ0 _ _ ⟨k0 - 1, by omega, _, _, _, ⟨1 + 1, by omega, fun j hj => by
                      rcases Nat.lt_or_ge j 1 with h | h
                      · exact hal j h
                      · rw [show j = 1 by omega]; exact hbk, rfl, rfl⟩, Abs.byG hbel [] rfl [0] (by decide) ?_⟩
          exact absW
      · skip
        have g'16 := (jn @h1 @h1d)
        refine runTf g'16 ?_
        refine call_v (by kernel_rfl) (cwithin_c _ x1 (-1048576) 1048576) ?_
        refine runTf g'16 ?_
        refine cond_split (fun h4 => ?_) (fun h4 => ?_)
        · have h4d := bsT h4
          have hfinA : admB x0 y0 x1 y1 = false := by unfold admB; simp [h4d]
          have g'17 := (jn @h4 (jn @h4d g'16))
          refine runTf g'17 ?_
          exact hQ _ _ (end_plain (.inl rfl) hbel (x := .bool false) (resT Tryz.results263) rfl ⟨by first | (rw [hfinA]; done) | (unfold admB; rw [hfa0, hfa1, hfa2, hfa3]; simp [h1d, h4d, hfinA]; done), rfl⟩)
        · have h4d := bsT h4
          have hbk := h4d
          have g'18 := (jn @h4 (jn @h4d g'16))
          refine runTf g'18 ?_
          refine hJ0 _ _ ⟨k0 - 1, by omega, _, _, _, ⟨2 + 1, by omega, fun j hj => by
                      rcases Nat.lt_or_ge j 2 with h | h
                      · exact hal j h
                      · rw [show j = 2 by omega]; exact hbk, rfl, rfl⟩, Abs.byG hbel [] rfl [0] (by decide) ?_⟩
          exact absW
      · skip
        have g'19 := (jn @h1 @h1d)
        refine runTf g'19 ?_
        refine call_v (by kernel_rfl) (cwithin_c _ y1 (-1048576) 1048576) ?_
        refine runTf g'19 ?_
        refine cond_split (fun h5 => ?_) (fun h5 => ?_)
        · have h5d := bsT h5
          have hfinA : admB x0 y0 x1 y1 = false := by unfold admB; simp [h5d]
          have g'20 := (jn @h5 (jn @h5d g'19))
          refine runTf g'20 ?_
          exact hQ _ _ (end_plain (.inl rfl) hbel (x := .bool false) (resT Tryz.results263) rfl ⟨by first | (rw [hfinA]; done) | (unfold admB; rw [hfa0, hfa1, hfa2, hfa3]; simp [h1d, h5d, hfinA]; done), rfl⟩)
        · have h5d := bsT h5
          have hbk := h5d
          have g'21 := (jn @h5 (jn @h5d g'19))
          refine runTf g'21 ?_
          refine hJ0 _ _ ⟨k0 - 1, by omega, _, _, _, ⟨3 + 1, by omega, fun j hj => by
                      rcases Nat.lt_or_ge j 3 with h | h
                      · exact hal j h
                      · rw [show j = 3 by omega]; exact hbk, rfl, rfl⟩, Abs.byG hbel [] rfl [0] (by decide) ?_⟩
          exact absW
    · have h1d := bsT h1
      obtain rfl : i = 4 := by omega
      have hfa0 : btw x0 (-1048576) 1048576 = true := hal 0 (by omega)
      have hfa1 : btw y0 (-1048576) 1048576 = true := hal 1 (by omega)
      have hfa2 : btw x1 (-1048576) 1048576 = true := hal 2 (by omega)
      have hfa3 : btw y1 (-1048576) 1048576 = true := hal 3 (by omega)
      have hxb := btw_iff.1 hfa0
      have hyb := btw_iff.1 hfa1
      have hxc := btw_iff.1 hfa2
      have hyc := btw_iff.1 hfa3
      have g'22 := (jn @h1 @h1d)
      refine runTf g'22 ?_
      refine call_v (by kernel_rfl) (cwithin_c _ (x1 - x0) 0 1024) ?_
      refine runTf g'22 ?_
      refine gd_split (fun h6 => ?_) (fun h6 => ?_)
      · have h6d := bsT h6
        have g'23 := (jn @h6 (jn @h6d g'22))
        refine runTf g'23 ?_
        refine call_v (by kernel_rfl) (cwithin_c _ (y1 - y0) 0 1024) ?_
        refine runTf g'23 ?_
        exact hQ _ _ (end_plain (.inl rfl) hbel (x := .bool (btw (y1 - y0) 0 1024)) (resT Tryz.results263) rfl ⟨by first | (rw [hfinA]; done) | (unfold admB; rw [hfa0, hfa1, hfa2, hfa3]; simp [h1d, h6d]; done), rfl⟩)
      · have h6d := bsT h6
        have g'24 := (jn @h6 (jn @h6d g'22))
        refine runTf g'24 ?_
        exact hQ _ _ (end_plain (.inl rfl) hbel (x := .bool false) (resT Tryz.results263) rfl ⟨by first | (rw [hfinA]; done) | (unfold admB; rw [hfa0, hfa1, hfa2, hfa3]; simp [h1d, h6d]; done), rfl⟩)
theorem cright_c (H : AHeap) (W : Int) (Hh : Int) (pp : AV) (xs : List Int) (q : AV) (sc : List (Int × Int)) (g : Int) (hpp : Sl H 1 pp xs.length (ints .u8 xs)) (hq : Sl H 2 q sc.length (prs sc)) (hsc : sc.length ≤ 1000000000) : ACalls Tryz.prog 95 [.agg [.int .i64 W, .int .i64 Hh, pp], q, .int .i64 g] H (fun v H' => v = .bool (vldB W Hh xs && (scnB sc && btw g 1 32)) ∧ H' = H) := by
  obtain ⟨bpp, opp, cpp, rfl, hbpp⟩ := hpp
  have hblpp := getElem?_lt hbpp
  have hb0pp := fun l => get_app (l := l) hbpp
  obtain ⟨bq, oq, cq, rfl, hbq⟩ := hq
  have hblq := getElem?_lt hbq
  have hb0q := fun l => get_app (l := l) hbq
  refine AcT true Tryz.func95 ?_; intro hbel Q hQ
  have g'25 := (jn @hbpp (jn @hb0pp (jn @hbq @hb0q)))
  refine runTf g'25 ?_
  refine call_v (by kernel_rfl) (valid_a _ W Hh _ xs (.inr ⟨_, _, _, rfl, by first | exact hb0pp _ | exact hbpp⟩)) ?_
  refine runTf g'25 ?_
  refine gd_split (fun h1 => ?_) (fun h1 => ?_)
  · have h1d := bsT h1
    have g'26 := (jn @h1 (jn @h1d g'25))
    refine runTf g'26 ?_
    refine call_v (by kernel_rfl) (cvs_c _ _ sc ⟨_, _, _, rfl, by first | exact hb0q _ | exact hbq⟩ (by first | omega | simp)) ?_
    refine runTf g'26 ?_
    refine gd_split (fun h2 => ?_) (fun h2 => ?_)
    · have h2d := bsT h2
      have g'27 := (jn @h2 (jn @h2d g'26))
      refine runTf g'27 ?_
      refine call_v (by kernel_rfl) (cwithin_c _ g 1 32) ?_
      refine runTf g'27 ?_
      exact hQ _ _ (end_plain (.inl rfl) hbel (x := .bool (btw g 1 32)) (resT Tryz.results95) rfl ⟨by first | (simp [h1d, h2d]; done) | (simp only [h1, h2]; rfl), rfl⟩)
    · have h2d := bsT h2
      have g'28 := (jn @h2 (jn @h2d g'26))
      refine runTf g'28 ?_
      exact hQ _ _ (end_plain (.inl rfl) hbel (x := .bool false) (resT Tryz.results95) rfl ⟨by first | (simp [h1d, h2d]; done) | (simp only [h1, h2]; rfl), rfl⟩)
  · have h1d := bsT h1
    have g'29 := (jn @h1 (jn @h1d g'25))
    refine runTf g'29 ?_
    exact hQ _ _ (end_plain (.inl rfl) hbel (x := .bool false) (resT Tryz.results95) rfl ⟨by first | (simp [h1d]; done) | (simp only [h1]; rfl), rfl⟩)
open Go.RowKit
theorem hidt_c (H : AHeap) (W : Int) (Hh : Int) (pp : AV) (xs : List Int) (x0 : Int) (y0 : Int) (x1 : Int) (y1 : Int) (vx : Int) (vy : Int) (vd : Int) (far : Int)  (hpp : Sl H 1 pp xs.length (ints .u8 xs)) (hV : vldB W Hh xs = true) (hx : -1048576 ≤ x0 ∧ x0 ≤ 1048576) (hy : -1048576 ≤ y0 ∧ y0 ≤ 1048576) : ACalls Tryz.prog 332 [.agg [.int .i64 W, .int .i64 Hh, pp], .agg [.int .i64 x0, .int .i64 y0, .int .i64 x1, .int .i64 y1], .agg [.int .i64 vx, .int .i64 vy, .int .i64 vd], .int .i64 far, .bool true] H (fun v H' => v = .bool (hidB W Hh xs x0 y0 x1 y1 vx vy vd far true) ∧ H' = H) := by
  obtain ⟨bpp, opp, cpp, rfl, hbpp⟩ := hpp
  have hblpp := getElem?_lt hbpp
  have hb0pp := fun l => get_app (l := l) hbpp
  have htl := trL_len x0 y0 vx vy vd 0 far
  refine AcT true Tryz.func332 ?_; intro hbel Q hQ
  have g'1 := (jn @hbpp @hb0pp)
  refine runTf g'1 ?_
  refine cond_split (fun h1 => ?_) (fun h1 => ?_)
  · have h1d := bsT h1
    have hfinH : hidB W Hh xs x0 y0 x1 y1 vx vy vd far true = false := by unfold hidB; rw [decide_eq_true h1d]; rfl
    have g'2 := (jn @h1 (jn @h1d g'1))
    refine runTf g'2 ?_
    exact hQ _ _ (end_plain (.inl rfl) hbel (x := .bool false) (resT Tryz.results332) rfl ⟨by first | (rw [hfinH]; done) | (rw [hfinH]; rfl), rfl⟩)
  · have h1d := bsT h1
    have hf0 := h1d
    have g'3 := (jn @h1 (jn @h1d g'1))
    refine runTf g'3 ?_
    refine call_v (by kernel_rfl) (traced_c _ x0 y0 vx vy vd 0 far) ?_
    refine runTf g'3 ?_
    refine go_loop try_mixed (by kernel_rfl) (fun k F Hx => ∃ i : Nat, i + k = (trL x0 y0 vx vy vd 0 far).length ∧ (∀ j : Nat, j < i → hidC W Hh xs true x0 y0 x1 y1 vx vy vd far (g1 (trL x0 y0 vx vy vd 0 far) j, g2 (trL x0 y0 vx vy vd 0 far) j) = false) ∧ F = [(3, .int .i64 far), (4, .bool true), (5, .ptr (some (H.length, 0))), (7, .ptr (some (H.length + 1, 0))), (11, .ptr (some (H.length + 2, 0))), (51, .sl (some (H.length + 3, 0)) ((trL x0 y0 vx vy vd 0 far).length) (capG (trL x0 y0 vx vy vd 0 far).length)), (52, .int .i64 (((trL x0 y0 vx vy vd 0 far).length : Nat) : Int)), (53, .int .i64 ((i : Nat) : Int))] ∧ Hx = H ++ [.cells true 0 [.int .i64 W, .int .i64 Hh, .sl (some (bpp, 0)) xs.length cpp], .cells true 0 [.int .i64 vx, .int .i64 vy, .int .i64 vd], .cells true 0 [.int .i64 x0, .int .i64 y0, .int .i64 x1, .int .i64 y0, .int .i64 x0, .int .i64 y1, .int .i64 x1, .int .i64 y1], .cells (ownG (trL x0 y0 vx vy vd 0 far).length) 2 (prs (trL x0 y0 vx vy vd 0 far))]) ((trL x0 y0 vx vy vd 0 far).length) ?_ ?_
    · refine ⟨_, _, _, ⟨0, by omega, (fun j h => by omega), rfl, rfl⟩, Abs.byG hbel [] rfl [0, 2, 3, 4] (by decide) ?_⟩
      exact absR
    · rintro k0 F Hx ⟨i, hm0, hal, rfl, rfl⟩ J0 hJ0
      have g'4 := (jn @prs_len (jn @prs_one g'3))
      refine runTf g'4 ?_
      refine cond_split (fun h2 => ?_) (fun h2 => ?_)
      · have h2d := bsT h2
        have hlt : i < (trL x0 y0 vx vy vd 0 far).length := by omega
        have htm := trL_mem (List.getElem_mem hlt)
        rw [← pr_eq hlt] at htm
        simp only at htm
        have q3 := prs_load (l := trL x0 y0 vx vy vd 0 far) (j := i) (by omega)
        have g'5 := (jn @h2 (jn @h2d (jn @q3 g'4)))
        refine runTf g'5 ?_
        refine call_v (by kernel_rfl) (pat_c _ W Hh _ xs (g1 (trL x0 y0 vx vy vd 0 far) i) (g2 (trL x0 y0 vx vy vd 0 far) i) ⟨_, _, _, rfl, by first | exact hb0pp _ | exact hbpp⟩ hV) ?_
        refine runTf g'5 ?_
        refine cond_split (fun h4 => ?_) (fun h4 => ?_)
        · have h4d := bsT h4
          have h4n := bnT h4
          have hno : hidC W Hh xs true x0 y0 x1 y1 vx vy vd far ((g1 (trL x0 y0 vx vy vd 0 far) i), (g2 (trL x0 y0 vx vy vd 0 far) i)) = false := by unfold hidC; rw [beq_eq_false_iff_ne.2 (by first | exact h4d | simpa using h4d)]; rfl
          have g'6 := (jn @h4 (jn @h4n (jn @int_bne (jn @int_beq g'5))))
          refine runTf g'6 ?_
          refine hJ0 _ _ ⟨k0 - 1, by omega, _, _, _, ⟨i + 1, by omega, fun j hj => by
                      rcases Nat.lt_or_ge j i with h | h
                      · exact hal j h
                      · rw [show j = i by omega]; exact hno, rfl, rfl⟩, Abs.byG hbel [] rfl [0, 1, 2, 3] (by decide) ?_⟩
          exact absR
        · have h4d := bsT h4
          have h4n := bnT h4
          have hat : atI W Hh xs (g1 (trL x0 y0 vx vy vd 0 far) i) (g2 (trL x0 y0 vx vy vd 0 far) i) = 2 := by first | exact h4d | simpa using h4d
          have g'7 := (jn @h4 (jn @h4n (jn @int_bne (jn @int_beq g'5))))
          refine runTf g'7 ?_
          refine go_loop try_mixed (by kernel_rfl) (fun k F Hx => ∃ n : Nat, n + k = 4 ∧ F = [(3, .int .i64 far), (4, .bool true), (5, .ptr (some (H.length, 0))), (7, .ptr (some (H.length + 1, 0))), (11, .ptr (some (H.length + 2, 0))), (16, .ptr (some (H.length + 4, 0))), (17, .bool (h4K true x0 y0 x1 y1 vx vy vd far (g1 (trL x0 y0 vx vy vd 0 far) i) (g2 (trL x0 y0 vx vy vd 0 far) i) n)), (51, .sl (some (H.length + 3, 0)) ((trL x0 y0 vx vy vd 0 far).length) (capG (trL x0 y0 vx vy vd 0 far).length)), (52, .int .i64 (((trL x0 y0 vx vy vd 0 far).length : Nat) : Int)), (53, .int .i64 ((i : Nat) : Int)), (76, .agg [.int .i64 x0, .int .i64 y0, .int .i64 x1, .int .i64 y0, .int .i64 x0, .int .i64 y1, .int .i64 x1, .int .i64 y1]), (77, .int .i64 ((n : Nat) : Int))] ∧ Hx = H ++ [.cells true 0 [.int .i64 W, .int .i64 Hh, .sl (some (bpp, 0)) xs.length cpp], .cells true 0 [.int .i64 vx, .int .i64 vy, .int .i64 vd], .cells true 0 [.int .i64 x0, .int .i64 y0, .int .i64 x1, .int .i64 y0, .int .i64 x0, .int .i64 y1, .int .i64 x1, .int .i64 y1], .cells (ownG (trL x0 y0 vx vy vd 0 far).length) 2 (prs (trL x0 y0 vx vy vd 0 far)), .cells true 0 [.int .i64 ((g1 (trL x0 y0 vx vy vd 0 far) i) * 64), .int .i64 ((g2 (trL x0 y0 vx vy vd 0 far) i) * 64), .int .i64 (((g1 (trL x0 y0 vx vy vd 0 far) i) + 1) * 64), .int .i64 (((g2 (trL x0 y0 vx vy vd 0 far) i) + 1) * 64)]]) (4) ?_ ?_
          · refine ⟨_, _, _, ⟨0, by omega, rfl, rfl⟩, Abs.byG hbel [] rfl [0, 1, 2, 3, 5] (by decide) ?_⟩
            exact absRf @h4K.eq_1
          · rintro k1 F Hx ⟨n, hm1, rfl, rfl⟩ J1 hJ1
            refine runTf g'7 ?_
            refine cond_split (fun h5 => ?_) (fun h5 => ?_)
            · have h5d := bsT h5
              obtain rfl | rfl | rfl | rfl := (by omega : n = 0 ∨ n = 1 ∨ n = 2 ∨ n = 3)
              · skip
                have g'8 := (jn @h5 (jn @h5d g'7))
                refine runTf g'8 ?_
                refine gd_split (fun h6 => ?_) (fun h6 => ?_)
                · have h6d := bsT h6
                  have hst : h4K true x0 y0 x1 y1 vx vy vd far (g1 (trL x0 y0 vx vy vd 0 far) i) (g2 (trL x0 y0 vx vy vd 0 far) i) 1 = sbfB x0 y0 vx vy vd far ((g1 (trL x0 y0 vx vy vd 0 far) i) * 64) ((g2 (trL x0 y0 vx vy vd 0 far) i) * 64) (((g1 (trL x0 y0 vx vy vd 0 far) i) + 1) * 64) (((g2 (trL x0 y0 vx vy vd 0 far) i) + 1) * 64) := by
                    show (h4K true x0 y0 x1 y1 vx vy vd far (g1 (trL x0 y0 vx vy vd 0 far) i) (g2 (trL x0 y0 vx vy vd 0 far) i) 0 && hcB true x0 y0 vx vy vd far (g1 (trL x0 y0 vx vy vd 0 far) i) (g2 (trL x0 y0 vx vy vd 0 far) i)) = _
                    rw [h6d, Bool.true_and]; exact hcB_t rfl
                  have g'9 := (jn @h6 (jn @h6d g'8))
                  refine runTf g'9 ?_
                  refine call_v (by kernel_rfl) (sbefore_c _ x0 y0 vx vy vd far ((g1 (trL x0 y0 vx vy vd 0 far) i) * 64) ((g2 (trL x0 y0 vx vy vd 0 far) i) * 64) (((g1 (trL x0 y0 vx vy vd 0 far) i) + 1) * 64) (((g2 (trL x0 y0 vx vy vd 0 far) i) + 1) * 64)) ?_
                  refine runTf g'9 ?_
                  refine hJ1 _ _ ⟨k1 - 1, by omega, _, _, _, ⟨0 + 1, by omega, rfl, rfl⟩, Abs.byG hbel [] rfl [0, 1, 2, 3, 4] (by decide) ?_⟩
                  exact absRf @hst
                · have h6d := bsT h6
                  exact absurd (show true = false from h6d) (by decide)
              · skip
                have g'10 := (jn @h5 (jn @h5d g'7))
                refine runTf g'10 ?_
                refine gd_split (fun h7 => ?_) (fun h7 => ?_)
                · have h7d := bsT h7
                  have hst : h4K true x0 y0 x1 y1 vx vy vd far (g1 (trL x0 y0 vx vy vd 0 far) i) (g2 (trL x0 y0 vx vy vd 0 far) i) 2 = sbfB x1 y0 vx vy vd far ((g1 (trL x0 y0 vx vy vd 0 far) i) * 64) ((g2 (trL x0 y0 vx vy vd 0 far) i) * 64) (((g1 (trL x0 y0 vx vy vd 0 far) i) + 1) * 64) (((g2 (trL x0 y0 vx vy vd 0 far) i) + 1) * 64) := by
                    show (h4K true x0 y0 x1 y1 vx vy vd far (g1 (trL x0 y0 vx vy vd 0 far) i) (g2 (trL x0 y0 vx vy vd 0 far) i) 1 && hcB true x1 y0 vx vy vd far (g1 (trL x0 y0 vx vy vd 0 far) i) (g2 (trL x0 y0 vx vy vd 0 far) i)) = _
                    rw [h7d, Bool.true_and]; exact hcB_t rfl
                  have g'11 := (jn @h7 (jn @h7d g'10))
                  refine runTf g'11 ?_
                  refine call_v (by kernel_rfl) (sbefore_c _ x1 y0 vx vy vd far ((g1 (trL x0 y0 vx vy vd 0 far) i) * 64) ((g2 (trL x0 y0 vx vy vd 0 far) i) * 64) (((g1 (trL x0 y0 vx vy vd 0 far) i) + 1) * 64) (((g2 (trL x0 y0 vx vy vd 0 far) i) + 1) * 64)) ?_
                  refine runTf g'11 ?_
                  refine hJ1 _ _ ⟨k1 - 1, by omega, _, _, _, ⟨1 + 1, by omega, rfl, rfl⟩, Abs.byG hbel [] rfl [0, 1, 2, 3, 4] (by decide) ?_⟩
                  exact absRf @hst
                · have h7d := bsT h7
                  have hst : h4K true x0 y0 x1 y1 vx vy vd far (g1 (trL x0 y0 vx vy vd 0 far) i) (g2 (trL x0 y0 vx vy vd 0 far) i) 2 = false := by
                    show (h4K true x0 y0 x1 y1 vx vy vd far (g1 (trL x0 y0 vx vy vd 0 far) i) (g2 (trL x0 y0 vx vy vd 0 far) i) 1 && _) = false
                    rw [h7d]; rfl
                  have g'12 := (jn @h7 (jn @h7d g'10))
                  refine runTf g'12 ?_
                  refine hJ1 _ _ ⟨k1 - 1, by omega, _, _, _, ⟨1 + 1, by omega, rfl, rfl⟩, Abs.byG hbel [] rfl [0, 1, 2, 3, 4] (by decide) ?_⟩
                  exact absRf @hst
              · skip
                have g'13 := (jn @h5 (jn @h5d g'7))
                refine runTf g'13 ?_
                refine gd_split (fun h8 => ?_) (fun h8 => ?_)
                · have h8d := bsT h8
                  have hst : h4K true x0 y0 x1 y1 vx vy vd far (g1 (trL x0 y0 vx vy vd 0 far) i) (g2 (trL x0 y0 vx vy vd 0 far) i) 3 = sbfB x0 y1 vx vy vd far ((g1 (trL x0 y0 vx vy vd 0 far) i) * 64) ((g2 (trL x0 y0 vx vy vd 0 far) i) * 64) (((g1 (trL x0 y0 vx vy vd 0 far) i) + 1) * 64) (((g2 (trL x0 y0 vx vy vd 0 far) i) + 1) * 64) := by
                    show (h4K true x0 y0 x1 y1 vx vy vd far (g1 (trL x0 y0 vx vy vd 0 far) i) (g2 (trL x0 y0 vx vy vd 0 far) i) 2 && hcB true x0 y1 vx vy vd far (g1 (trL x0 y0 vx vy vd 0 far) i) (g2 (trL x0 y0 vx vy vd 0 far) i)) = _
                    rw [h8d, Bool.true_and]; exact hcB_t rfl
                  have g'14 := (jn @h8 (jn @h8d g'13))
                  refine runTf g'14 ?_
                  refine call_v (by kernel_rfl) (sbefore_c _ x0 y1 vx vy vd far ((g1 (trL x0 y0 vx vy vd 0 far) i) * 64) ((g2 (trL x0 y0 vx vy vd 0 far) i) * 64) (((g1 (trL x0 y0 vx vy vd 0 far) i) + 1) * 64) (((g2 (trL x0 y0 vx vy vd 0 far) i) + 1) * 64)) ?_
                  refine runTf g'14 ?_
                  refine hJ1 _ _ ⟨k1 - 1, by omega, _, _, _, ⟨2 + 1, by omega, rfl, rfl⟩, Abs.byG hbel [] rfl [0, 1, 2, 3, 4] (by decide) ?_⟩
                  exact absRf @hst
                · have h8d := bsT h8
                  have hst : h4K true x0 y0 x1 y1 vx vy vd far (g1 (trL x0 y0 vx vy vd 0 far) i) (g2 (trL x0 y0 vx vy vd 0 far) i) 3 = false := by
                    show (h4K true x0 y0 x1 y1 vx vy vd far (g1 (trL x0 y0 vx vy vd 0 far) i) (g2 (trL x0 y0 vx vy vd 0 far) i) 2 && _) = false
                    rw [h8d]; rfl
                  have g'15 := (jn @h8 (jn @h8d g'13))
                  refine runTf g'15 ?_
                  refine hJ1 _ _ ⟨k1 - 1, by omega, _, _, _, ⟨2 + 1, by omega, rfl, rfl⟩, Abs.byG hbel [] rfl [0, 1, 2, 3, 4] (by decide) ?_⟩
                  exact absRf @hst
              · skip
                have g'16 := (jn @h5 (jn @h5d g'7))
                refine runTf g'16 ?_
                refine gd_split (fun h9 => ?_) (fun h9 => ?_)
                · have h9d := bsT h9
                  have hst : h4K true x0 y0 x1 y1 vx vy vd far (g1 (trL x0 y0 vx vy vd 0 far) i) (g2 (trL x0 y0 vx vy vd 0 far) i) 4 = sbfB x1 y1 vx vy vd far ((g1 (trL x0 y0 vx vy vd 0 far) i) * 64) ((g2 (trL x0 y0 vx vy vd 0 far) i) * 64) (((g1 (trL x0 y0 vx vy vd 0 far) i) + 1) * 64) (((g2 (trL x0 y0 vx vy vd 0 far) i) + 1) * 64) := by
                    show (h4K true x0 y0 x1 y1 vx vy vd far (g1 (trL x0 y0 vx vy vd 0 far) i) (g2 (trL x0 y0 vx vy vd 0 far) i) 3 && hcB true x1 y1 vx vy vd far (g1 (trL x0 y0 vx vy vd 0 far) i) (g2 (trL x0 y0 vx vy vd 0 far) i)) = _
                    rw [h9d, Bool.true_and]; exact hcB_t rfl
                  have g'17 := (jn @h9 (jn @h9d g'16))
                  refine runTf g'17 ?_
                  refine call_v (by kernel_rfl) (sbefore_c _ x1 y1 vx vy vd far ((g1 (trL x0 y0 vx vy vd 0 far) i) * 64) ((g2 (trL x0 y0 vx vy vd 0 far) i) * 64) (((g1 (trL x0 y0 vx vy vd 0 far) i) + 1) * 64) (((g2 (trL x0 y0 vx vy vd 0 far) i) + 1) * 64)) ?_
                  refine runTf g'17 ?_
                  refine hJ1 _ _ ⟨k1 - 1, by omega, _, _, _, ⟨3 + 1, by omega, rfl, rfl⟩, Abs.byG hbel [] rfl [0, 1, 2, 3, 4] (by decide) ?_⟩
                  exact absRf @hst
                · have h9d := bsT h9
                  have hst : h4K true x0 y0 x1 y1 vx vy vd far (g1 (trL x0 y0 vx vy vd 0 far) i) (g2 (trL x0 y0 vx vy vd 0 far) i) 4 = false := by
                    show (h4K true x0 y0 x1 y1 vx vy vd far (g1 (trL x0 y0 vx vy vd 0 far) i) (g2 (trL x0 y0 vx vy vd 0 far) i) 3 && _) = false
                    rw [h9d]; rfl
                  have g'18 := (jn @h9 (jn @h9d g'16))
                  refine runTf g'18 ?_
                  refine hJ1 _ _ ⟨k1 - 1, by omega, _, _, _, ⟨3 + 1, by omega, rfl, rfl⟩, Abs.byG hbel [] rfl [0, 1, 2, 3, 4] (by decide) ?_⟩
                  exact absRf @hst
            · have h5d := bsT h5
              obtain rfl : n = 4 := by omega
              have g'19 := (jn @h5 (jn @h5d g'7))
              refine runTf g'19 ?_
              refine cond_split (fun h10 => ?_) (fun h10 => ?_)
              · have h10d := bsT h10
                have hfinH : hidB W Hh xs x0 y0 x1 y1 vx vy vd far true = true := by
                  unfold hidB
                  rw [decide_eq_false hf0]
                  exact List.any_eq_true.2 ⟨_, List.getElem_mem hlt, by
                    rw [← pr_eq hlt]; unfold hidC; rw [Bool.and_eq_true, beq_iff_eq]; exact ⟨hat, h4K_4.symm.trans h10d⟩⟩
                have g'20 := (jn @h10 (jn @h10d g'19))
                refine runTf g'20 ?_
                exact hQ _ _ (end_plain (.inl rfl) hbel (x := .bool true) (resT Tryz.results332) rfl ⟨by first | (rw [hfinH]; done) | (rw [hfinH]; rfl), rfl⟩)
              · have h10d := bsT h10
                have hno : hidC W Hh xs true x0 y0 x1 y1 vx vy vd far ((g1 (trL x0 y0 vx vy vd 0 far) i), (g2 (trL x0 y0 vx vy vd 0 far) i)) = false := by unfold hidC; rw [Bool.and_eq_false_iff]; right; exact h4K_4.symm.trans h10d
                have g'21 := (jn @h10 (jn @h10d g'19))
                refine runTf g'21 ?_
                refine hJ0 _ _ ⟨k0 - 1, by omega, _, _, _, ⟨i + 1, by omega, fun j hj => by
                            rcases Nat.lt_or_ge j i with h | h
                            · exact hal j h
                            · rw [show j = i by omega]; exact hno, rfl, rfl⟩, Abs.byG hbel [] rfl [0, 1, 2, 3] (by decide) ?_⟩
                exact absR
      · have h2d := bsT h2
        obtain rfl : i = (trL x0 y0 vx vy vd 0 far).length := by omega
        have hfinH : hidB W Hh xs x0 y0 x1 y1 vx vy vd far true = false := by
          unfold hidB
          rw [any_le (fun j hj => by rw [← pr_eq hj]; exact hal j hj)]; simp
        have g'22 := (jn @h2 (jn @h2d g'4))
        refine runTf g'22 ?_
        exact hQ _ _ (end_plain (.inl rfl) hbel (x := .bool false) (resT Tryz.results332) rfl ⟨by first | (rw [hfinH]; done) | (rw [hfinH]; rfl), rfl⟩)
theorem hidf_c (H : AHeap) (W : Int) (Hh : Int) (pp : AV) (xs : List Int) (x0 : Int) (y0 : Int) (x1 : Int) (y1 : Int) (vx : Int) (vy : Int) (vd : Int) (far : Int)  (hpp : Sl H 1 pp xs.length (ints .u8 xs)) (hV : vldB W Hh xs = true) (hx : -1048576 ≤ x0 ∧ x0 ≤ 1048576) (hy : -1048576 ≤ y0 ∧ y0 ≤ 1048576) : ACalls Tryz.prog 332 [.agg [.int .i64 W, .int .i64 Hh, pp], .agg [.int .i64 x0, .int .i64 y0, .int .i64 x1, .int .i64 y1], .agg [.int .i64 vx, .int .i64 vy, .int .i64 vd], .int .i64 far, .bool false] H (fun v H' => v = .bool (hidB W Hh xs x0 y0 x1 y1 vx vy vd far false) ∧ H' = H) := by
  obtain ⟨bpp, opp, cpp, rfl, hbpp⟩ := hpp
  have hblpp := getElem?_lt hbpp
  have hb0pp := fun l => get_app (l := l) hbpp
  have htl := trL_len x0 y0 vx vy vd 0 far
  refine AcT true Tryz.func332 ?_; intro hbel Q hQ
  have g'23 := (jn @hbpp @hb0pp)
  refine runTf g'23 ?_
  refine cond_split (fun h1 => ?_) (fun h1 => ?_)
  · have h1d := bsT h1
    have hfinH : hidB W Hh xs x0 y0 x1 y1 vx vy vd far false = false := by unfold hidB; rw [decide_eq_true h1d]; rfl
    have g'24 := (jn @h1 (jn @h1d g'23))
    refine runTf g'24 ?_
    exact hQ _ _ (end_plain (.inl rfl) hbel (x := .bool false) (resT Tryz.results332) rfl ⟨by first | (rw [hfinH]; done) | (rw [hfinH]; rfl), rfl⟩)
  · have h1d := bsT h1
    have hf0 := h1d
    have g'25 := (jn @h1 (jn @h1d g'23))
    refine runTf g'25 ?_
    refine call_v (by kernel_rfl) (traced_c _ x0 y0 vx vy vd 0 far) ?_
    refine runTf g'25 ?_
    refine go_loop try_mixed (by kernel_rfl) (fun k F Hx => ∃ i : Nat, i + k = (trL x0 y0 vx vy vd 0 far).length ∧ (∀ j : Nat, j < i → hidC W Hh xs false x0 y0 x1 y1 vx vy vd far (g1 (trL x0 y0 vx vy vd 0 far) j, g2 (trL x0 y0 vx vy vd 0 far) j) = false) ∧ F = [(3, .int .i64 far), (4, .bool false), (5, .ptr (some (H.length, 0))), (7, .ptr (some (H.length + 1, 0))), (11, .ptr (some (H.length + 2, 0))), (51, .sl (some (H.length + 3, 0)) ((trL x0 y0 vx vy vd 0 far).length) (capG (trL x0 y0 vx vy vd 0 far).length)), (52, .int .i64 (((trL x0 y0 vx vy vd 0 far).length : Nat) : Int)), (53, .int .i64 ((i : Nat) : Int))] ∧ Hx = H ++ [.cells true 0 [.int .i64 W, .int .i64 Hh, .sl (some (bpp, 0)) xs.length cpp], .cells true 0 [.int .i64 vx, .int .i64 vy, .int .i64 vd], .cells true 0 [.int .i64 x0, .int .i64 y0, .int .i64 x1, .int .i64 y0, .int .i64 x0, .int .i64 y1, .int .i64 x1, .int .i64 y1], .cells (ownG (trL x0 y0 vx vy vd 0 far).length) 2 (prs (trL x0 y0 vx vy vd 0 far))]) ((trL x0 y0 vx vy vd 0 far).length) ?_ ?_
    · refine ⟨_, _, _, ⟨0, by omega, (fun j h => by omega), rfl, rfl⟩, Abs.byG hbel [] rfl [0, 2, 3, 4] (by decide) ?_⟩
      exact absR
    · rintro k0 F Hx ⟨i, hm0, hal, rfl, rfl⟩ J0 hJ0
      have g'26 := (jn @prs_len (jn @prs_one g'25))
      refine runTf g'26 ?_
      refine cond_split (fun h2 => ?_) (fun h2 => ?_)
      · have h2d := bsT h2
        have hlt : i < (trL x0 y0 vx vy vd 0 far).length := by omega
        have htm := trL_mem (List.getElem_mem hlt)
        rw [← pr_eq hlt] at htm
        simp only at htm
        have q3 := prs_load (l := trL x0 y0 vx vy vd 0 far) (j := i) (by omega)
        have g'27 := (jn @h2 (jn @h2d (jn @q3 g'26)))
        refine runTf g'27 ?_
        refine call_v (by kernel_rfl) (pat_c _ W Hh _ xs (g1 (trL x0 y0 vx vy vd 0 far) i) (g2 (trL x0 y0 vx vy vd 0 far) i) ⟨_, _, _, rfl, by first | exact hb0pp _ | exact hbpp⟩ hV) ?_
        refine runTf g'27 ?_
        refine cond_split (fun h4 => ?_) (fun h4 => ?_)
        · have h4d := bsT h4
          have h4n := bnT h4
          have hno : hidC W Hh xs false x0 y0 x1 y1 vx vy vd far ((g1 (trL x0 y0 vx vy vd 0 far) i), (g2 (trL x0 y0 vx vy vd 0 far) i)) = false := by unfold hidC; rw [beq_eq_false_iff_ne.2 (by first | exact h4d | simpa using h4d)]; rfl
          have g'28 := (jn @h4 (jn @h4n (jn @int_bne (jn @int_beq g'27))))
          refine runTf g'28 ?_
          refine hJ0 _ _ ⟨k0 - 1, by omega, _, _, _, ⟨i + 1, by omega, fun j hj => by
                      rcases Nat.lt_or_ge j i with h | h
                      · exact hal j h
                      · rw [show j = i by omega]; exact hno, rfl, rfl⟩, Abs.byG hbel [] rfl [0, 1, 2, 3] (by decide) ?_⟩
          exact absR
        · have h4d := bsT h4
          have h4n := bnT h4
          have hat : atI W Hh xs (g1 (trL x0 y0 vx vy vd 0 far) i) (g2 (trL x0 y0 vx vy vd 0 far) i) = 2 := by first | exact h4d | simpa using h4d
          have g'29 := (jn @h4 (jn @h4n (jn @int_bne (jn @int_beq g'27))))
          refine runTf g'29 ?_
          refine go_loop try_mixed (by kernel_rfl) (fun k F Hx => ∃ n : Nat, n + k = 4 ∧ F = [(3, .int .i64 far), (4, .bool false), (5, .ptr (some (H.length, 0))), (7, .ptr (some (H.length + 1, 0))), (11, .ptr (some (H.length + 2, 0))), (16, .ptr (some (H.length + 4, 0))), (17, .bool (h4K false x0 y0 x1 y1 vx vy vd far (g1 (trL x0 y0 vx vy vd 0 far) i) (g2 (trL x0 y0 vx vy vd 0 far) i) n)), (51, .sl (some (H.length + 3, 0)) ((trL x0 y0 vx vy vd 0 far).length) (capG (trL x0 y0 vx vy vd 0 far).length)), (52, .int .i64 (((trL x0 y0 vx vy vd 0 far).length : Nat) : Int)), (53, .int .i64 ((i : Nat) : Int)), (76, .agg [.int .i64 x0, .int .i64 y0, .int .i64 x1, .int .i64 y0, .int .i64 x0, .int .i64 y1, .int .i64 x1, .int .i64 y1]), (77, .int .i64 ((n : Nat) : Int))] ∧ Hx = H ++ [.cells true 0 [.int .i64 W, .int .i64 Hh, .sl (some (bpp, 0)) xs.length cpp], .cells true 0 [.int .i64 vx, .int .i64 vy, .int .i64 vd], .cells true 0 [.int .i64 x0, .int .i64 y0, .int .i64 x1, .int .i64 y0, .int .i64 x0, .int .i64 y1, .int .i64 x1, .int .i64 y1], .cells (ownG (trL x0 y0 vx vy vd 0 far).length) 2 (prs (trL x0 y0 vx vy vd 0 far)), .cells true 0 [.int .i64 ((g1 (trL x0 y0 vx vy vd 0 far) i) * 64), .int .i64 ((g2 (trL x0 y0 vx vy vd 0 far) i) * 64), .int .i64 (((g1 (trL x0 y0 vx vy vd 0 far) i) + 1) * 64), .int .i64 (((g2 (trL x0 y0 vx vy vd 0 far) i) + 1) * 64)]]) (4) ?_ ?_
          · refine ⟨_, _, _, ⟨0, by omega, rfl, rfl⟩, Abs.byG hbel [] rfl [0, 1, 2, 3, 5] (by decide) ?_⟩
            exact absRf @h4K.eq_1
          · rintro k1 F Hx ⟨n, hm1, rfl, rfl⟩ J1 hJ1
            refine runTf g'29 ?_
            refine cond_split (fun h5 => ?_) (fun h5 => ?_)
            · have h5d := bsT h5
              obtain rfl | rfl | rfl | rfl := (by omega : n = 0 ∨ n = 1 ∨ n = 2 ∨ n = 3)
              · skip
                have g'30 := (jn @h5 (jn @h5d g'29))
                refine runTf g'30 ?_
                refine gd_split (fun h6 => ?_) (fun h6 => ?_)
                · have h6d := bsT h6
                  have hst : h4K false x0 y0 x1 y1 vx vy vd far (g1 (trL x0 y0 vx vy vd 0 far) i) (g2 (trL x0 y0 vx vy vd 0 far) i) 1 = smeB x0 y0 vx vy vd 0 far ((g1 (trL x0 y0 vx vy vd 0 far) i) * 64) ((g2 (trL x0 y0 vx vy vd 0 far) i) * 64) (((g1 (trL x0 y0 vx vy vd 0 far) i) + 1) * 64) (((g2 (trL x0 y0 vx vy vd 0 far) i) + 1) * 64) := by
                    show (h4K false x0 y0 x1 y1 vx vy vd far (g1 (trL x0 y0 vx vy vd 0 far) i) (g2 (trL x0 y0 vx vy vd 0 far) i) 0 && hcB false x0 y0 vx vy vd far (g1 (trL x0 y0 vx vy vd 0 far) i) (g2 (trL x0 y0 vx vy vd 0 far) i)) = _
                    rw [h6d, Bool.true_and]; exact hcB_f rfl
                  have g'31 := (jn @h6 (jn @h6d g'30))
                  refine runTf g'31 ?_
                  refine call_v (by kernel_rfl) (smeets_c _ x0 y0 vx vy vd 0 far ((g1 (trL x0 y0 vx vy vd 0 far) i) * 64) ((g2 (trL x0 y0 vx vy vd 0 far) i) * 64) (((g1 (trL x0 y0 vx vy vd 0 far) i) + 1) * 64) (((g2 (trL x0 y0 vx vy vd 0 far) i) + 1) * 64)) ?_
                  refine runTf g'31 ?_
                  refine hJ1 _ _ ⟨k1 - 1, by omega, _, _, _, ⟨0 + 1, by omega, rfl, rfl⟩, Abs.byG hbel [] rfl [0, 1, 2, 3, 4] (by decide) ?_⟩
                  exact absRf @hst
                · have h6d := bsT h6
                  exact absurd (show true = false from h6d) (by decide)
              · skip
                have g'32 := (jn @h5 (jn @h5d g'29))
                refine runTf g'32 ?_
                refine gd_split (fun h7 => ?_) (fun h7 => ?_)
                · have h7d := bsT h7
                  have hst : h4K false x0 y0 x1 y1 vx vy vd far (g1 (trL x0 y0 vx vy vd 0 far) i) (g2 (trL x0 y0 vx vy vd 0 far) i) 2 = smeB x1 y0 vx vy vd 0 far ((g1 (trL x0 y0 vx vy vd 0 far) i) * 64) ((g2 (trL x0 y0 vx vy vd 0 far) i) * 64) (((g1 (trL x0 y0 vx vy vd 0 far) i) + 1) * 64) (((g2 (trL x0 y0 vx vy vd 0 far) i) + 1) * 64) := by
                    show (h4K false x0 y0 x1 y1 vx vy vd far (g1 (trL x0 y0 vx vy vd 0 far) i) (g2 (trL x0 y0 vx vy vd 0 far) i) 1 && hcB false x1 y0 vx vy vd far (g1 (trL x0 y0 vx vy vd 0 far) i) (g2 (trL x0 y0 vx vy vd 0 far) i)) = _
                    rw [h7d, Bool.true_and]; exact hcB_f rfl
                  have g'33 := (jn @h7 (jn @h7d g'32))
                  refine runTf g'33 ?_
                  refine call_v (by kernel_rfl) (smeets_c _ x1 y0 vx vy vd 0 far ((g1 (trL x0 y0 vx vy vd 0 far) i) * 64) ((g2 (trL x0 y0 vx vy vd 0 far) i) * 64) (((g1 (trL x0 y0 vx vy vd 0 far) i) + 1) * 64) (((g2 (trL x0 y0 vx vy vd 0 far) i) + 1) * 64)) ?_
                  refine runTf g'33 ?_
                  refine hJ1 _ _ ⟨k1 - 1, by omega, _, _, _, ⟨1 + 1, by omega, rfl, rfl⟩, Abs.byG hbel [] rfl [0, 1, 2, 3, 4] (by decide) ?_⟩
                  exact absRf @hst
                · have h7d := bsT h7
                  have hst : h4K false x0 y0 x1 y1 vx vy vd far (g1 (trL x0 y0 vx vy vd 0 far) i) (g2 (trL x0 y0 vx vy vd 0 far) i) 2 = false := by
                    show (h4K false x0 y0 x1 y1 vx vy vd far (g1 (trL x0 y0 vx vy vd 0 far) i) (g2 (trL x0 y0 vx vy vd 0 far) i) 1 && _) = false
                    rw [h7d]; rfl
                  have g'34 := (jn @h7 (jn @h7d g'32))
                  refine runTf g'34 ?_
                  refine hJ1 _ _ ⟨k1 - 1, by omega, _, _, _, ⟨1 + 1, by omega, rfl, rfl⟩, Abs.byG hbel [] rfl [0, 1, 2, 3, 4] (by decide) ?_⟩
                  exact absRf @hst
              · skip
                have g'35 := (jn @h5 (jn @h5d g'29))
                refine runTf g'35 ?_
                refine gd_split (fun h8 => ?_) (fun h8 => ?_)
                · have h8d := bsT h8
                  have hst : h4K false x0 y0 x1 y1 vx vy vd far (g1 (trL x0 y0 vx vy vd 0 far) i) (g2 (trL x0 y0 vx vy vd 0 far) i) 3 = smeB x0 y1 vx vy vd 0 far ((g1 (trL x0 y0 vx vy vd 0 far) i) * 64) ((g2 (trL x0 y0 vx vy vd 0 far) i) * 64) (((g1 (trL x0 y0 vx vy vd 0 far) i) + 1) * 64) (((g2 (trL x0 y0 vx vy vd 0 far) i) + 1) * 64) := by
                    show (h4K false x0 y0 x1 y1 vx vy vd far (g1 (trL x0 y0 vx vy vd 0 far) i) (g2 (trL x0 y0 vx vy vd 0 far) i) 2 && hcB false x0 y1 vx vy vd far (g1 (trL x0 y0 vx vy vd 0 far) i) (g2 (trL x0 y0 vx vy vd 0 far) i)) = _
                    rw [h8d, Bool.true_and]; exact hcB_f rfl
                  have g'36 := (jn @h8 (jn @h8d g'35))
                  refine runTf g'36 ?_
                  refine call_v (by kernel_rfl) (smeets_c _ x0 y1 vx vy vd 0 far ((g1 (trL x0 y0 vx vy vd 0 far) i) * 64) ((g2 (trL x0 y0 vx vy vd 0 far) i) * 64) (((g1 (trL x0 y0 vx vy vd 0 far) i) + 1) * 64) (((g2 (trL x0 y0 vx vy vd 0 far) i) + 1) * 64)) ?_
                  refine runTf g'36 ?_
                  refine hJ1 _ _ ⟨k1 - 1, by omega, _, _, _, ⟨2 + 1, by omega, rfl, rfl⟩, Abs.byG hbel [] rfl [0, 1, 2, 3, 4] (by decide) ?_⟩
                  exact absRf @hst
                · have h8d := bsT h8
                  have hst : h4K false x0 y0 x1 y1 vx vy vd far (g1 (trL x0 y0 vx vy vd 0 far) i) (g2 (trL x0 y0 vx vy vd 0 far) i) 3 = false := by
                    show (h4K false x0 y0 x1 y1 vx vy vd far (g1 (trL x0 y0 vx vy vd 0 far) i) (g2 (trL x0 y0 vx vy vd 0 far) i) 2 && _) = false
                    rw [h8d]; rfl
                  have g'37 := (jn @h8 (jn @h8d g'35))
                  refine runTf g'37 ?_
                  refine hJ1 _ _ ⟨k1 - 1, by omega, _, _, _, ⟨2 + 1, by omega, rfl, rfl⟩, Abs.byG hbel [] rfl [0, 1, 2, 3, 4] (by decide) ?_⟩
                  exact absRf @hst
              · skip
                have g'38 := (jn @h5 (jn @h5d g'29))
                refine runTf g'38 ?_
                refine gd_split (fun h9 => ?_) (fun h9 => ?_)
                · have h9d := bsT h9
                  have hst : h4K false x0 y0 x1 y1 vx vy vd far (g1 (trL x0 y0 vx vy vd 0 far) i) (g2 (trL x0 y0 vx vy vd 0 far) i) 4 = smeB x1 y1 vx vy vd 0 far ((g1 (trL x0 y0 vx vy vd 0 far) i) * 64) ((g2 (trL x0 y0 vx vy vd 0 far) i) * 64) (((g1 (trL x0 y0 vx vy vd 0 far) i) + 1) * 64) (((g2 (trL x0 y0 vx vy vd 0 far) i) + 1) * 64) := by
                    show (h4K false x0 y0 x1 y1 vx vy vd far (g1 (trL x0 y0 vx vy vd 0 far) i) (g2 (trL x0 y0 vx vy vd 0 far) i) 3 && hcB false x1 y1 vx vy vd far (g1 (trL x0 y0 vx vy vd 0 far) i) (g2 (trL x0 y0 vx vy vd 0 far) i)) = _
                    rw [h9d, Bool.true_and]; exact hcB_f rfl
                  have g'39 := (jn @h9 (jn @h9d g'38))
                  refine runTf g'39 ?_
                  refine call_v (by kernel_rfl) (smeets_c _ x1 y1 vx vy vd 0 far ((g1 (trL x0 y0 vx vy vd 0 far) i) * 64) ((g2 (trL x0 y0 vx vy vd 0 far) i) * 64) (((g1 (trL x0 y0 vx vy vd 0 far) i) + 1) * 64) (((g2 (trL x0 y0 vx vy vd 0 far) i) + 1) * 64)) ?_
                  refine runTf g'39 ?_
                  refine hJ1 _ _ ⟨k1 - 1, by omega, _, _, _, ⟨3 + 1, by omega, rfl, rfl⟩, Abs.byG hbel [] rfl [0, 1, 2, 3, 4] (by decide) ?_⟩
                  exact absRf @hst
                · have h9d := bsT h9
                  have hst : h4K false x0 y0 x1 y1 vx vy vd far (g1 (trL x0 y0 vx vy vd 0 far) i) (g2 (trL x0 y0 vx vy vd 0 far) i) 4 = false := by
                    show (h4K false x0 y0 x1 y1 vx vy vd far (g1 (trL x0 y0 vx vy vd 0 far) i) (g2 (trL x0 y0 vx vy vd 0 far) i) 3 && _) = false
                    rw [h9d]; rfl
                  have g'40 := (jn @h9 (jn @h9d g'38))
                  refine runTf g'40 ?_
                  refine hJ1 _ _ ⟨k1 - 1, by omega, _, _, _, ⟨3 + 1, by omega, rfl, rfl⟩, Abs.byG hbel [] rfl [0, 1, 2, 3, 4] (by decide) ?_⟩
                  exact absRf @hst
            · have h5d := bsT h5
              obtain rfl : n = 4 := by omega
              have g'41 := (jn @h5 (jn @h5d g'29))
              refine runTf g'41 ?_
              refine cond_split (fun h10 => ?_) (fun h10 => ?_)
              · have h10d := bsT h10
                have hfinH : hidB W Hh xs x0 y0 x1 y1 vx vy vd far false = true := by
                  unfold hidB
                  rw [decide_eq_false hf0]
                  exact List.any_eq_true.2 ⟨_, List.getElem_mem hlt, by
                    rw [← pr_eq hlt]; unfold hidC; rw [Bool.and_eq_true, beq_iff_eq]; exact ⟨hat, h4K_4.symm.trans h10d⟩⟩
                have g'42 := (jn @h10 (jn @h10d g'41))
                refine runTf g'42 ?_
                exact hQ _ _ (end_plain (.inl rfl) hbel (x := .bool true) (resT Tryz.results332) rfl ⟨by first | (rw [hfinH]; done) | (rw [hfinH]; rfl), rfl⟩)
              · have h10d := bsT h10
                have hno : hidC W Hh xs false x0 y0 x1 y1 vx vy vd far ((g1 (trL x0 y0 vx vy vd 0 far) i), (g2 (trL x0 y0 vx vy vd 0 far) i)) = false := by unfold hidC; rw [Bool.and_eq_false_iff]; right; exact h4K_4.symm.trans h10d
                have g'43 := (jn @h10 (jn @h10d g'41))
                refine runTf g'43 ?_
                refine hJ0 _ _ ⟨k0 - 1, by omega, _, _, _, ⟨i + 1, by omega, fun j hj => by
                            rcases Nat.lt_or_ge j i with h | h
                            · exact hal j h
                            · rw [show j = i by omega]; exact hno, rfl, rfl⟩, Abs.byG hbel [] rfl [0, 1, 2, 3] (by decide) ?_⟩
                exact absR
      · have h2d := bsT h2
        obtain rfl : i = (trL x0 y0 vx vy vd 0 far).length := by omega
        have hfinH : hidB W Hh xs x0 y0 x1 y1 vx vy vd far false = false := by
          unfold hidB
          rw [any_le (fun j hj => by rw [← pr_eq hj]; exact hal j hj)]; simp
        have g'44 := (jn @h2 (jn @h2d g'26))
        refine runTf g'44 ?_
        exact hQ _ _ (end_plain (.inl rfl) hbel (x := .bool false) (resT Tryz.results332) rfl ⟨by first | (rw [hfinH]; done) | (rw [hfinH]; rfl), rfl⟩)
open Go.RowKit
theorem emp_c (H : AHeap) (W : Int) (Hh : Int) (pp : AV) (xs : List Int) (x0 : Int) (y0 : Int) (x1 : Int) (y1 : Int) (vx : Int) (vy : Int) (vd : Int) (lo : Int) (hi : Int) (hpp : Sl H 1 pp xs.length (ints .u8 xs)) (hV : vldB W Hh xs = true) : ACalls Tryz.prog 333 [.agg [.int .i64 W, .int .i64 Hh, pp], .agg [.int .i64 x0, .int .i64 y0, .int .i64 x1, .int .i64 y1], .agg [.int .i64 vx, .int .i64 vy, .int .i64 vd], .int .i64 lo, .int .i64 hi] H (fun v H' => v = .bool (empB W Hh xs x0 y0 x1 y1 vx vy vd lo hi) ∧ H' = H) := by
  obtain ⟨bpp, opp, cpp, rfl, hbpp⟩ := hpp
  have hblpp := getElem?_lt hbpp
  have hb0pp := fun l => get_app (l := l) hbpp
  have htl := sptL_len x0 y0 x1 y1 vx vy vd lo hi
  refine AcT true Tryz.func333 ?_; intro hbel Q hQ
  have g'1 := (jn @hbpp @hb0pp)
  refine runTf g'1 ?_
  refine call_v (by kernel_rfl) (swept_c _ x0 y0 x1 y1 vx vy vd lo hi) ?_
  refine runTf g'1 ?_
  refine go_loop try_mixed (by kernel_rfl) (fun k F Hx => ∃ i : Nat, i + k = (sptL x0 y0 x1 y1 vx vy vd lo hi).length ∧ (∀ j : Nat, j < i → frC W Hh xs (g1 (sptL x0 y0 x1 y1 vx vy vd lo hi) j, g2 (sptL x0 y0 x1 y1 vx vy vd lo hi) j) = true) ∧ F = [(5, .ptr (some (H.length, 0))), (23, .sl (some (H.length + 1, 0)) ((sptL x0 y0 x1 y1 vx vy vd lo hi).length) (capG (sptL x0 y0 x1 y1 vx vy vd lo hi).length)), (24, .int .i64 (((sptL x0 y0 x1 y1 vx vy vd lo hi).length : Nat) : Int)), (25, .int .i64 ((i : Nat) : Int))] ∧ Hx = H ++ [.cells true 0 [.int .i64 W, .int .i64 Hh, .sl (some (bpp, 0)) xs.length cpp], .cells (ownG (sptL x0 y0 x1 y1 vx vy vd lo hi).length) 2 (prs (sptL x0 y0 x1 y1 vx vy vd lo hi))]) ((sptL x0 y0 x1 y1 vx vy vd lo hi).length) ?_ ?_
  · refine ⟨_, _, _, ⟨0, by omega, (fun j h => by omega), rfl, rfl⟩, Abs.byG hbel [] rfl [0, 3] (by decide) ?_⟩
    exact absR
  · rintro k0 F Hx ⟨i, hm0, hal, rfl, rfl⟩ J0 hJ0
    have g'2 := (jn @prs_len (jn @prs_one g'1))
    refine runTf g'2 ?_
    refine cond_split (fun h1 => ?_) (fun h1 => ?_)
    · have h1d := bsT h1
      have hlt : i < (sptL x0 y0 x1 y1 vx vy vd lo hi).length := by omega
      have q2 := prs_load (l := sptL x0 y0 x1 y1 vx vy vd lo hi) (j := i) (by omega)
      have g'3 := (jn @h1 (jn @h1d (jn @q2 g'2)))
      refine runTf g'3 ?_
      refine call_v (by kernel_rfl) (pat_c _ W Hh _ xs (g1 (sptL x0 y0 x1 y1 vx vy vd lo hi) i) (g2 (sptL x0 y0 x1 y1 vx vy vd lo hi) i) ⟨_, _, _, rfl, by first | exact hb0pp _ | exact hbpp⟩ hV) ?_
      refine runTf g'3 ?_
      refine cond_split (fun h3 => ?_) (fun h3 => ?_)
      · have h3d := bsT h3
        have h3n := bnT h3
        have hfinE : empB W Hh xs x0 y0 x1 y1 vx vy vd lo hi = false := by
          rw [← Bool.not_eq_true]; intro k
          have q := List.all_eq_true.1 k _ (List.getElem_mem hlt)
          rw [← pr_eq hlt] at q
          have q2 : atI W Hh xs (g1 (sptL x0 y0 x1 y1 vx vy vd lo hi) i) (g2 (sptL x0 y0 x1 y1 vx vy vd lo hi) i) = 1 := by unfold frC at q; simpa using q
          exact absurd q2 (by first | exact h3d | simpa using h3d)
        have g'4 := (jn @h3 (jn @h3n (jn @int_bne (jn @int_beq g'3))))
        refine runTf g'4 ?_
        exact hQ _ _ (end_plain (.inl rfl) hbel (x := .bool false) (resT Tryz.results333) rfl ⟨by first | (rw [hfinE]; done) | (rw [hfinE]; rfl), rfl⟩)
      · have h3d := bsT h3
        have h3n := bnT h3
        have hone : frC W Hh xs ((g1 (sptL x0 y0 x1 y1 vx vy vd lo hi) i), (g2 (sptL x0 y0 x1 y1 vx vy vd lo hi) i)) = true := by unfold frC; rw [beq_iff_eq]; first | exact h3d | simpa using h3d
        have g'5 := (jn @h3 (jn @h3n (jn @int_bne (jn @int_beq g'3))))
        refine runTf g'5 ?_
        refine hJ0 _ _ ⟨k0 - 1, by omega, _, _, _, ⟨i + 1, by omega, fun j hj => by
                    rcases Nat.lt_or_ge j i with h | h
                    · exact hal j h
                    · rw [show j = i by omega]; exact hone, rfl, rfl⟩, Abs.byG hbel [] rfl [0, 1] (by decide) ?_⟩
        exact absR
    · have h1d := bsT h1
      obtain rfl : i = (sptL x0 y0 x1 y1 vx vy vd lo hi).length := by omega
      have hfinE : empB W Hh xs x0 y0 x1 y1 vx vy vd lo hi = true := List.all_eq_true.2 fun c hc => by
        obtain ⟨j, hj, rfl⟩ := List.mem_iff_getElem.1 hc
        rw [← pr_eq hj]; exact hal j hj
      have g'6 := (jn @h1 (jn @h1d g'2))
      refine runTf g'6 ?_
      exact hQ _ _ (end_plain (.inl rfl) hbel (x := .bool true) (resT Tryz.results333) rfl ⟨by first | (rw [hfinE]; done) | (rw [hfinE]; rfl), rfl⟩)
theorem ref_c (H : AHeap) (W : Int) (Hh : Int) (pp : AV) (xs : List Int) (x0 : Int) (y0 : Int) (x1 : Int) (y1 : Int) (h : Int) (m : Int) (r : Int) (g : Int) (hpp : Sl H 1 pp xs.length (ints .u8 xs)) (hV : vldB W Hh xs = true) (hA : admB x0 y0 x1 y1 = true) (hg : 1 ≤ g ∧ g ≤ 32) (hbe : beaB m r = true) : ACalls Tryz.prog 264 [.agg [.int .i64 W, .int .i64 Hh, pp], .agg [.int .i64 x0, .int .i64 y0, .int .i64 x1, .int .i64 y1], .int .i64 h, .agg [.int .i64 m, .int .i64 r], .int .i64 g] H (fun v H' => v = .bool (refB W Hh xs x0 y0 x1 y1 h m r g) ∧ H' = H) := by
  obtain ⟨bpp, opp, cpp, rfl, hbpp⟩ := hpp
  have hblpp := getElem?_lt hbpp
  have hb0pp := fun l => get_app (l := l) hbpp
  have had := admB_iff.1 hA
  have hbb := beaB_iff.1 hbe
  have el0 : (if 0 < r - g then r - g else 0) = low0 r g := rfl
  have el1 : 0 ≤ low0 r g := by unfold low0; split <;> omega
  refine AcT true Tryz.func264 ?_; intro hbel Q hQ
  have g'7 := (jn @hbpp (jn @hb0pp @el0))
  refine runTf g'7 ?_
  refine call_v (by kernel_rfl) (hbeam_c _ h m) ?_
  refine runTf g'7 ?_
  refine cond_split (fun h1 => ?_) (fun h1 => ?_)
  · have h1d := bsT h1
    have h1n := bnT h1
    have hfinR : refB W Hh xs x0 y0 x1 y1 h m r g = hidB W Hh xs x0 y0 x1 y1 ((beamV h m).1) ((beamV h m).2.1) ((beamV h m).2.2) (1024 - g) false := by unfold refB; rw [h1]; rfl
    have g'8 := (jn @h1 (jn @h1n (jn @int_bne (jn @int_beq g'7))))
    refine runTf g'8 ?_
    refine call_v (by kernel_rfl) (hidf_c _ W Hh _ xs x0 y0 x1 y1 ((beamV h m).1) ((beamV h m).2.1) ((beamV h m).2.2) (1024 - g) ⟨_, _, _, rfl, by first | exact hb0pp _ | exact hbpp⟩ hV (by omega) (by omega)) ?_
    refine runTf g'8 ?_
    exact hQ _ _ (end_plain (.inl rfl) hbel (x := .bool (hidB W Hh xs x0 y0 x1 y1 ((beamV h m).1) ((beamV h m).2.1) ((beamV h m).2.2) (1024 - g) false)) (resT Tryz.results264) rfl ⟨by first | (rw [hfinR]; done) | (rw [hfinR]; rfl), rfl⟩)
  · have h1d := bsT h1
    have h1n := bnT h1
    have hrf := h1
    have g'9 := (jn @h1 (jn @h1n (jn @int_bne (jn @int_beq g'7))))
    refine runTf g'9 ?_
    refine call_v (by kernel_rfl) (hidt_c _ W Hh _ xs x0 y0 x1 y1 ((beamV h m).1) ((beamV h m).2.1) ((beamV h m).2.2) (r - g) ⟨_, _, _, rfl, by first | exact hb0pp _ | exact hbpp⟩ hV (by omega) (by omega)) ?_
    refine runTf g'9 ?_
    refine gd_split (fun h2 => ?_) (fun h2 => ?_)
    · have h2d := bsT h2
      have hfinR : refB W Hh xs x0 y0 x1 y1 h m r g = empB W Hh xs x0 y0 x1 y1 (beamV h m).1 (beamV h m).2.1 (beamV h m).2.2 (low0 r g) (r + g) := by unfold refB; rw [hrf, h2d]; rfl
      have g'10 := (jn @h2 (jn @h2d g'9))
      refine runTf g'10 ?_
      refine call_v (by kernel_rfl) (emp_c _ W Hh _ xs x0 y0 x1 y1 ((beamV h m).1) ((beamV h m).2.1) ((beamV h m).2.2) (low0 r g) (r + g) ⟨_, _, _, rfl, by first | exact hb0pp _ | exact hbpp⟩ hV) ?_
      refine runTf g'10 ?_
      exact hQ _ _ (end_plain (.inl rfl) hbel (x := .bool (empB W Hh xs x0 y0 x1 y1 ((beamV h m).1) ((beamV h m).2.1) ((beamV h m).2.2) (low0 r g) (r + g))) (resT Tryz.results264) rfl ⟨by first | (rw [hfinR]; done) | (rw [hfinR]; rfl), rfl⟩)
    · have h2d := bsT h2
      have hfinR : refB W Hh xs x0 y0 x1 y1 h m r g = true := by unfold refB; rw [hrf, h2d]; rfl
      have g'11 := (jn @h2 (jn @h2d g'9))
      refine runTf g'11 ?_
      exact hQ _ _ (end_plain (.inl rfl) hbel (x := .bool true) (resT Tryz.results264) rfl ⟨by first | (rw [hfinR]; done) | (rw [hfinR]; rfl), rfl⟩)
theorem bad_c (H : AHeap) (W : Int) (Hh : Int) (pp : AV) (xs : List Int) (x0 : Int) (y0 : Int) (x1 : Int) (y1 : Int) (h : Int) (q : AV) (sc : List (Int × Int)) (g : Int) (hpp : Sl H 1 pp xs.length (ints .u8 xs)) (hq : Sl H 2 q sc.length (prs sc)) (hV : vldB W Hh xs = true) (hg : 1 ≤ g ∧ g ≤ 32) (hsB : scnB sc = true) : ACalls Tryz.prog 184 [.agg [.int .i64 W, .int .i64 Hh, pp], .agg [.int .i64 x0, .int .i64 y0, .int .i64 x1, .int .i64 y1], .int .i64 h, q, .int .i64 g] H (fun v H' => v = .bool (badB W Hh xs x0 y0 x1 y1 h sc g) ∧ H' = H) := by
  obtain ⟨bpp, opp, cpp, rfl, hbpp⟩ := hpp
  have hblpp := getElem?_lt hbpp
  have hb0pp := fun l => get_app (l := l) hbpp
  obtain ⟨bq, oq, cq, rfl, hbq⟩ := hq
  have hblq := getElem?_lt hbq
  have hb0q := fun l => get_app (l := l) hbq
  have hsc := scnB_iff.1 hsB
  refine AcT true Tryz.func184 ?_; intro hbel Q hQ
  have g'12 := (jn @hbpp (jn @hb0pp (jn @hbq @hb0q)))
  refine runTf g'12 ?_
  refine call_v (by kernel_rfl) (cadm_c _ x0 y0 x1 y1) ?_
  refine runTf g'12 ?_
  refine cond_split (fun h1 => ?_) (fun h1 => ?_)
  · have h1d := bsT h1
    have hfinB : badB W Hh xs x0 y0 x1 y1 h sc g = false := by unfold badB; rw [h1d]; rfl
    have g'13 := (jn @h1 (jn @h1d g'12))
    refine runTf g'13 ?_
    exact hQ _ _ (end_plain (.inl rfl) hbel (x := .bool false) (resT Tryz.results184) rfl ⟨by first | (rw [hfinB]; done) | (rw [hfinB]; rfl), rfl⟩)
  · have h1d := bsT h1
    have hadm := h1d
    have g'14 := (jn @h1 (jn @h1d g'12))
    refine runTf g'14 ?_
    refine go_loop try_mixed (by kernel_rfl) (fun k F Hx => ∃ i : Nat, i + k = sc.length ∧ (∀ j : Nat, j < i → refB W Hh xs x0 y0 x1 y1 h (g1 sc j) (g2 sc j) g = false) ∧ F = [(2, .int .i64 h), (4, .int .i64 g), (5, .ptr (some (H.length, 0))), (6, .ptr (some (H.length + 1, 0))), (16, .sl (some (bq, 0)) sc.length cq), (17, .int .i64 ((sc.length : Nat) : Int)), (18, .int .i64 ((i : Nat) : Int))] ∧ Hx = H ++ [.cells true 0 [.int .i64 W, .int .i64 Hh, .sl (some (bpp, 0)) xs.length cpp], .cells true 0 [.int .i64 x0, .int .i64 y0, .int .i64 x1, .int .i64 y1]]) (sc.length) ?_ ?_
    · refine ⟨_, _, _, ⟨0, by omega, (fun j h => by omega), rfl, rfl⟩, Abs.byG hbel [] rfl [0, 1] (by decide) ?_⟩
      exact absW
    · rintro k0 F Hx ⟨i, hm0, hal, rfl, rfl⟩ J0 hJ0
      refine runTf g'14 ?_
      refine cond_split (fun h2 => ?_) (fun h2 => ?_)
      · have h2d := bsT h2
        have hlt : i < sc.length := by omega
        have hbe := hsc.2 _ (List.getElem_mem hlt)
        rw [← pr_eq hlt] at hbe
        have hbe2 : beaB (g1 sc i) (g2 sc i) = true := hbe
        have q3 := prs_load (l := sc) (j := i) (by omega)
        have g'15 := (jn @h2 (jn @h2d (jn @q3 g'14)))
        refine runTf g'15 ?_
        refine call_v (by kernel_rfl) (ref_c _ W Hh _ xs x0 y0 x1 y1 h (g1 sc i) (g2 sc i) g ⟨_, _, _, rfl, by first | exact hb0pp _ | exact hbpp⟩ hV (by assumption) hg (by assumption)) ?_
        refine runTf g'15 ?_
        refine cond_split (fun h4 => ?_) (fun h4 => ?_)
        · have h4d := bsT h4
          have hfinB : badB W Hh xs x0 y0 x1 y1 h sc g = true := by
            unfold badB
            rw [hadm]
            exact List.any_eq_true.2 ⟨_, List.getElem_mem hlt, by rw [← pr_eq hlt]; exact h4d⟩
          have g'16 := (jn @h4 (jn @h4d g'15))
          refine runTf g'16 ?_
          exact hQ _ _ (end_plain (.inl rfl) hbel (x := .bool true) (resT Tryz.results184) rfl ⟨by first | (rw [hfinB]; done) | (rw [hfinB]; rfl), rfl⟩)
        · have h4d := bsT h4
          have hno := h4d
          have g'17 := (jn @h4 (jn @h4d g'15))
          refine runTf g'17 ?_
          refine hJ0 _ _ ⟨k0 - 1, by omega, _, _, _, ⟨i + 1, by omega, fun j hj => by
                      rcases Nat.lt_or_ge j i with h | h
                      · exact hal j h
                      · rw [show j = i by omega]; exact hno, rfl, rfl⟩, Abs.byG hbel [] rfl [0, 1] (by decide) ?_⟩
          exact absW
      · have h2d := bsT h2
        obtain rfl : i = sc.length := by omega
        have hfinB : badB W Hh xs x0 y0 x1 y1 h sc g = false := by
          unfold badB
          rw [any_le (fun j hj => by rw [← pr_eq hj]; exact hal j hj)]; simp
        have g'18 := (jn @h2 (jn @h2d g'14))
        refine runTf g'18 ?_
        exact hQ _ _ (end_plain (.inl rfl) hbel (x := .bool false) (resT Tryz.results184) rfl ⟨by first | (rw [hfinB]; done) | (rw [hfinB]; rfl), rfl⟩)
open Go.RowKit
/-- A pose stands in a plan. -/
def stdB (W Hh : Int) (xs : List Int) (x y h : Int) : Bool := inpB W Hh xs x y && btw h 0 255
theorem inpB_btw {W Hh : Int} {xs : List Int} {x y : Int} : inpB W Hh xs x y = (vldB W Hh xs && (btw x 0 (64 * W) && btw y 0 (64 * Hh))) := by
  unfold inpB btw; simp only [Bool.and_assoc]
theorem fpN_some {px py vx vy vd : Int} {b : Int × Int} : fpN px py vx vy vd (some b) = peN px py vx vy vd b := rfl
theorem fpD_some {px py vx vy vd : Int} {b : Int × Int} : fpD px py vx vy vd (some b) = peD px py vx vy vd b := rfl
theorem rwit_c (H : AHeap) (n : Int) (lo : Int) (hi : Int) : ACalls Tryz.prog 218 [.int .i64 n, .int .i64 lo, .int .i64 hi] H (fun v H' => v = .bool (btw n lo hi) ∧ H' = H) := by
  refine AcT true Tryz.func218 ?_; intro hbel Q hQ
  refine runT ?_
  refine gd_split (fun h1 => ?_) (fun h1 => ?_)
  · have h1d := bsT h1
    have g'1 := (jn @h1 @h1d)
    refine runTf g'1 ?_
    exact hQ _ _ (end_plain0 (.inl rfl) hbel (x := .bool (decide (n ≤ hi))) (resT Tryz.results218) rfl ⟨by simp [btw, h1d], rfl⟩)
  · have h1d := bsT h1
    have g'2 := (jn @h1 @h1d)
    refine runTf g'2 ?_
    exact hQ _ _ (end_plain0 (.inl rfl) hbel (x := .bool false) (resT Tryz.results218) rfl ⟨by simp [btw, h1d], rfl⟩)
theorem dist_n (H : AHeap) (n0 : Nat) (d0 : Nat) (vx : Int) (vy : Int) (vd0 : Nat) (h1 : n0 ≤ 8388608) (h2 : 0 < d0) (h3 : d0 ≤ 67108864) (h4 : 0 < vd0) (h5 : vd0 ≤ 67108864) : ACalls Tryz.prog 393 [.agg [.int .i64 ((n0 : Nat) : Int), .int .i64 ((d0 : Nat) : Int)], .agg [.int .i64 vx, .int .i64 vy, .int .i64 ((vd0 : Nat) : Int)]] H (fun v H' => v = .agg [.int .i64 (Int.tdiv ((n0 * vd0 : Nat) : Int) ((Nat.gcd (n0 * vd0) d0 : Nat) : Int)), .int .i64 (Int.tdiv ((d0 : Nat) : Int) ((Nat.gcd (n0 * vd0) d0 : Nat) : Int))] ∧ H' = H) := by
  have hpm : ((n0 : Nat) : Int) * ((vd0 : Nat) : Int) = ((n0 * vd0 : Nat) : Int) := (Int.natCast_mul _ _).symm
  have hpb : n0 * vd0 ≤ 8388608 * 67108864 := Nat.mul_le_mul h1 h5
  have hgp : 0 < Nat.gcd (n0 * vd0) d0 := Nat.gcd_pos_of_pos_right _ h2
  have hgl : Nat.gcd (n0 * vd0) d0 ≤ d0 := Nat.gcd_le_right _ h2
  refine AcT true Tryz.func393 ?_; intro hbel Q hQ
  have g'3 := (jn @hpm @rem_nat)
  refine runTf g'3 ?_
  refine go_loop try_mixed (by kernel_rfl) (fun k F Hx => ∃ a : Nat, ∃ b : Nat, b = k ∧ Nat.gcd a b = Nat.gcd (n0 * vd0) d0 ∧ F = [(4, .ptr (some (H.length, 0))), (5, .int .i64 ((n0 * vd0 : Nat) : Int)), (6, .int .i64 ((d0 : Nat) : Int)), (7, .int .i64 ((a : Nat) : Int)), (8, .int .i64 ((b : Nat) : Int))] ∧ Hx = H ++ [.cells true 0 [.int .i64 0, .int .i64 0]]) (d0) ?_ ?_
  · refine ⟨_, _, _, ⟨n0 * vd0, d0, by omega, rfl, rfl, rfl⟩, Abs.byG hbel [] rfl [2] (by decide) ?_⟩
    exact absW
  · rintro k0 F Hx ⟨a, b, hm0, hG, rfl, rfl⟩ J0 hJ0
    refine runTf g'3 ?_
    refine cond_split (fun h1 => ?_) (fun h1 => ?_)
    · have h1d := bsT h1
      have hlt : a % b < b := Nat.mod_lt _ (by omega)
      have g'4 := (jn @h1 (jn @h1d (jn @int_bne (jn @int_beq g'3))))
      refine runTf g'4 ?_
      refine hJ0 _ _ ⟨a % b, by omega, _, _, _, ⟨b, a % b, by omega, by rw [← hG, gcd_step], rfl, rfl⟩, Abs.byG hbel [] rfl [0] (by decide) ?_⟩
      exact absWf @h1d
    · have h1d := bsT h1
      obtain rfl : b = 0 := by omega
      rw [Nat.gcd_zero_right] at hG
      have hfing := hG
      have ht1 := tdiv_bd (a := ((n0 * vd0 : Nat) : Int)) (b := ((a : Nat) : Int)) (by omega) (by omega)
      have ht2 := tdiv_bd (a := ((d0 : Nat) : Int)) (b := ((a : Nat) : Int)) (by omega) (by omega)
      have g'5 := (jn @h1 (jn @h1d (jn @int_bne (jn @int_beq g'3))))
      refine runTf g'5 ?_
      refine cond_split (fun h2 => ?_) (fun h2 => ?_)
      · have h2d := bsT h2
        omega
      · have h2d := bsT h2
        have g'6 := (jn @h2 (jn @h2d g'5))
        refine runTf g'6 ?_
        exact hQ _ _ (end_plain (.inl rfl) hbel (x := .agg [.int .i64 (Int.tdiv ((n0 * vd0 : Nat) : Int) ((a : Nat) : Int)), .int .i64 (Int.tdiv ((d0 : Nat) : Int) ((a : Nat) : Int))]) (resT Tryz.results393) rfl ⟨by rw [hfing], rfl⟩)
theorem dist_x (H : AHeap) (n d vx vy vd : Int) (hn : 0 ≤ n ∧ n ≤ 8388608) (hd : 0 < d ∧ d ≤ 67108864) (hv : 0 < vd ∧ vd ≤ 67108864) : ACalls Tryz.prog 393 [.agg [.int .i64 n, .int .i64 d], .agg [.int .i64 vx, .int .i64 vy, .int .i64 vd]] H (fun v H' => v = .agg [.int .i64 (lwN (n * vd) d), .int .i64 (lwD (n * vd) d)] ∧ H' = H) := by
  obtain ⟨a, rfl⟩ := Int.eq_ofNat_of_zero_le hn.1
  obtain ⟨b, rfl⟩ := Int.eq_ofNat_of_zero_le (Int.le_of_lt hd.1)
  obtain ⟨c, rfl⟩ := Int.eq_ofNat_of_zero_le (Int.le_of_lt hv.1)
  have k := dist_n H a b vx vy c (by omega) (by omega) (by omega) (by omega) (by omega)
  have hl := lw_tdiv (n := ((a : Nat) : Int) * ((c : Nat) : Int)) (d := ((b : Nat) : Int)) (Int.mul_nonneg (by omega) (by omega)) (by omega)
  have e : Int.gcd (((a : Nat) : Int) * ((c : Nat) : Int)) ((b : Nat) : Int) = Nat.gcd (a * c) b := by
    rw [← Int.natCast_mul]; rfl
  rw [e] at hl
  rw [← hl.1, ← hl.2]
  exact k
theorem ent_c (H : AHeap) (px : Int) (py : Int) (vx : Int) (vy : Int) (vd : Int) (x0 : Int) (y0 : Int) (x1 : Int) (y1 : Int) (ho : thO px py vx vy vd x0 y0 x1 y1 = true) : ACalls Tryz.prog 353 [.agg [.int .i64 px, .int .i64 py], .agg [.int .i64 vx, .int .i64 vy, .int .i64 vd], .agg [.int .i64 x0, .int .i64 y0, .int .i64 x1, .int .i64 y1]] H (fun v H' => v = .tup [.agg [.int .i64 (lwN ((thS px py vx vy x0 y0 x1 y1).1.1 * vd) (thS px py vx vy x0 y0 x1 y1).1.2), .int .i64 (lwD ((thS px py vx vy x0 y0 x1 y1).1.1 * vd) (thS px py vx vy x0 y0 x1 y1).1.2)], .bool true] ∧ H' = H) := by
  refine AcT true Tryz.func353 ?_; intro hbel Q hQ
  refine runT ?_
  rcases Bool.eq_false_or_eq_true (thO px py vx vy vd x0 y0 x1 y1) with h1 | h1
  · have h1d := h1
    have hgT := (thO_t ho).1
    have hbS := (thS_bd hgT).2
    obtain ⟨⟨hb1, hb2⟩, hb3, hb4⟩ := hbS
    have hvT := vecB_iff.1 (thG_iff.1 hgT).2.1
    have hn0 := ((th_in thS_ok.1 (thO_t ho).2).1 (th_lo (thG_vec hgT).2 (thO_t ho).2)).1.1
    refine call_v (by kernel_rfl) (through_t _ px py vx vy vd x0 y0 x1 y1 (by assumption)) ?_
    have g'7 := (jn @h1 @h1d)
    refine runTf g'7 ?_
    refine call_v (by kernel_rfl) (dist_x _ ((thS px py vx vy x0 y0 x1 y1).1.1) ((thS px py vx vy x0 y0 x1 y1).1.2) vx vy vd (by omega) (by omega) (by omega)) ?_
    refine runTf g'7 ?_
    exact hQ _ _ (end_plain (.inl rfl) hbel (x := .tup [.agg [.int .i64 (lwN (((thS px py vx vy x0 y0 x1 y1).1.1) * vd) ((thS px py vx vy x0 y0 x1 y1).1.2)), .int .i64 (lwD (((thS px py vx vy x0 y0 x1 y1).1.1) * vd) ((thS px py vx vy x0 y0 x1 y1).1.2))], .bool true]) (resT Tryz.results353) rfl ⟨rfl, rfl⟩)
  · have h1d := h1
    exact absurd (ho.symm.trans h1d) (by decide)
theorem entC_t (H : AHeap) (px py vx vy vd cx cy : Int) (h : onC px py vx vy vd (cx, cy) = true) : ACalls Tryz.prog 353 [.agg [.int .i64 px, .int .i64 py], .agg [.int .i64 vx, .int .i64 vy, .int .i64 vd], .agg [.int .i64 (cx * 64), .int .i64 (cy * 64), .int .i64 (cx * 64 + 64), .int .i64 (cy * 64 + 64)]] H (fun v H' => v = .tup [.agg [.int .i64 (peN px py vx vy vd (cx, cy)), .int .i64 (peD px py vx vy vd (cx, cy))], .bool true] ∧ H' = H) := ent_c H px py vx vy vd (cx * 64) (cy * 64) (cx * 64 + 64) (cy * 64 + 64) h
theorem rpin_c (H : AHeap) (W : Int) (Hh : Int) (pp : AV) (xs : List Int) (x : Int) (y : Int) (hpp : Sl H 1 pp xs.length (ints .u8 xs)) : ACalls Tryz.prog 285 [.agg [.int .i64 W, .int .i64 Hh, pp], .agg [.int .i64 x, .int .i64 y]] H (fun v H' => v = .bool (inpB W Hh xs x y) ∧ H' = H) := by
  obtain ⟨bpp, opp, cpp, rfl, hbpp⟩ := hpp
  have hblpp := getElem?_lt hbpp
  have hb0pp := fun l => get_app (l := l) hbpp
  refine AcT true Tryz.func285 ?_; intro hbel Q hQ
  have g'8 := (jn @hbpp @hb0pp)
  refine runTf g'8 ?_
  refine call_v (by kernel_rfl) (valid_a _ W Hh _ xs (.inr ⟨_, _, _, rfl, by first | exact hb0pp _ | exact hbpp⟩)) ?_
  refine runTf g'8 ?_
  refine gd_split (fun h1 => ?_) (fun h1 => ?_)
  · have h1d := bsT h1
    have hVV := vld_iff.1 h1d
    have hw1 := hVV.w1
    have hw0 := hVV.w0
    have hh1 := hVV.h1
    have hh0 := hVV.h0
    have g'9 := (jn @h1 (jn @h1d g'8))
    refine runTf g'9 ?_
    refine call_v (by kernel_rfl) (rwit_c _ x 0 (64 * W)) ?_
    refine runTf g'9 ?_
    refine gd_split (fun h2 => ?_) (fun h2 => ?_)
    · have h2d := bsT h2
      have g'10 := (jn @h2 (jn @h2d g'9))
      refine runTf g'10 ?_
      refine call_v (by kernel_rfl) (rwit_c _ y 0 (64 * Hh)) ?_
      refine runTf g'10 ?_
      exact hQ _ _ (end_plain (.inl rfl) hbel (x := .bool (btw y 0 (64 * Hh))) (resT Tryz.results285) rfl ⟨by rw [inpB_btw]; simp [h1d, h2d], rfl⟩)
    · have h2d := bsT h2
      have g'11 := (jn @h2 (jn @h2d g'9))
      refine runTf g'11 ?_
      exact hQ _ _ (end_plain (.inl rfl) hbel (x := .bool false) (resT Tryz.results285) rfl ⟨by rw [inpB_btw]; simp [h1d, h2d], rfl⟩)
  · have h1d := bsT h1
    have g'12 := (jn @h1 (jn @h1d g'8))
    refine runTf g'12 ?_
    exact hQ _ _ (end_plain (.inl rfl) hbel (x := .bool false) (resT Tryz.results285) rfl ⟨by rw [inpB_btw]; simp [h1d], rfl⟩)
theorem rpst_c (H : AHeap) (W : Int) (Hh : Int) (pp : AV) (xs : List Int) (x : Int) (y : Int) (h : Int) (hpp : Sl H 1 pp xs.length (ints .u8 xs)) : ACalls Tryz.prog 216 [.agg [.int .i64 W, .int .i64 Hh, pp], .agg [.int .i64 x, .int .i64 y, .int .i64 h]] H (fun v H' => v = .bool (stdB W Hh xs x y h) ∧ H' = H) := by
  obtain ⟨bpp, opp, cpp, rfl, hbpp⟩ := hpp
  have hblpp := getElem?_lt hbpp
  have hb0pp := fun l => get_app (l := l) hbpp
  refine AcT true Tryz.func216 ?_; intro hbel Q hQ
  have g'13 := (jn @hbpp @hb0pp)
  refine runTf g'13 ?_
  refine call_v (by kernel_rfl) (rpin_c _ W Hh _ xs x y ⟨_, _, _, rfl, by first | exact hb0pp _ | exact hbpp⟩) ?_
  refine runTf g'13 ?_
  refine gd_split (fun h1 => ?_) (fun h1 => ?_)
  · have h1d := bsT h1
    have g'14 := (jn @h1 (jn @h1d g'13))
    refine runTf g'14 ?_
    refine call_v (by kernel_rfl) (rwit_c _ h 0 255) ?_
    refine runTf g'14 ?_
    exact hQ _ _ (end_plain (.inl rfl) hbel (x := .bool (btw h 0 255)) (resT Tryz.results216) rfl ⟨by first | (simp [stdB, h1d]; done) | (unfold stdB; simp [h1d]; done), rfl⟩)
  · have h1d := bsT h1
    have g'15 := (jn @h1 (jn @h1d g'13))
    refine runTf g'15 ?_
    exact hQ _ _ (end_plain (.inl rfl) hbel (x := .bool false) (resT Tryz.results216) rfl ⟨by first | (simp [stdB, h1d]; done) | (unfold stdB; simp [h1d]; done), rfl⟩)
theorem first_c (H : AHeap) (W : Int) (Hh : Int) (pp : AV) (xs : List Int) (px : Int) (py : Int) (vx : Int) (vy : Int) (vd : Int) (most : Int) (hpp : Sl H 1 pp xs.length (ints .u8 xs)) (hi : inpB W Hh xs px py = true) (hv : vecB vx vy vd = true) (hm : 0 ≤ most ∧ most ≤ 1056) : ACalls Tryz.prog 286 [.agg [.int .i64 W, .int .i64 Hh, pp], .agg [.int .i64 px, .int .i64 py], .agg [.int .i64 vx, .int .i64 vy, .int .i64 vd], .int .i64 most] H (fun v H' => v = .tup [.agg [.int .i64 (fpN px py vx vy vd (fpZ W Hh xs px py vx vy vd most)), .int .i64 (fpD px py vx vy vd (fpZ W Hh xs px py vx vy vd most))], .agg [.int .i64 (oX (fpZ W Hh xs px py vx vy vd most)), .int .i64 (oY (fpZ W Hh xs px py vx vy vd most))], .bool ((fpZ W Hh xs px py vx vy vd most).isSome)] ∧ H' = H) := by
  obtain ⟨bpp, opp, cpp, rfl, hbpp⟩ := hpp
  have hblpp := getElem?_lt hbpp
  have hb0pp := fun l => get_app (l := l) hbpp
  have hV := (inpB_iff.1 hi).1
  have hVV := vld_iff.1 hV
  have hw1 := hVV.w1
  have hw0 := hVV.w0
  have hh1 := hVV.h1
  have hh0 := hVV.h0
  have hbb1 := (inpB_iff.1 hi).2
  have hte : ((trE px py vx vy vd 0 most) != 0) = false := by rw [(trE_0 (ptB_iff.2 (by omega)) hv (by omega)).1]; rfl
  have htl := trL_len px py vx vy vd 0 most
  (refine ACalls_pieces Tryz.func286 _ rfl (Nat.le_of_ble_eq_true (by kernel_rfl)) rfl ?_; intro hbel Q hQ hQ' c hc; unfold Tryz.f286 at hc; simp only [Option.some.injEq] at hc; subst hc; clear hQ')
  refine AW_seqQ fun Q1 hn1 hr1 he1 => ?_
  have hQ1 := fun F H' h => hr1 F H' (hQ F H' h)
  refine AW_fin true try_mixed (by kernel_rfl) ?_
  have g'16 := (jn @hbpp (jn @hb0pp (jn @hi @hte)))
  refine runTf g'16 ?_
  refine hn1 _ _ ?_
  refine AW_seqQ fun Q2 hn2 hr2 he2 => ?_
  have hQ2 := fun F H' h => hr2 F H' (hQ F H' h)
  refine AW_fin true try_mixed (by kernel_rfl) ?_
  refine runTf g'16 ?_
  refine call_v (by kernel_rfl) (rpin_c _ W Hh _ xs px py ⟨_, _, _, rfl, by first | exact hb0pp _ | exact hbpp⟩) ?_
  refine runTf g'16 ?_
  refine hn2 _ _ ?_
  refine AW_seqQ fun Q3 hn3 hr3 he3 => ?_
  have hQ3 := fun F H' h => hr3 F H' (hQ F H' h)
  refine AW_fin true try_mixed (by kernel_rfl) ?_
  refine runTf g'16 ?_
  refine call_v (by kernel_rfl) (traced_c _ px py vx vy vd 0 most) ?_
  refine runTf g'16 ?_
  refine hn3 _ _ ?_
  refine AW_seqQ fun Q4 hn4 hr4 he4 => ?_
  have hQ4 := fun F H' h => hr4 F H' (hQ F H' h)
  refine AW_fin true try_mixed (by kernel_rfl) ?_
  refine runTf g'16 ?_
  refine hn4 _ _ ?_
  refine AW_seqQ fun Q5 hn5 hr5 he5 => ?_
  have hQ5 := fun F H' h => hr5 F H' (hQ F H' h)
  refine AW_fin true try_mixed (by kernel_rfl) ?_
  refine runTf g'16 ?_
  refine hn5 _ _ ?_
  refine AW_seqQ fun Q6 hn6 hr6 he6 => ?_
  have hQ6 := fun F H' h => hr6 F H' (hQ F H' h)
  refine AW_fin true try_mixed (by kernel_rfl) ?_
  refine runTf g'16 ?_
  refine hn6 _ _ ?_
  refine AW_seqQ fun Q7 hn7 hr7 he7 => ?_
  have hQ7 := fun F H' h => hr7 F H' (hQ F H' h)
  refine AW_fin true try_mixed (by kernel_rfl) ?_
  refine runTf g'16 ?_
  refine hn7 _ _ ?_
  refine AW_seqQ fun Q8 hn8 hr8 he8 => ?_
  have hQ8 := fun F H' h => hr8 F H' (hQ F H' h)
  refine AW_seqQ fun Q9 hn9 hr9 he9 => ?_
  have hQ9 := fun F H' h => hr9 F H' (hQ8 F H' h)
  refine AW_fin true try_mixed (by kernel_rfl) ?_
  refine runTf g'16 ?_
  refine hn9 _ _ ?_
  refine AW_blockQ fun Q10 hn10 hr10 he10 hb10 => ?_
  have hQ10 := fun F H' h => hr10 F H' (hQ8 F H' h)
  refine AW_loopA (fun k F Hx => ∃ i : Nat, i + k = (trL px py vx vy vd 0 most).length ∧ F = [(4, .ptr (some (H.length, 0))), (5, .ptr (some (H.length + 1, 0))), (6, .ptr (some (H.length + 2, 0))), (8, .ptr (some (H.length + 3, 0))), (9, .ptr (some (H.length + 4, 0))), (13, .ptr (some (H.length + 6, 0))), (14, .ptr (some (H.length + 7, 0))), (15, .bool ((fpA W Hh xs px py vx vy vd most i).isSome)), (39, .sl (some (H.length + 5, 0)) ((trL px py vx vy vd 0 most).length) (capG (trL px py vx vy vd 0 most).length)), (40, .int .i64 (((trL px py vx vy vd 0 most).length : Nat) : Int)), (41, .int .i64 ((i : Nat) : Int))] ∧ Hx = H ++ [.cells true 0 [.int .i64 W, .int .i64 Hh, .sl (some (bpp, 0)) xs.length cpp], .cells true 0 [.int .i64 px, .int .i64 py], .cells true 0 [.int .i64 vx, .int .i64 vy, .int .i64 vd], .cells true 0 [.int .i64 0, .int .i64 0], .cells true 0 [.int .i64 0, .int .i64 0], .cells (ownG (trL px py vx vy vd 0 most).length) 2 (prs (trL px py vx vy vd 0 most)), .cells true 0 [.int .i64 (fpN px py vx vy vd (fpA W Hh xs px py vx vy vd most i)), .int .i64 (fpD px py vx vy vd (fpA W Hh xs px py vx vy vd most i))], .cells true 0 [.int .i64 (oX (fpA W Hh xs px py vx vy vd most i)), .int .i64 (oY (fpA W Hh xs px py vx vy vd most i))]]) ((trL px py vx vy vd 0 most).length) ?_ ?_
  · refine ⟨_, _, _, ⟨0, by omega, rfl, rfl⟩, Abs.byG hbel [] rfl [0, 1, 2, 3, 4, 5, 6, 7] (by decide) ?_⟩
    exact absRf (jn @fpA_0 (jn @fpN.eq_1 (jn @fpD.eq_1 (jn @oX.eq_1 (jn @oY.eq_1 @Option.isSome_none.{0})))))
  · rintro k0 F Hx ⟨i, hm0, rfl, rfl⟩ Q11 hJ0 hr11 he11
    have hQ11 := fun F H' h => hr11 F H' (hQ10 F H' h)
    refine AW_seqQ fun Q12 hn12 hr12 he12 => ?_
    have hQ12 := fun F H' h => hr12 F H' (hQ11 F H' h)
    refine AW_fin true try_mixed (by kernel_rfl) ?_
    have g'17 := (jn @prs_len (jn @prs_one g'16))
    refine runTf g'17 ?_
    refine hn12 _ _ ?_
    refine AW_seqQ fun Q13 hn13 hr13 he13 => ?_
    have hQ13 := fun F H' h => hr13 F H' (hQ11 F H' h)
    refine AW_fin true try_mixed (by kernel_rfl) ?_
    refine runTf g'17 ?_
    refine cond_split (fun h1 => ?_) (fun h1 => ?_)
    · have h1d := bsT h1
      have hlt : i < (trL px py vx vy vd 0 most).length := by omega
      have hcm := List.getElem_mem hlt
      rw [← pr_eq hlt] at hcm
      have hme := (trL_iff (v := (vx, vy, vd)) (by omega) (by omega) hv ⟨hm.1, by omega⟩).1 hcm
      have hco := (me_on hme)
      have hon : onC px py vx vy vd (g1 (trL px py vx vy vd 0 most) i, g2 (trL px py vx vy vd 0 most) i) = true := hco.1
      have hcp := pe_bd hon
      have hcl : peN px py vx vy vd (g1 (trL px py vx vy vd 0 most) i, g2 (trL px py vx vy vd 0 most) i) ≤ most * peD px py vx vy vd (g1 (trL px py vx vy vd 0 most) i, g2 (trL px py vx vy vd 0 most) i) := hco.2
      have hcb : peN px py vx vy vd (g1 (trL px py vx vy vd 0 most) i, g2 (trL px py vx vy vd 0 most) i) ≤ 70866960384 := by have q := Int.mul_le_mul hm.2 hcp.2.2.1 (Int.le_of_lt hcp.2.1) (by decide); omega
      have hcn := me_near hme
      simp only at hcn
      have hsq : sqO (g1 (trL px py vx vy vd 0 most) i) (g2 (trL px py vx vy vd 0 most) i) = true := by unfold sqO; rw [within_iff.2 (by omega), within_iff.2 (by omega)]; rfl
      have g'18 := (jn @h1 (jn @h1d g'17))
      refine runTf g'18 ?_
      refine hn13 _ _ ?_
      refine AW_seqQ fun Q14 hn14 hr14 he14 => ?_
      have hQ14 := fun F H' h => hr14 F H' (hQ11 F H' h)
      refine AW_blockQ fun Q15 hn15 hr15 he15 hb15 => ?_
      have hQ15 := fun F H' h => hr15 F H' (hQ14 F H' h)
      refine AW_seqQ fun Q16 hn16 hr16 he16 => ?_
      have hQ16 := fun F H' h => hr16 F H' (hQ15 F H' h)
      refine AW_fin true try_mixed (by kernel_rfl) ?_
      have q2 := prs_load (l := trL px py vx vy vd 0 most) (j := i) (by omega)
      have g'19 := (jn @q2 g'18)
      refine runTf g'19 ?_
      refine hn16 _ _ ?_
      refine AW_seqQ fun Q17 hn17 hr17 he17 => ?_
      have hQ17 := fun F H' h => hr17 F H' (hQ15 F H' h)
      refine AW_fin true try_mixed (by kernel_rfl) ?_
      refine runTf g'19 ?_
      refine call_v (by kernel_rfl) (pat_c _ W Hh _ xs (g1 (trL px py vx vy vd 0 most) i) (g2 (trL px py vx vy vd 0 most) i) ⟨_, _, _, rfl, by first | exact hb0pp _ | exact hbpp⟩ hV) ?_
      refine runTf g'19 ?_
      refine cond_split (fun h3 => ?_) (fun h3 => ?_)
      · have h3d := bsT h3
        have h3n := bnT h3
        have hst : fpA W Hh xs px py vx vy vd most (i + 1) = fpA W Hh xs px py vx vy vd most i := (fpA_s hlt).trans (fsStep_no (by unfold wlB; exact beq_eq_false_iff_ne.2 (by first | exact h3d | simpa using h3d)))
        have hs1 := hst
        have hs2 := hst
        have hs3 := hst
        have g'20 := (jn @h3 (jn @h3n (jn @int_bne (jn @int_beq g'19))))
        refine runTf g'20 ?_
        refine he17 _ _ _ ?_
        refine hb15 _ _ ?_
        refine hn14 _ _ ?_
        refine AW_fin true try_mixed (by kernel_rfl) ?_
        refine runTf g'20 ?_
        refine hJ0 _ _ ⟨k0 - 1, by omega, _, _, _, ⟨i + 1, by omega, rfl, rfl⟩, Abs.byG hbel [] rfl [0, 1, 2, 3, 4, 5, 6, 7] (by decide) ?_⟩
        exact absRf (jn @hst (jn @hs1 (jn @hs2 (jn @hs3 (jn @oX.eq_2 (jn @oY.eq_2 @Option.isSome_some.{0}))))))
      · have h3d := bsT h3
        have h3n := bnT h3
        have hat : atI W Hh xs (g1 (trL px py vx vy vd 0 most) i) (g2 (trL px py vx vy vd 0 most) i) = 2 := by first | exact h3d | simpa using h3d
        have hQ : wlB W Hh xs (g1 (trL px py vx vy vd 0 most) i, g2 (trL px py vx vy vd 0 most) i) = true := by unfold wlB; rw [hat]; rfl
        have g'21 := (jn @h3 (jn @h3n (jn @int_bne (jn @int_beq g'19))))
        refine runTf g'21 ?_
        refine hn17 _ _ ?_
        refine AW_seqQ fun Q18 hn18 hr18 he18 => ?_
        have hQ18 := fun F H' h => hr18 F H' (hQ15 F H' h)
        refine AW_fin true try_mixed (by kernel_rfl) ?_
        refine runTf g'21 ?_
        rcases Bool.eq_false_or_eq_true (sqO (g1 (trL px py vx vy vd 0 most) i) (g2 (trL px py vx vy vd 0 most) i)) with h4 | h4
        · have h4d := h4
          refine call_v (by kernel_rfl) (psqr_t _ (g1 (trL px py vx vy vd 0 most) i) (g2 (trL px py vx vy vd 0 most) i) (by assumption)) ?_
          have g'22 := (jn @h4 (jn @h4d g'21))
          refine runTf g'22 ?_
          refine hn18 _ _ ?_
          refine AW_seqQ fun Q19 hn19 hr19 he19 => ?_
          have hQ19 := fun F H' h => hr19 F H' (hQ15 F H' h)
          refine AW_fin true try_mixed (by kernel_rfl) ?_
          refine runTf g'22 ?_
          refine call_v (by kernel_rfl) (entC_t _ px py vx vy vd (g1 (trL px py vx vy vd 0 most) i) (g2 (trL px py vx vy vd 0 most) i) (by assumption)) ?_
          refine runTf g'22 ?_
          refine hn19 _ _ ?_
          refine AW_seqQ fun Q20 hn20 hr20 he20 => ?_
          have hQ20 := fun F H' h => hr20 F H' (hQ15 F H' h)
          refine AW_fin true try_mixed (by kernel_rfl) ?_
          refine runTf g'22 ?_
          refine gd_split (fun h5 => ?_) (fun h5 => ?_)
          · have h5d := bsT h5
            obtain ⟨bb, hbb⟩ := Option.isSome_iff_exists.1 h5d
            have hbm := fpA_mem hbb
            have hbo := me_on ((trL_iff (v := (vx, vy, vd)) (by omega) (by omega) hv ⟨hm.1, by omega⟩).1 hbm.1)
            have hbp := pe_bd (px := px) (py := py) (vx := vx) (vy := vy) (vd := vd) (c := bb) hbo.1
            have hbl : peN px py vx vy vd bb ≤ most * peD px py vx vy vd bb := hbo.2
            have hn1 : fpN px py vx vy vd (fpA W Hh xs px py vx vy vd most i) = peN px py vx vy vd bb := by rw [hbb]; rfl
            have hn2 : fpD px py vx vy vd (fpA W Hh xs px py vx vy vd most i) = peD px py vx vy vd bb := by rw [hbb]; rfl
            have hsm := h5d
            have hb9 : 0 ≤ fpN px py vx vy vd (fpA W Hh xs px py vx vy vd most i) ∧ fpN px py vx vy vd (fpA W Hh xs px py vx vy vd most i) ≤ 70866960384 := by rw [hn1]; have q := Int.mul_le_mul hm.2 hbp.2.2.1 (Int.le_of_lt hbp.2.1) (by decide); omega
            have hb8 : 0 ≤ fpD px py vx vy vd (fpA W Hh xs px py vx vy vd most i) ∧ fpD px py vx vy vd (fpA W Hh xs px py vx vy vd most i) ≤ 67108864 := by rw [hn2]; omega
            have hm8 := mul_bd (a := peN px py vx vy vd (g1 (trL px py vx vy vd 0 most) i, g2 (trL px py vx vy vd 0 most) i)) (b := fpD px py vx vy vd (fpA W Hh xs px py vx vy vd most i)) (A := 70866960384) (B := 67108864) (by omega) (by omega)
            have hm9 := mul_bd (a := fpN px py vx vy vd (fpA W Hh xs px py vx vy vd most i)) (b := peD px py vx vy vd (g1 (trL px py vx vy vd 0 most) i, g2 (trL px py vx vy vd 0 most) i)) (A := 70866960384) (B := 67108864) (by omega) (by omega)
            have g'23 := (jn @h5 (jn @h5d g'22))
            refine runTf g'23 ?_
            refine hn20 _ _ ?_
            refine AW_cond (decide (((peN px py vx vy vd (g1 (trL px py vx vy vd 0 most) i, g2 (trL px py vx vy vd 0 most) i)) * (fpD px py vx vy vd (fpA W Hh xs px py vx vy vd most i))) < ((fpN px py vx vy vd (fpA W Hh xs px py vx vy vd most i)) * (peD px py vx vy vd (g1 (trL px py vx vy vd 0 most) i, g2 (trL px py vx vy vd 0 most) i))))) (by rfl) (fun h6 => ?_) (fun h6 => ?_)
            · have h6d := bsT h6
              have hst : fpA W Hh xs px py vx vy vd most (i + 1) = some (g1 (trL px py vx vy vd 0 most) i, g2 (trL px py vx vy vd 0 most) i) := (fpA_s hlt).trans (by rw [hbb]; exact fsStep_less hQ (show peN px py vx vy vd (g1 (trL px py vx vy vd 0 most) i, g2 (trL px py vx vy vd 0 most) i) * peD px py vx vy vd bb < peN px py vx vy vd bb * peD px py vx vy vd (g1 (trL px py vx vy vd 0 most) i, g2 (trL px py vx vy vd 0 most) i) by rw [← hn1, ← hn2]; exact h6d))
              have hs1 := @fpN_some px py vx vy vd (g1 (trL px py vx vy vd 0 most) i, g2 (trL px py vx vy vd 0 most) i)
              have hs2 := @fpD_some px py vx vy vd (g1 (trL px py vx vy vd 0 most) i, g2 (trL px py vx vy vd 0 most) i)
              have hs3 := hst
              refine AW_special1 true try_mixed [[0, 1, 2, 3, 4], [0, 2, 1, 3, 4]] (by kernel_rfl) (fun F2 H2 => F2 = [(4, .ptr (some (H.length, 0))), (5, .ptr (some (H.length + 1, 0))), (6, .ptr (some (H.length + 2, 0))), (8, .ptr (some (H.length + 3, 0))), (9, .ptr (some (H.length + 4, 0))), (13, .ptr (some (H.length + 6, 0))), (14, .ptr (some (H.length + 7, 0))), (15, .bool true), (39, .sl (some (H.length + 5, 0)) ((trL px py vx vy vd 0 most).length) (capG (trL px py vx vy vd 0 most).length)), (40, .int .i64 (((trL px py vx vy vd 0 most).length : Nat) : Int)), (41, .int .i64 ((i : Nat) : Int))] ∧ H2 = H ++ [.cells true 0 [.int .i64 W, .int .i64 Hh, .sl (some (bpp, 0)) xs.length cpp], .cells true 0 [.int .i64 px, .int .i64 py], .cells true 0 [.int .i64 vx, .int .i64 vy, .int .i64 vd], .cells true 0 [.int .i64 0, .int .i64 0], .cells true 0 [.int .i64 0, .int .i64 0], .cells (ownG (trL px py vx vy vd 0 most).length) 2 (prs (trL px py vx vy vd 0 most)), .cells true 0 [.int .i64 (peN px py vx vy vd (g1 (trL px py vx vy vd 0 most) i, g2 (trL px py vx vy vd 0 most) i)), .int .i64 (peD px py vx vy vd (g1 (trL px py vx vy vd 0 most) i, g2 (trL px py vx vy vd 0 most) i))], .cells true 0 [.int .i64 (g1 (trL px py vx vy vd 0 most) i), .int .i64 (g2 (trL px py vx vy vd 0 most) i)]]) ?_ ?_
              · refine reps_cons ?_ (reps_cons ?_ (reps_nil)) <;> intro J hJ
                · skip
                  have g'24 := (jn @h6 (jn @h6d g'23))
                  refine runDf g'24 ?_
                  refine inv_of (hJ _ _ ⟨_, _, _, ⟨rfl, rfl⟩, Abs.byG hbel [] rfl [0, 1, 2, 3, 4, 5, 6, 7] (by decide) ?_⟩)
                  exact absR
                · skip
                  have g'25 := (jn @h6 (jn @h6d g'23))
                  refine runDf g'25 ?_
                  refine inv_of (hJ _ _ ⟨_, _, _, ⟨rfl, rfl⟩, Abs.byG hbel [] rfl [0, 1, 2, 3, 4, 5, 6, 7] (by decide) ?_⟩)
                  exact absR
              rintro F2 H2 ⟨rfl, rfl⟩
              refine hn15 _ _ ?_
              refine hn14 _ _ ?_
              refine AW_fin true try_mixed (by kernel_rfl) ?_
              have g'26 := (jn @h6 (jn @h6d g'23))
              refine runTf g'26 ?_
              refine hJ0 _ _ ⟨k0 - 1, by omega, _, _, _, ⟨i + 1, by omega, rfl, rfl⟩, Abs.byG hbel [] rfl [0, 1, 2, 3, 4, 5, 6, 7] (by decide) ?_⟩
              exact absRf (jn @hst (jn @hs1 (jn @hs2 (jn @hs3 (jn @oX.eq_2 (jn @oY.eq_2 @Option.isSome_some.{0}))))))
            · have h6d := bsT h6
              have hst : fpA W Hh xs px py vx vy vd most (i + 1) = fpA W Hh xs px py vx vy vd most i := (fpA_s hlt).trans (by rw [hbb]; exact fsStep_far (show ¬ peN px py vx vy vd (g1 (trL px py vx vy vd 0 most) i, g2 (trL px py vx vy vd 0 most) i) * peD px py vx vy vd bb < peN px py vx vy vd bb * peD px py vx vy vd (g1 (trL px py vx vy vd 0 most) i, g2 (trL px py vx vy vd 0 most) i) by rw [← hn1, ← hn2]; exact h6d))
              have hs1 := hst
              have hs2 := hst
              have hs3 := hsm
              refine AW_fin true try_mixed (by kernel_rfl) ?_
              have g'27 := (jn @h6 (jn @h6d g'23))
              refine runTf g'27 ?_
              refine hn15 _ _ ?_
              refine hn14 _ _ ?_
              refine AW_fin true try_mixed (by kernel_rfl) ?_
              refine runTf g'27 ?_
              refine hJ0 _ _ ⟨k0 - 1, by omega, _, _, _, ⟨i + 1, by omega, rfl, rfl⟩, Abs.byG hbel [] rfl [0, 1, 2, 3, 4, 5, 6, 7] (by decide) ?_⟩
              exact absRf (jn @hst (jn @hs1 (jn @hs2 (jn @hs3 (jn @oX.eq_2 (jn @oY.eq_2 @Option.isSome_some.{0}))))))
          · have h5d := bsT h5
            have hnn : fpA W Hh xs px py vx vy vd most i = none := by simpa using h5d
            have hst : fpA W Hh xs px py vx vy vd most (i + 1) = some (g1 (trL px py vx vy vd 0 most) i, g2 (trL px py vx vy vd 0 most) i) := (fpA_s hlt).trans (by rw [hnn]; exact fsStep_new hQ)
            have hs1 := @fpN_some px py vx vy vd (g1 (trL px py vx vy vd 0 most) i, g2 (trL px py vx vy vd 0 most) i)
            have hs2 := @fpD_some px py vx vy vd (g1 (trL px py vx vy vd 0 most) i, g2 (trL px py vx vy vd 0 most) i)
            have hs3 := hst
            have g'28 := (jn @h5 (jn @h5d g'22))
            refine runTf g'28 ?_
            refine hn20 _ _ ?_
            refine AW_cond true (by rfl) (fun h => ?_) (fun h => by cases h)
            refine AW_special1 true try_mixed [[0, 1, 2, 3, 4], [0, 2, 1, 3, 4]] (by kernel_rfl) (fun F2 H2 => F2 = [(4, .ptr (some (H.length, 0))), (5, .ptr (some (H.length + 1, 0))), (6, .ptr (some (H.length + 2, 0))), (8, .ptr (some (H.length + 3, 0))), (9, .ptr (some (H.length + 4, 0))), (13, .ptr (some (H.length + 6, 0))), (14, .ptr (some (H.length + 7, 0))), (15, .bool true), (39, .sl (some (H.length + 5, 0)) ((trL px py vx vy vd 0 most).length) (capG (trL px py vx vy vd 0 most).length)), (40, .int .i64 (((trL px py vx vy vd 0 most).length : Nat) : Int)), (41, .int .i64 ((i : Nat) : Int))] ∧ H2 = H ++ [.cells true 0 [.int .i64 W, .int .i64 Hh, .sl (some (bpp, 0)) xs.length cpp], .cells true 0 [.int .i64 px, .int .i64 py], .cells true 0 [.int .i64 vx, .int .i64 vy, .int .i64 vd], .cells true 0 [.int .i64 0, .int .i64 0], .cells true 0 [.int .i64 0, .int .i64 0], .cells (ownG (trL px py vx vy vd 0 most).length) 2 (prs (trL px py vx vy vd 0 most)), .cells true 0 [.int .i64 (peN px py vx vy vd (g1 (trL px py vx vy vd 0 most) i, g2 (trL px py vx vy vd 0 most) i)), .int .i64 (peD px py vx vy vd (g1 (trL px py vx vy vd 0 most) i, g2 (trL px py vx vy vd 0 most) i))], .cells true 0 [.int .i64 (g1 (trL px py vx vy vd 0 most) i), .int .i64 (g2 (trL px py vx vy vd 0 most) i)]]) ?_ ?_
            · refine reps_cons ?_ (reps_cons ?_ (reps_nil)) <;> intro J hJ
              · skip
                refine runDf g'28 ?_
                refine inv_of (hJ _ _ ⟨_, _, _, ⟨rfl, rfl⟩, Abs.byG hbel [] rfl [0, 1, 2, 3, 4, 5, 6, 7] (by decide) ?_⟩)
                exact absR
              · skip
                refine runDf g'28 ?_
                refine inv_of (hJ _ _ ⟨_, _, _, ⟨rfl, rfl⟩, Abs.byG hbel [] rfl [0, 1, 2, 3, 4, 5, 6, 7] (by decide) ?_⟩)
                exact absR
            rintro F2 H2 ⟨rfl, rfl⟩
            refine hn15 _ _ ?_
            refine hn14 _ _ ?_
            refine AW_fin true try_mixed (by kernel_rfl) ?_
            refine runTf g'28 ?_
            refine hJ0 _ _ ⟨k0 - 1, by omega, _, _, _, ⟨i + 1, by omega, rfl, rfl⟩, Abs.byG hbel [] rfl [0, 1, 2, 3, 4, 5, 6, 7] (by decide) ?_⟩
            exact absRf (jn @hst (jn @hs1 (jn @hs2 (jn @hs3 (jn @oX.eq_2 (jn @oY.eq_2 @Option.isSome_some.{0}))))))
        · have h4d := h4
          exact absurd (hsq.symm.trans h4d) (by decide)
    · have h1d := bsT h1
      obtain rfl : i = (trL px py vx vy vd 0 most).length := by omega
      have g'29 := (jn @h1 (jn @h1d g'17))
      refine runTf g'29 ?_
      refine he13 _ _ _ ?_
      refine he11 _ _ _ ?_
      refine hb10 _ _ ?_
      refine hn8 _ _ ?_
      refine AW_special true try_mixed [[0, 1, 2, 3, 4, 5], [0, 2, 3, 1, 4, 5]] (by kernel_rfl) (fun F2 H2 => F2 = [(8, .ptr (some (H.length, 0))), (9, .ptr (some (H.length + 1, 0))), (10, .bool ((fpA W Hh xs px py vx vy vd most (trL px py vx vy vd 0 most).length).isSome))] ∧ H2 = H ++ [.cells true 0 [.int .i64 (fpN px py vx vy vd (fpA W Hh xs px py vx vy vd most (trL px py vx vy vd 0 most).length)), .int .i64 (fpD px py vx vy vd (fpA W Hh xs px py vx vy vd most (trL px py vx vy vd 0 most).length))], .cells true 0 [.int .i64 (oX (fpA W Hh xs px py vx vy vd most (trL px py vx vy vd 0 most).length)), .int .i64 (oY (fpA W Hh xs px py vx vy vd most (trL px py vx vy vd 0 most).length))]]) ?_ ?_
      · refine reps_cons ?_ (reps_cons ?_ (reps_nil)) <;> intro J hJ
        · skip
          refine runDf g'29 ?_
          refine inv_of (hJ _ _ ⟨_, _, _, ⟨rfl, rfl⟩, Abs.byG hbel [] rfl [3, 4] (by decide) ?_⟩)
          exact absW
        · skip
          refine runDf g'29 ?_
          refine inv_of (hJ _ _ ⟨_, _, _, ⟨rfl, rfl⟩, Abs.byG hbel [] rfl [3, 4] (by decide) ?_⟩)
          exact absW
      rintro F2 H2 ⟨rfl, rfl⟩
      refine AW_fin true try_mixed (by kernel_rfl) ?_
      refine runTf g'29 ?_
      exact hQ _ _ (end_plain (.inl rfl) hbel (x := .tup [.agg [.int .i64 (fpN px py vx vy vd (fpA W Hh xs px py vx vy vd most (trL px py vx vy vd 0 most).length)), .int .i64 (fpD px py vx vy vd (fpA W Hh xs px py vx vy vd most (trL px py vx vy vd 0 most).length))], .agg [.int .i64 (oX (fpA W Hh xs px py vx vy vd most (trL px py vx vy vd 0 most).length)), .int .i64 (oY (fpA W Hh xs px py vx vy vd most (trL px py vx vy vd 0 most).length))], .bool ((fpA W Hh xs px py vx vy vd most (trL px py vx vy vd 0 most).length).isSome)]) (resT Tryz.results286) rfl ⟨rfl, rfl⟩)
theorem firstk_c (H : AHeap) (W Hh : Int) (pp : AV) (xs : List Int) (x y h m most : Int) (hpp : Sl H 1 pp xs.length (ints .u8 xs)) (hi : inpB W Hh xs x y = true) (hm : 0 ≤ most ∧ most ≤ 1056) : ACalls Tryz.prog 286 [.agg [.int .i64 W, .int .i64 Hh, pp], .agg [.int .i64 x, .int .i64 y], .agg [.int .i64 (beamV h m).1, .int .i64 (beamV h m).2.1, .int .i64 (beamV h m).2.2], .int .i64 most] H (fun v H' => v = .tup [.agg [.int .i64 (lkN W Hh xs x y h m most), .int .i64 (lkD W Hh xs x y h m most)], .agg [.int .i64 (oX (lkS W Hh xs x y h m most)), .int .i64 (oY (lkS W Hh xs x y h m most))], .bool (lkS W Hh xs x y h m most).isSome] ∧ H' = H) :=
  first_c H W Hh pp xs x y (beamV h m).1 (beamV h m).2.1 (beamV h m).2.2 most hpp hi (beam_ok _ _) hm
open Go.RowKit
open Go.RowKit
theorem look_c (H : AHeap) (W : Int) (Hh : Int) (pp : AV) (xs : List Int) (x : Int) (y : Int) (h : Int) (m : Int) (most : Int) (hpp : Sl H 1 pp xs.length (ints .u8 xs)) (hip : inpB W Hh xs x y = true) (hm : 0 ≤ most ∧ most ≤ 1056) : ACalls Tryz.prog 219 [.agg [.int .i64 W, .int .i64 Hh, pp], .agg [.int .i64 x, .int .i64 y, .int .i64 h], .int .i64 m, .int .i64 most] H (fun v H' => v = .tup [.agg [.int .i64 (lkN W Hh xs x y h m most), .int .i64 (lkD W Hh xs x y h m most)], .bool ((lkS W Hh xs x y h m most).isSome)] ∧ H' = H) := by
  obtain ⟨bpp, opp, cpp, rfl, hbpp⟩ := hpp
  have hblpp := getElem?_lt hbpp
  have hb0pp := fun l => get_app (l := l) hbpp
  (refine ACalls_pieces Tryz.func219 _ rfl (Nat.le_of_ble_eq_true (by kernel_rfl)) rfl ?_; intro hbel Q hQ hQ' c hc; unfold Tryz.f219 at hc; simp only [Option.some.injEq] at hc; subst hc; clear hQ')
  refine AW_seqQ fun Q1 hn1 hr1 he1 => ?_
  have hQ1 := fun F H' h => hr1 F H' (hQ F H' h)
  refine AW_fin true try_mixed (by kernel_rfl) ?_
  have g'1 := (jn @hbpp @hb0pp)
  refine runTf g'1 ?_
  refine hn1 _ _ ?_
  refine AW_special true try_mixed [[0, 1, 2, 3, 4, 5, 6, 7, 8, 9, 10, 11, 12, 13, 14, 15, 16, 17, 18, 19, 20], [0, 1, 2, 3, 4, 5, 6, 7, 8, 9, 10, 11, 12, 13, 14, 15, 17, 16, 18, 19, 20], [0, 1, 2, 3, 4, 5, 6, 7, 8, 9, 10, 17, 11, 12, 13, 14, 15, 16, 18, 19, 20], [0, 1, 2, 3, 4, 5, 6, 7, 8, 10, 17, 9, 11, 12, 13, 14, 15, 16, 18, 19, 20], [0, 1, 2, 3, 4, 5, 6, 7, 8, 9, 10, 16, 11, 12, 13, 14, 15, 17, 18, 19, 20], [0, 1, 2, 3, 4, 5, 6, 7, 8, 9, 10, 16, 17, 11, 12, 13, 14, 15, 18, 19, 20], [0, 1, 2, 3, 4, 5, 6, 7, 8, 9, 10, 17, 16, 11, 12, 13, 14, 15, 18, 19, 20], [0, 1, 2, 3, 4, 5, 6, 7, 8, 10, 17, 9, 16, 11, 12, 13, 14, 15, 18, 19, 20], [0, 1, 2, 3, 4, 5, 6, 7, 8, 10, 16, 9, 11, 12, 13, 14, 15, 17, 18, 19, 20], [0, 1, 2, 3, 4, 5, 6, 7, 8, 10, 16, 9, 17, 11, 12, 13, 14, 15, 18, 19, 20], [0, 1, 2, 3, 4, 5, 6, 7, 8, 10, 16, 17, 9, 11, 12, 13, 14, 15, 18, 19, 20], [0, 1, 2, 3, 4, 5, 6, 7, 8, 10, 17, 16, 9, 11, 12, 13, 14, 15, 18, 19, 20]] (by kernel_rfl) (fun F2 H2 => F2 = [(8, .ptr (some (H.length, 0))), (9, .bool false), (10, .ptr (some (H.length + 1, 0))), (12, .bool ((lkS W Hh xs x y h m most).isSome))] ∧ H2 = H ++ [.cells true 0 [.int .i64 0, .int .i64 0], .cells true 0 [.int .i64 (lkN W Hh xs x y h m most), .int .i64 (lkD W Hh xs x y h m most)]]) ?_ ?_
  · refine reps_cons ?_ (reps_cons ?_ (reps_cons ?_ (reps_cons ?_ (reps_cons ?_ (reps_cons ?_ (reps_cons ?_ (reps_cons ?_ (reps_cons ?_ (reps_cons ?_ (reps_cons ?_ (reps_cons ?_ (reps_nil)))))))))))) <;> intro J hJ
    · skip
      refine runDf g'1 ?_
      refine call_d (by kernel_rfl) (hbeam_c _ h m) ?_
      refine runDf g'1 ?_
      refine call_d (by kernel_rfl) (firstk_c _ W Hh _ xs x y h m most ⟨_, _, _, rfl, by first | exact hb0pp _ | exact hbpp⟩ hip (by omega)) ?_
      refine runDf g'1 ?_
      refine inv_of (hJ _ _ ⟨_, _, _, ⟨rfl, rfl⟩, Abs.byG hbel [] rfl [2, 3] (by decide) ?_⟩)
      exact absW
    · skip
      refine runDf g'1 ?_
      refine call_d (by kernel_rfl) (hbeam_c _ h m) ?_
      refine runDf g'1 ?_
      refine call_d (by kernel_rfl) (firstk_c _ W Hh _ xs x y h m most ⟨_, _, _, rfl, by first | exact hb0pp _ | exact hbpp⟩ hip (by omega)) ?_
      refine runDf g'1 ?_
      refine inv_of (hJ _ _ ⟨_, _, _, ⟨rfl, rfl⟩, Abs.byG hbel [] rfl [2, 4] (by decide) ?_⟩)
      exact absW
    · skip
      refine runDf g'1 ?_
      refine call_d (by kernel_rfl) (hbeam_c _ h m) ?_
      refine runDf g'1 ?_
      refine call_d (by kernel_rfl) (firstk_c _ W Hh _ xs x y h m most ⟨_, _, _, rfl, by first | exact hb0pp _ | exact hbpp⟩ hip (by omega)) ?_
      refine runDf g'1 ?_
      refine inv_of (hJ _ _ ⟨_, _, _, ⟨rfl, rfl⟩, Abs.byG hbel [] rfl [2, 4] (by decide) ?_⟩)
      exact absW
    · skip
      refine runDf g'1 ?_
      refine call_d (by kernel_rfl) (hbeam_c _ h m) ?_
      refine runDf g'1 ?_
      refine call_d (by kernel_rfl) (firstk_c _ W Hh _ xs x y h m most ⟨_, _, _, rfl, by first | exact hb0pp _ | exact hbpp⟩ hip (by omega)) ?_
      refine runDf g'1 ?_
      refine inv_of (hJ _ _ ⟨_, _, _, ⟨rfl, rfl⟩, Abs.byG hbel [] rfl [2, 4] (by decide) ?_⟩)
      exact absW
    · skip
      refine runDf g'1 ?_
      refine call_d (by kernel_rfl) (hbeam_c _ h m) ?_
      refine runDf g'1 ?_
      refine call_d (by kernel_rfl) (firstk_c _ W Hh _ xs x y h m most ⟨_, _, _, rfl, by first | exact hb0pp _ | exact hbpp⟩ hip (by omega)) ?_
      refine runDf g'1 ?_
      refine inv_of (hJ _ _ ⟨_, _, _, ⟨rfl, rfl⟩, Abs.byG hbel [] rfl [2, 3] (by decide) ?_⟩)
      exact absW
    · skip
      refine runDf g'1 ?_
      refine call_d (by kernel_rfl) (hbeam_c _ h m) ?_
      refine runDf g'1 ?_
      refine call_d (by kernel_rfl) (firstk_c _ W Hh _ xs x y h m most ⟨_, _, _, rfl, by first | exact hb0pp _ | exact hbpp⟩ hip (by omega)) ?_
      refine runDf g'1 ?_
      refine inv_of (hJ _ _ ⟨_, _, _, ⟨rfl, rfl⟩, Abs.byG hbel [] rfl [2, 3] (by decide) ?_⟩)
      exact absW
    · skip
      refine runDf g'1 ?_
      refine call_d (by kernel_rfl) (hbeam_c _ h m) ?_
      refine runDf g'1 ?_
      refine call_d (by kernel_rfl) (firstk_c _ W Hh _ xs x y h m most ⟨_, _, _, rfl, by first | exact hb0pp _ | exact hbpp⟩ hip (by omega)) ?_
      refine runDf g'1 ?_
      refine inv_of (hJ _ _ ⟨_, _, _, ⟨rfl, rfl⟩, Abs.byG hbel [] rfl [2, 4] (by decide) ?_⟩)
      exact absW
    · skip
      refine runDf g'1 ?_
      refine call_d (by kernel_rfl) (hbeam_c _ h m) ?_
      refine runDf g'1 ?_
      refine call_d (by kernel_rfl) (firstk_c _ W Hh _ xs x y h m most ⟨_, _, _, rfl, by first | exact hb0pp _ | exact hbpp⟩ hip (by omega)) ?_
      refine runDf g'1 ?_
      refine inv_of (hJ _ _ ⟨_, _, _, ⟨rfl, rfl⟩, Abs.byG hbel [] rfl [2, 4] (by decide) ?_⟩)
      exact absW
    · skip
      refine runDf g'1 ?_
      refine call_d (by kernel_rfl) (hbeam_c _ h m) ?_
      refine runDf g'1 ?_
      refine call_d (by kernel_rfl) (firstk_c _ W Hh _ xs x y h m most ⟨_, _, _, rfl, by first | exact hb0pp _ | exact hbpp⟩ hip (by omega)) ?_
      refine runDf g'1 ?_
      refine inv_of (hJ _ _ ⟨_, _, _, ⟨rfl, rfl⟩, Abs.byG hbel [] rfl [2, 3] (by decide) ?_⟩)
      exact absW
    · skip
      refine runDf g'1 ?_
      refine call_d (by kernel_rfl) (hbeam_c _ h m) ?_
      refine runDf g'1 ?_
      refine call_d (by kernel_rfl) (firstk_c _ W Hh _ xs x y h m most ⟨_, _, _, rfl, by first | exact hb0pp _ | exact hbpp⟩ hip (by omega)) ?_
      refine runDf g'1 ?_
      refine inv_of (hJ _ _ ⟨_, _, _, ⟨rfl, rfl⟩, Abs.byG hbel [] rfl [2, 3] (by decide) ?_⟩)
      exact absW
    · skip
      refine runDf g'1 ?_
      refine call_d (by kernel_rfl) (hbeam_c _ h m) ?_
      refine runDf g'1 ?_
      refine call_d (by kernel_rfl) (firstk_c _ W Hh _ xs x y h m most ⟨_, _, _, rfl, by first | exact hb0pp _ | exact hbpp⟩ hip (by omega)) ?_
      refine runDf g'1 ?_
      refine inv_of (hJ _ _ ⟨_, _, _, ⟨rfl, rfl⟩, Abs.byG hbel [] rfl [2, 3] (by decide) ?_⟩)
      exact absW
    · skip
      refine runDf g'1 ?_
      refine call_d (by kernel_rfl) (hbeam_c _ h m) ?_
      refine runDf g'1 ?_
      refine call_d (by kernel_rfl) (firstk_c _ W Hh _ xs x y h m most ⟨_, _, _, rfl, by first | exact hb0pp _ | exact hbpp⟩ hip (by omega)) ?_
      refine runDf g'1 ?_
      refine inv_of (hJ _ _ ⟨_, _, _, ⟨rfl, rfl⟩, Abs.byG hbel [] rfl [2, 4] (by decide) ?_⟩)
      exact absW
  rintro F2 H2 ⟨rfl, rfl⟩
  refine AW_fin true try_mixed (by kernel_rfl) ?_
  refine runTf g'1 ?_
  exact hQ _ _ (end_plain (.inl rfl) hbel (x := .tup [.agg [.int .i64 (lkN W Hh xs x y h m most), .int .i64 (lkD W Hh xs x y h m most)], .bool ((lkS W Hh xs x y h m most).isSome)]) (resT Tryz.results219) rfl ⟨rfl, rfl⟩)
theorem meas_c (H : AHeap) (W : Int) (Hh : Int) (pp : AV) (xs : List Int) (x : Int) (y : Int) (h : Int) (m : Int) (g : Int) (e : Int) (hpp : Sl H 1 pp xs.length (ints .u8 xs)) (hG : stdB W Hh xs x y h = true) (hg : 1 ≤ g ∧ g ≤ 32) : ACalls Tryz.prog 176 [.agg [.int .i64 W, .int .i64 Hh, pp], .agg [.int .i64 x, .int .i64 y, .int .i64 h], .int .i64 m, .int .i64 g, .int .i64 e] H (fun v H' => v = .tup [.int .i64 (mpV W Hh xs x y h g m e), .int .i64 (meaE m)] ∧ H' = H) := by
  obtain ⟨bpp, opp, cpp, rfl, hbpp⟩ := hpp
  have hblpp := getElem?_lt hbpp
  have hb0pp := fun l => get_app (l := l) hbpp
  have hgb : btw g 1 32 = true := btw_iff.2 hg
  have hip : inpB W Hh xs x y = true := by have q := hG; unfold stdB at q; rw [Bool.and_eq_true] at q; exact q.1
  have hxy := (inpB_iff.1 hip).2
  have hVV := vld_iff.1 (inpB_iff.1 hip).1
  have hw1 := hVV.w1
  have hh1 := hVV.h1
  have hcl := clpE_bd (e := e) hg.1
  have htd : ∀ a b : Int, 0 ≤ a → Int.tdiv a b = a / b := fun a b h => Int.tdiv_eq_ediv_of_nonneg h
  have ec1 : (if e < 1 - g then 1 - g else e) = clp1 e g := rfl
  have ec2 : (if g < clp1 e g then g else clp1 e g) = clpE e g := rfl
  have ez : (if (lkN W Hh xs x y h m 1024) / (lkD W Hh xs x y h m 1024) + clpE e g < 0 then 0 else (lkN W Hh xs x y h m 1024) / (lkD W Hh xs x y h m 1024) + clpE e g) = zpI W Hh xs x y h g m e := rfl
  refine AcT true Tryz.func176 ?_; intro hbel Q hQ
  have g'2 := (jn @hbpp (jn @hb0pp (jn @hG (jn @hgb (jn @htd (jn @ec1 (jn @ec2 @ez)))))))
  refine runTf g'2 ?_
  refine call_v (by kernel_rfl) (rpst_c _ W Hh _ xs x y h ⟨_, _, _, rfl, by first | exact hb0pp _ | exact hbpp⟩) ?_
  refine runTf g'2 ?_
  refine call_v (by kernel_rfl) (rwit_c _ g 1 32) ?_
  refine runTf g'2 ?_
  refine call_v (by kernel_rfl) (rwit_c _ m 0 255) ?_
  refine runTf g'2 ?_
  refine cond_split (fun h1 => ?_) (fun h1 => ?_)
  · have h1d := bsT h1
    have hfinM : mrkB m = false := h1d
    have g'3 := (jn @h1 (jn @h1d g'2))
    refine runTf g'3 ?_
    exact hQ _ _ (end_plain (.inl rfl) hbel (x := .tup [.int .i64 0, .int .i64 2]) (resT Tryz.results176) rfl ⟨by first | (unfold mpV meaE; rw [hfinM, hfinZ]; rfl) | (unfold mpV meaE; rw [hfinM]; rfl), rfl⟩)
  · have h1d := bsT h1
    have hfinM : mrkB m = true := by have q := btw_iff.1 h1d; unfold mrkB; rw [decide_eq_true q.1, decide_eq_true q.2]; rfl
    have g'4 := (jn @h1 (jn @h1d g'2))
    refine runTf g'4 ?_
    refine call_v (by kernel_rfl) (look_c _ W Hh _ xs x y h m 1024 ⟨_, _, _, rfl, by first | exact hb0pp _ | exact hbpp⟩ hip (by omega)) ?_
    refine runTf g'4 ?_
    refine cond_split (fun h2 => ?_) (fun h2 => ?_)
    · have h2d := bsT h2
      have hfinZ : mpZ W Hh xs x y h g m e = -1 := by unfold mpZ; rw [h2d]; rfl
      have g'5 := (jn @h2 (jn @h2d g'4))
      refine runTf g'5 ?_
      exact hQ _ _ (end_plain (.inl rfl) hbel (x := .tup [.int .i64 (-1), .int .i64 0]) (resT Tryz.results176) rfl ⟨by first | (unfold mpV meaE; rw [hfinM, hfinZ]; rfl) | (unfold mpV meaE; rw [hfinM]; rfl), rfl⟩)
    · have h2d := bsT h2
      obtain ⟨bb, hbb⟩ := Option.isSome_iff_exists.1 h2d
      have hbd0 := lk_bd (by omega) (by omega) (by omega) hbb
      have hdn := Int.ediv_nonneg hbd0.1.1 (show 0 ≤ lkD W Hh xs x y h m 1024 by omega)
      have hdl : lkN W Hh xs x y h m 1024 / lkD W Hh xs x y h m 1024 ≤ lkN W Hh xs x y h m 1024 := Int.ediv_le_self _ hbd0.1.1
      have hfinS := h2d
      have g'6 := (jn @h2 (jn @h2d g'4))
      refine runTf g'6 ?_
      refine cond_split (fun h3 => ?_) (fun h3 => ?_)
      · have h3d := bsT h3
        have hz1 : 1024 < zpI W Hh xs x y h g m e := h3d
        have hfinZ : mpZ W Hh xs x y h g m e = -1 := by unfold mpZ; rw [if_pos hfinS, if_pos hz1]
        have g'7 := (jn @h3 (jn @h3d g'6))
        refine runTf g'7 ?_
        exact hQ _ _ (end_plain (.inl rfl) hbel (x := .tup [.int .i64 (-1), .int .i64 0]) (resT Tryz.results176) rfl ⟨by first | (unfold mpV meaE; rw [hfinM, hfinZ]; rfl) | (unfold mpV meaE; rw [hfinM]; rfl), rfl⟩)
      · have h3d := bsT h3
        have hz1 : ¬ 1024 < zpI W Hh xs x y h g m e := by first | exact h3d | exact Int.not_lt.2 h3d
        have hfinZ : mpZ W Hh xs x y h g m e = zpI W Hh xs x y h g m e := by unfold mpZ; rw [if_pos hfinS, if_neg hz1]
        have g'8 := (jn @h3 (jn @h3d g'6))
        refine runTf g'8 ?_
        exact hQ _ _ (end_plain (.inl rfl) hbel (x := .tup [.int .i64 (zpI W Hh xs x y h g m e), .int .i64 0]) (resT Tryz.results176) rfl ⟨by first | (unfold mpV meaE; rw [hfinM, hfinZ]; rfl) | (unfold mpV meaE; rw [hfinM]; rfl), rfl⟩)
theorem raysw_c (H : AHeap) (W : Int) (Hh : Int) (pp : AV) (xs : List Int) (x : Int) (y : Int) (h : Int) (mk : AV) (mks : List Int) (g : Int) (er : AV) (ers : List Int) (hpp : Sl H 1 pp xs.length (ints .u8 xs)) (hmk : Sl H 1 mk mks.length (ints .i64 mks)) (her : Sl H 1 er ers.length (ints .i64 ers)) (hG : stdB W Hh xs x y h = true) (hg : 1 ≤ g ∧ g ≤ 32) (hle : ers.length ≤ 9223372036854775807) : ACalls Tryz.prog 90 [.agg [.int .i64 W, .int .i64 Hh, pp], .agg [.int .i64 x, .int .i64 y, .int .i64 h], mk, .int .i64 g, er] H (fun v H' => v = .tup [.sl (some (H.length, 0)) ((spL W Hh xs x y h g mks ers).length) (capG (spL W Hh xs x y h g mks ers).length), .int .i64 (swpE mks)] ∧ H' = H ++ [.cells (ownG (spL W Hh xs x y h g mks ers).length) 2 (prs (spL W Hh xs x y h g mks ers))]) := by
  obtain ⟨bpp, opp, cpp, rfl, hbpp⟩ := hpp
  have hblpp := getElem?_lt hbpp
  have hb0pp := fun l => get_app (l := l) hbpp
  obtain ⟨bmk, omk, cmk, rfl, hbmk⟩ := hmk
  have hblmk := getElem?_lt hbmk
  have hb0mk := fun l => get_app (l := l) hbmk
  obtain ⟨ber, oer, cer, rfl, hber⟩ := her
  have hbler := getElem?_lt hber
  have hb0er := fun l => get_app (l := l) hber
  refine AcT false Tryz.func90 ?_; intro hbel Q hQ
  have g'9 := (jn @hbpp (jn @hb0pp (jn @hbmk (jn @hb0mk (jn @hber @hb0er)))))
  refine runTf g'9 ?_
  refine cond_split (fun h1 => ?_) (fun h1 => ?_)
  · have h1d := bsT h1
    have hfinE := swpE_6 (show 32 < mks.length by omega)
    have hfinL := spL_n (W := W) (Hh := Hh) (xs := xs) (x := x) (y := y) (h := h) (g := g) (ers := ers) (show ¬ swpE mks = 0 by rw [hfinE]; decide)
    have g'10 := (jn @h1 (jn @h1d g'9))
    refine runTf g'10 ?_
    refine hQ _ _ (end_byG (.inl rfl) hbel (x1 := .tup [.sl none 0 (some 0), .int .i64 6]) (l2 := [.cells false 2 []]) (.tup [.sl (some (H.length, 0)) 0 (some 0), .int .i64 6]) (resT Tryz.results90) [.cells false 2 []] rfl [2] (by decide) ⟨by first | (rw [hfinE, hfinL]; done) | (rw [hfinE, hfinL]; rfl) | (rw [hfinE, hfinL, hfinM]; rfl), by first | (rw [hfinL]; done) | (rw [hfinL]; rfl)⟩ ?_)
    exact absW
  · have h1d := bsT h1
    have hl32 : ¬ 32 < mks.length := by omega
    have g'11 := (jn @h1 (jn @h1d g'9))
    refine runTf g'11 ?_
    refine go_loop try_mixed (by kernel_rfl) (fun k F Hx => ∃ i : Nat, i + k = mks.length ∧ (∀ j : Nat, j < i → mrkB (gi mks j) = true) ∧ F = [(3, .int .i64 g), (4, .sl (some (ber, 0)) ers.length cer), (5, .ptr (some (H.length, 0))), (6, .ptr (some (H.length + 1, 0))), (12, .sl (some (H.length + 2, 0)) ((spB W Hh xs x y h g mks ers i).length) (capG (spB W Hh xs x y h g mks ers i).length)), (21, .sl (some (bmk, 0)) mks.length cmk), (22, .int .i64 ((mks.length : Nat) : Int)), (23, .int .i64 ((i : Nat) : Int))] ∧ Hx = H ++ [.cells true 0 [.int .i64 W, .int .i64 Hh, .sl (some (bpp, 0)) xs.length cpp], .cells true 0 [.int .i64 x, .int .i64 y, .int .i64 h], .cells (ownG (spB W Hh xs x y h g mks ers i).length) 2 (prs (spB W Hh xs x y h g mks ers i))]) (mks.length) ?_ ?_
    · refine ⟨_, _, _, ⟨0, by omega, (fun j h => by omega), rfl, rfl⟩, Abs.byG hbel [.cells false 2 []] rfl [0, 1, 2] (by decide) ?_⟩
      exact absRf @spB.eq_1
    · rintro k0 F Hx ⟨i, hm0, hal, rfl, rfl⟩ J0 hJ0
      have g'12 := (jn @prs_len (jn @prs_one g'11))
      refine runTf g'12 ?_
      refine cond_split (fun h2 => ?_) (fun h2 => ?_)
      · have h2d := bsT h2
        have hlt : i < mks.length := by omega
        have hbl := spB_len (W := W) (Hh := Hh) (xs := xs) (x := x) (y := y) (h := h) (g := g) (mks := mks) (ers := ers) i
        have q3 := ints_get (k := .i64) (xs := mks) (j := i) (by omega)
        have g'13 := (jn @h2 (jn @h2d (jn @q3 g'12)))
        refine runTf g'13 ?_
        refine cond_split (fun h4 => ?_) (fun h4 => ?_)
        · have h4d := bsT h4
          have hsg : gi ers i = gi ers i := rfl
          have q5 := ints_get (k := .i64) (xs := ers) (j := i) (by omega)
          have g'14 := (jn @h4 (jn @h4d (jn @q5 g'13)))
          refine runTf g'14 ?_
          refine call_v (by kernel_rfl) (meas_c _ W Hh _ xs x y h (gi mks i) g (gi ers i) ⟨_, _, _, rfl, by first | exact hb0pp _ | exact hbpp⟩ hG hg) ?_
          refine runTf g'14 ?_
          refine cond_split (fun h6 => ?_) (fun h6 => ?_)
          · have h6d := bsT h6
            have h6n := bnT h6
            have hmf : mrkB (gi mks i) = false := by
              cases q : mrkB (gi mks i)
              · rfl
              · exact absurd (show meaE (gi mks i) = 0 by unfold meaE; rw [q]; rfl) (by first | exact h6d | simpa using h6d)
            have hfinE := swpE_2 hl32 hlt hmf
            have hfinM : meaE (gi mks i) = 2 := by unfold meaE; rw [hmf]; rfl
            have hfinL := spL_n (W := W) (Hh := Hh) (xs := xs) (x := x) (y := y) (h := h) (g := g) (ers := ers) (show ¬ swpE mks = 0 by rw [hfinE]; decide)
            have g'15 := (jn @h6 (jn @h6n (jn @int_bne (jn @int_beq g'14))))
            refine runTf g'15 ?_
            refine hQ _ _ (end_byG (.inl rfl) hbel (x1 := .tup [.sl none 0 (some 0), .int .i64 (meaE (gi mks i))]) (l2 := [.cells false 2 []]) (.tup [.sl (some (H.length, 0)) 0 (some 0), .int .i64 (meaE (gi mks i))]) (resT Tryz.results90) [.cells false 2 []] rfl [3] (by decide) ⟨by first | (rw [hfinE, hfinL]; done) | (rw [hfinE, hfinL]; rfl) | (rw [hfinE, hfinL, hfinM]; rfl), by first | (rw [hfinL]; done) | (rw [hfinL]; rfl)⟩ ?_)
            exact absW
          · have h6d := bsT h6
            have h6n := bnT h6
            have hmt : mrkB (gi mks i) = true := by
              cases q : mrkB (gi mks i)
              · exact absurd (show ¬ meaE (gi mks i) = 0 by unfold meaE; rw [q]; decide) (not_not_intro (by first | exact h6d | simpa using h6d))
              · rfl
            have hmv : ∀ e : Int, mpV W Hh xs x y h g (gi mks i) e = mpZ W Hh xs x y h g (gi mks i) e := fun e => if_pos hmt
            have hst : spB W Hh xs x y h g mks ers (i + 1) = spB W Hh xs x y h g mks ers i ++ [(gi mks i, mpZ W Hh xs x y h g (gi mks i) (gi ers i))] := rfl
            have g'16 := (jn @h6 (jn @h6n (jn @int_bne (jn @int_beq (jn @capG_s g'14)))))
            refine runTf g'16 ?_
            refine hJ0 _ _ ⟨k0 - 1, by omega, _, _, _, ⟨i + 1, by omega, fun j hj => by
                        rcases Nat.lt_or_ge j i with h | h
                        · exact hal j h
                        · rw [show j = i by omega]; exact hmt, rfl, rfl⟩, Abs.byG hbel [] rfl [0, 1, 4] (by decide) ?_⟩
            exact absRf (jn @hst (jn @hsg @hmv))
        · have h4d := bsT h4
          have hsg : gi ers i = 0 := gi_out (by omega)
          have g'17 := (jn @h4 (jn @h4d g'13))
          refine runTf g'17 ?_
          refine call_v (by kernel_rfl) (meas_c _ W Hh _ xs x y h (gi mks i) g 0 ⟨_, _, _, rfl, by first | exact hb0pp _ | exact hbpp⟩ hG hg) ?_
          refine runTf g'17 ?_
          refine cond_split (fun h7 => ?_) (fun h7 => ?_)
          · have h7d := bsT h7
            have h7n := bnT h7
            have hmf : mrkB (gi mks i) = false := by
              cases q : mrkB (gi mks i)
              · rfl
              · exact absurd (show meaE (gi mks i) = 0 by unfold meaE; rw [q]; rfl) (by first | exact h7d | simpa using h7d)
            have hfinE := swpE_2 hl32 hlt hmf
            have hfinM : meaE (gi mks i) = 2 := by unfold meaE; rw [hmf]; rfl
            have hfinL := spL_n (W := W) (Hh := Hh) (xs := xs) (x := x) (y := y) (h := h) (g := g) (ers := ers) (show ¬ swpE mks = 0 by rw [hfinE]; decide)
            have g'18 := (jn @h7 (jn @h7n (jn @int_bne (jn @int_beq g'17))))
            refine runTf g'18 ?_
            refine hQ _ _ (end_byG (.inl rfl) hbel (x1 := .tup [.sl none 0 (some 0), .int .i64 (meaE (gi mks i))]) (l2 := [.cells false 2 []]) (.tup [.sl (some (H.length, 0)) 0 (some 0), .int .i64 (meaE (gi mks i))]) (resT Tryz.results90) [.cells false 2 []] rfl [3] (by decide) ⟨by first | (rw [hfinE, hfinL]; done) | (rw [hfinE, hfinL]; rfl) | (rw [hfinE, hfinL, hfinM]; rfl), by first | (rw [hfinL]; done) | (rw [hfinL]; rfl)⟩ ?_)
            exact absW
          · have h7d := bsT h7
            have h7n := bnT h7
            have hmt : mrkB (gi mks i) = true := by
              cases q : mrkB (gi mks i)
              · exact absurd (show ¬ meaE (gi mks i) = 0 by unfold meaE; rw [q]; decide) (not_not_intro (by first | exact h7d | simpa using h7d))
              · rfl
            have hmv : ∀ e : Int, mpV W Hh xs x y h g (gi mks i) e = mpZ W Hh xs x y h g (gi mks i) e := fun e => if_pos hmt
            have hst : spB W Hh xs x y h g mks ers (i + 1) = spB W Hh xs x y h g mks ers i ++ [(gi mks i, mpZ W Hh xs x y h g (gi mks i) (gi ers i))] := rfl
            have g'19 := (jn @h7 (jn @h7n (jn @int_bne (jn @int_beq (jn @capG_s g'17)))))
            refine runTf g'19 ?_
            refine hJ0 _ _ ⟨k0 - 1, by omega, _, _, _, ⟨i + 1, by omega, fun j hj => by
                        rcases Nat.lt_or_ge j i with h | h
                        · exact hal j h
                        · rw [show j = i by omega]; exact hmt, rfl, rfl⟩, Abs.byG hbel [] rfl [0, 1, 4] (by decide) ?_⟩
            exact absRf (jn @hst (jn @hsg @hmv))
      · have h2d := bsT h2
        obtain rfl : i = mks.length := by omega
        have hfinE := swpE_0 hl32 hal
        have hfinL := spL_y (W := W) (Hh := Hh) (xs := xs) (x := x) (y := y) (h := h) (g := g) (ers := ers) hfinE
        have g'20 := (jn @h2 (jn @h2d g'12))
        refine runTf g'20 ?_
        refine hQ _ _ (end_byG (.inl rfl) hbel (x1 := .tup [.sl (some (H.length + 2, 0)) ((spB W Hh xs x y h g mks ers mks.length).length) (capG (spB W Hh xs x y h g mks ers mks.length).length), .int .i64 0]) (l2 := [.cells (ownG (spB W Hh xs x y h g mks ers mks.length).length) 2 (prs (spB W Hh xs x y h g mks ers mks.length))]) (.tup [.sl (some (H.length, 0)) ((spB W Hh xs x y h g mks ers mks.length).length) (capG (spB W Hh xs x y h g mks ers mks.length).length), .int .i64 0]) (resT Tryz.results90) [] rfl [2] (by decide) ⟨by first | (rw [hfinE, hfinL]; done) | (rw [hfinE, hfinL]; rfl) | (rw [hfinE, hfinL, hfinM]; rfl), by first | (rw [hfinL]; done) | (rw [hfinL]; rfl)⟩ ?_)
        exact absW
end Go.Proofs.YtcokgigjmjlmnaaGreat
