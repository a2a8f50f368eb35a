/- Parts of the proof: walks and plain facts. Conditions: as each theorem states. -/
import Derived.Test.YtoimakfecmhjkaaGreatG4
import Derived.Test.YtoimakfecmhjkaaGreatG3
import Derived.Test.YtoimakfecmhjkaaGreatG2
namespace Go.Proofs.YtoimakfecmhjkaaGreat
set_option linter.unusedSimpArgs false
set_option linter.unusedVariables false
open Go.RowKit
set_option maxHeartbeats 4000000
set_option maxRecDepth 100000
theorem plus_00 (H : AHeap) (x1 : Int) (y1 : Int) (s : AV) (x2 : Int) (y2 : Int) (t : AV) (hs : Sl H 2 s 0 []) (ht : Sl H 2 t 0 []) (hx : -1099511627776 ≤ x1 ∧ x1 ≤ 1099511627776 ∧ -1099511627776 ≤ y1 ∧ y1 ≤ 1099511627776) (hy : -1099511627776 ≤ x2 ∧ x2 ≤ 1099511627776 ∧ -1099511627776 ≤ y2 ∧ y2 ≤ 1099511627776) : ACalls Tryz.prog 118 [.agg [.int .i64 x1, .int .i64 y1, s], .agg [.int .i64 x2, .int .i64 y2, t]] H (fun v H' => v = .agg [.int .i64 (x1 + x2), .int .i64 (y1 + y2), .sl (some (H.length, 0)) ((canonL (([] : List Pt))).length) (capG (canonL (([] : List Pt))).length)] ∧ H' = H ++ [.cells (ownG (canonL (([] : List Pt))).length) 2 (prs (canonL (([] : List Pt))))]) := by
  obtain ⟨bs, os, cs, rfl, hbs⟩ := hs
  have hbls := getElem?_lt hbs
  have hb0s := fun l => get_app (l := l) hbs
  obtain ⟨bt, ot, ct, rfl, hbt⟩ := ht
  have hblt := getElem?_lt hbt
  have hb0t := fun l => get_app (l := l) hbt
  have hBn : ∀ e ∈ ([] : List Pt), Bd 4194304 e := fun e he => by cases he
  refine AcT false Tryz.func118 ?_; intro hbel Q hQ
  have g'1 := (jn @hbs (jn @hb0s (jn @hbt @hb0t)))
  refine runTf g'1 ?_
  refine call_x (by kernel_rfl) (by simp) (rcanon_u _ (x1 + x2) (y1 + y2) _ [] (.inr ⟨_, _, _, by first | rfl | (rw [List.length_append]; done) | (rw [List.length_append]; rfl), by first | rfl | (rw [get_newk]; rfl) | (rw [get_new0]; rfl) | (rw [get_newk, prs_append]; rfl) | (rw [get_new0, prs_append]; rfl)⟩) (by first | omega | (simp only [List.length_cons, List.length_nil]; omega) | exact Nat.le_trans (mkL_len _ _) (by first | omega | simp) | exact Nat.le_trans (vL_len _ _) (by first | omega | simp) | exact Nat.le_trans corV_len (by omega) | exact Nat.le_trans (canonL_len _) (by first | omega | simp)) (by assumption)) ?_
  refine runTf g'1 ?_
  refine hQ _ _ (end_byG (.inl rfl) hbel (x1 := .agg [.int .i64 (x1 + x2), .int .i64 (y1 + y2), .sl (some (H.length + 4, 0)) ((canonL []).length) (capG (canonL []).length)]) (l2 := [.cells (ownG (canonL []).length) 2 (prs (canonL []))]) (.agg [.int .i64 (x1 + x2), .int .i64 (y1 + y2), .sl (some (H.length, 0)) ((canonL []).length) (capG (canonL []).length)]) (resT Tryz.results118) [] rfl [4] (by decide) ⟨rfl, rfl⟩ ?_)
  exact absW
theorem plus_0m (H : AHeap) (x1 : Int) (y1 : Int) (s : AV) (x2 : Int) (y2 : Int) (t : AV) (m : List (Int × Int)) (hs : Sl H 2 s 0 []) (ht : Sl H 2 t m.length (prs m)) (h0 : 0 < m.length) (hn : m.length ≤ 40) (hB2 : ∀ e ∈ m, Bd 4194304 e) (hx : -1099511627776 ≤ x1 ∧ x1 ≤ 1099511627776 ∧ -1099511627776 ≤ y1 ∧ y1 ≤ 1099511627776) (hy : -1099511627776 ≤ x2 ∧ x2 ≤ 1099511627776 ∧ -1099511627776 ≤ y2 ∧ y2 ≤ 1099511627776) : ACalls Tryz.prog 118 [.agg [.int .i64 x1, .int .i64 y1, s], .agg [.int .i64 x2, .int .i64 y2, t]] H (fun v H' => v = .agg [.int .i64 (x1 + x2), .int .i64 (y1 + y2), .sl (some (H.length, 0)) ((canonL (m)).length) (capG (canonL (m)).length)] ∧ H' = H ++ [.cells (ownG (canonL (m)).length) 2 (prs (canonL (m)))]) := by
  obtain ⟨bs, os, cs, rfl, hbs⟩ := hs
  have hbls := getElem?_lt hbs
  have hb0s := fun l => get_app (l := l) hbs
  obtain ⟨bt, ot, ct, rfl, hbt⟩ := ht
  have hblt := getElem?_lt hbt
  have hb0t := fun l => get_app (l := l) hbt
  have hz : (m.length == 0) = false := beq_eq_false_iff_ne.2 (by omega)
  have hd : decide (0 < m.length) = true := decide_eq_true h0
  refine AcT false Tryz.func118 ?_; intro hbel Q hQ
  have g'2 := (jn @hbs (jn @hb0s (jn @hbt (jn @hb0t (jn @prs_len (jn @prs_one (jn @prs_all (jn @hz (jn @hd (jn @Nat.zero_add @List.nil_append.{0}))))))))))
  refine runTf g'2 ?_
  refine call_x (by kernel_rfl) (by simp) (rcanon_u _ (x1 + x2) (y1 + y2) _ m (.inr ⟨_, _, _, by first | rfl | (rw [List.length_append]; done) | (rw [List.length_append]; rfl), by first | rfl | (rw [get_newk]; rfl) | (rw [get_new0]; rfl) | (rw [get_newk, prs_append]; rfl) | (rw [get_new0, prs_append]; rfl)⟩) (by first | omega | (simp only [List.length_cons, List.length_nil]; omega) | exact Nat.le_trans (mkL_len _ _) (by first | omega | simp) | exact Nat.le_trans (vL_len _ _) (by first | omega | simp) | exact Nat.le_trans corV_len (by omega) | exact Nat.le_trans (canonL_len _) (by first | omega | simp)) (by assumption)) ?_
  refine runTf g'2 ?_
  refine hQ _ _ (end_byG (.inl rfl) hbel (x1 := .agg [.int .i64 (x1 + x2), .int .i64 (y1 + y2), .sl (some (H.length + 5, 0)) ((canonL m).length) (capG (canonL m).length)]) (l2 := [.cells (ownG (canonL m).length) 2 (prs (canonL m))]) (.agg [.int .i64 (x1 + x2), .int .i64 (y1 + y2), .sl (some (H.length, 0)) ((canonL m).length) (capG (canonL m).length)]) (resT Tryz.results118) [] rfl [5] (by decide) ⟨rfl, rfl⟩ ?_)
  exact absW
theorem plus_lm (H : AHeap) (x1 : Int) (y1 : Int) (s : AV) (l : List (Int × Int)) (x2 : Int) (y2 : Int) (t : AV) (m : List (Int × Int)) (hs : Sl H 2 s l.length (prs l)) (ht : Sl H 2 t m.length (prs m)) (h0 : 0 < l.length) (hn : l.length + m.length ≤ 40) (hB1 : ∀ e ∈ l, Bd 4194304 e) (hB2 : ∀ e ∈ m, Bd 4194304 e) (hx : -1099511627776 ≤ x1 ∧ x1 ≤ 1099511627776 ∧ -1099511627776 ≤ y1 ∧ y1 ≤ 1099511627776) (hy : -1099511627776 ≤ x2 ∧ x2 ≤ 1099511627776 ∧ -1099511627776 ≤ y2 ∧ y2 ≤ 1099511627776) : ACalls Tryz.prog 118 [.agg [.int .i64 x1, .int .i64 y1, s], .agg [.int .i64 x2, .int .i64 y2, t]] H (fun v H' => v = .agg [.int .i64 (x1 + x2), .int .i64 (y1 + y2), .sl (some (H.length, 0)) ((canonL (l ++ m)).length) (capG (canonL (l ++ m)).length)] ∧ H' = H ++ [.cells (ownG (canonL (l ++ m)).length) 2 (prs (canonL (l ++ m)))]) := by
  obtain ⟨bs, os, cs, rfl, hbs⟩ := hs
  have hbls := getElem?_lt hbs
  have hb0s := fun l => get_app (l := l) hbs
  obtain ⟨bt, ot, ct, rfl, hbt⟩ := ht
  have hblt := getElem?_lt hbt
  have hb0t := fun l => get_app (l := l) hbt
  have hz : (l.length == 0) = false := beq_eq_false_iff_ne.2 (by omega)
  have hd : decide (0 < l.length) = true := decide_eq_true h0
  have hz2 : (l.length + m.length == 0) = false := beq_eq_false_iff_ne.2 (by omega)
  have hll : (l ++ m).length = l.length + m.length := List.length_append
  have hBB : ∀ e ∈ l ++ m, Bd 4194304 e := fun e he => by rcases List.mem_append.1 he with h | h; exact hB1 e h; exact hB2 e h
  refine AcT false Tryz.func118 ?_; intro hbel Q hQ
  have g'3 := (jn @hbs (jn @hb0s (jn @hbt (jn @hb0t (jn @prs_len (jn @prs_one (jn @prs_all (jn @hz (jn @hz2 (jn @hd (jn @Nat.zero_add @List.nil_append.{0})))))))))))
  refine runTf g'3 ?_
  refine call_x (by kernel_rfl) (by simp) (rcanon_u _ (x1 + x2) (y1 + y2) _ (l ++ m) (.inr ⟨_, _, _, by first | rfl | (rw [List.length_append]; done) | (rw [List.length_append]; rfl), by first | rfl | (rw [get_newk]; rfl) | (rw [get_new0]; rfl) | (rw [get_newk, prs_append]; rfl) | (rw [get_new0, prs_append]; rfl)⟩) (by first | omega | (simp only [List.length_cons, List.length_nil]; omega) | exact Nat.le_trans (mkL_len _ _) (by first | omega | simp) | exact Nat.le_trans (vL_len _ _) (by first | omega | simp) | exact Nat.le_trans corV_len (by omega) | exact Nat.le_trans (canonL_len _) (by first | omega | simp)) (by assumption)) ?_
  refine runTf g'3 ?_
  refine hQ _ _ (end_byG (.inl rfl) hbel (x1 := .agg [.int .i64 (x1 + x2), .int .i64 (y1 + y2), .sl (some (H.length + 6, 0)) ((canonL (l ++ m)).length) (capG (canonL (l ++ m)).length)]) (l2 := [.cells (ownG (canonL (l ++ m)).length) 2 (prs (canonL (l ++ m)))]) (.agg [.int .i64 (x1 + x2), .int .i64 (y1 + y2), .sl (some (H.length, 0)) ((canonL (l ++ m)).length) (capG (canonL (l ++ m)).length)]) (resT Tryz.results118) [] rfl [6] (by decide) ⟨rfl, rfl⟩ ?_)
  exact absW
theorem plus_c (H : AHeap) (x1 y1 x2 y2 : Int) (s t : AV) (l m : List Pt) (hs : SlP H s l) (ht : SlP H t m) (hn : l.length + m.length ≤ 40) (hB1 : ∀ e ∈ l, Bd 4194304 e) (hB2 : ∀ e ∈ m, Bd 4194304 e) (hx : -1099511627776 ≤ x1 ∧ x1 ≤ 1099511627776 ∧ -1099511627776 ≤ y1 ∧ y1 ≤ 1099511627776) (hy : -1099511627776 ≤ x2 ∧ x2 ≤ 1099511627776 ∧ -1099511627776 ≤ y2 ∧ y2 ≤ 1099511627776) :
    ACalls Tryz.prog 118 [.agg [.int .i64 x1, .int .i64 y1, s], .agg [.int .i64 x2, .int .i64 y2, t]] H (fun v H' => v = .agg [.int .i64 (x1 + x2), .int .i64 (y1 + y2), .sl (some (H.length, 0)) (canonL (l ++ m)).length (capG (canonL (l ++ m)).length)] ∧ H' = H ++ [.cells (ownG (canonL (l ++ m)).length) 2 (prs (canonL (l ++ m)))]) := by
  rcases l with _ | ⟨a, l⟩
  · rcases m with _ | ⟨b, m⟩
    · exact plus_00 H x1 y1 s x2 y2 t hs ht hx hy
    · exact plus_0m H x1 y1 s x2 y2 t (b :: m) hs ht (by simp) (by simpa using hn) hB2 hx hy
  · exact plus_lm H x1 y1 s (a :: l) x2 y2 t m hs ht (by simp) hn hB1 hB2 hx hy
/-- The error of a sum. -/
def sumE (x1 y1 : Int) (l : List Pt) (x2 y2 : Int) (m : List Pt) : Int := if (validB x1 y1 l && validB x2 y2 m) = true then (if validB (x1 + x2) (y1 + y2) (canonL (l ++ m)) = true then 0 else 6) else 1
theorem whole_t (H : AHeap) (x : Int) (y : Int) (s : AV) (l : List (Int × Int)) (hs : Sl H 2 s l.length (prs l)) (hv : validB x y l = true) : ACalls Tryz.prog 109 [.agg [.int .i64 x, .int .i64 y, s]] H (fun v H' => v = .tup [.agg [.int .i64 x, .int .i64 y, s], .int .i64 0] ∧ H' = H) := by
  obtain ⟨bs, os, cs, rfl, hbs⟩ := hs
  have hbls := getElem?_lt hbs
  have hb0s := fun l => get_app (l := l) hbs
  refine AcT true Tryz.func109 ?_; intro hbel Q hQ
  have g'4 := (jn @hbs (jn @hb0s @hv))
  refine runTf g'4 ?_
  refine call_v (by kernel_rfl) (valid_c _ x y _ l (.inr ⟨_, _, _, rfl, by first | exact hb0s _ | exact hbs⟩)) ?_
  refine runTf g'4 ?_
  refine hQ _ _ (end_byG (.inl rfl) hbel (x1 := .tup [.agg [.int .i64 x, .int .i64 y, .sl (some (bs, 0)) l.length cs], .int .i64 0]) (l2 := []) (.tup [.agg [.int .i64 x, .int .i64 y, .sl (some (bs, 0)) l.length cs], .int .i64 0]) (resT Tryz.results109) [] rfl [] (by decide) ⟨rfl, List.append_nil _⟩ ?_)
  exact absW
theorem whole_f (H : AHeap) (x : Int) (y : Int) (s : AV) (l : List (Int × Int)) (hs : Sl H 2 s l.length (prs l)) (hv : validB x y l = false) : ACalls Tryz.prog 109 [.agg [.int .i64 x, .int .i64 y, s]] H (fun v H' => v = .tup [.agg [.int .i64 0, .int .i64 0, .sl none 0 (some 0)], .int .i64 6] ∧ H' = H) := by
  obtain ⟨bs, os, cs, rfl, hbs⟩ := hs
  have hbls := getElem?_lt hbs
  have hb0s := fun l => get_app (l := l) hbs
  refine AcT true Tryz.func109 ?_; intro hbel Q hQ
  have g'5 := (jn @hbs (jn @hb0s @hv))
  refine runTf g'5 ?_
  refine call_v (by kernel_rfl) (valid_c _ x y _ l (.inr ⟨_, _, _, rfl, by first | exact hb0s _ | exact hbs⟩)) ?_
  refine runTf g'5 ?_
  exact hQ _ _ (end_plain (.inl rfl) hbel (x := .tup [.agg [.int .i64 0, .int .i64 0, .sl none 0 (some 0)], .int .i64 6]) (resT Tryz.results109) rfl ⟨rfl, rfl⟩)
theorem Sum_c (H : AHeap) (x1 : Int) (y1 : Int) (s : AV) (l : List (Int × Int)) (x2 : Int) (y2 : Int) (t : AV) (m : List (Int × Int)) (hs : Sl H 2 s l.length (prs l)) (ht : Sl H 2 t m.length (prs m)) : ACalls Tryz.prog 51 [.agg [.int .i64 x1, .int .i64 y1, s], .agg [.int .i64 x2, .int .i64 y2, t]] H (fun v H' => v = .tup [.agg [.int .i64 (mkX (sumE x1 y1 l x2 y2 m) (x1 + x2)), .int .i64 (mkX (sumE x1 y1 l x2 y2 m) (y1 + y2)), .sl (some (H.length, 0)) ((mkL (sumE x1 y1 l x2 y2 m) (canonL (l ++ m))).length) (capG (mkL (sumE x1 y1 l x2 y2 m) (canonL (l ++ m))).length)], .int .i64 (sumE x1 y1 l x2 y2 m)] ∧ H' = H ++ [.cells (ownG (mkL (sumE x1 y1 l x2 y2 m) (canonL (l ++ m))).length) 2 (prs (mkL (sumE x1 y1 l x2 y2 m) (canonL (l ++ m))))]) := by
  obtain ⟨bs, os, cs, rfl, hbs⟩ := hs
  have hbls := getElem?_lt hbs
  have hb0s := fun l => get_app (l := l) hbs
  obtain ⟨bt, ot, ct, rfl, hbt⟩ := ht
  have hblt := getElem?_lt hbt
  have hb0t := fun l => get_app (l := l) hbt
  refine AcT false Tryz.func51 ?_; intro hbel Q hQ
  have g'6 := (jn @hbs (jn @hb0s (jn @hbt @hb0t)))
  refine runTf g'6 ?_
  refine call_v (by kernel_rfl) (valid_c _ x1 y1 _ l (.inr ⟨_, _, _, rfl, by first | exact hb0s _ | exact hbs⟩)) ?_
  refine runTf g'6 ?_
  refine gd_split (fun h1 => ?_) (fun h1 => ?_)
  · have h1d := h1
    try simp only [Bool.not_eq_true', Bool.not_eq_false', decide_eq_true_eq, decide_eq_false_iff_not, beq_iff_eq, bne_iff_ne, ne_eq, Bool.not_eq_true, Bool.not_eq_false, beq_eq_false_iff_ne, bne_eq_false_iff_eq, Classical.not_not, Bool.and_eq_true, Bool.and_eq_false_imp] at h1d
    obtain ⟨hl16, hlB⟩ := valid_bd h1d
    have hxy1 := valid_bd3 h1d
    have hB1 : ∀ e ∈ l, Bd 4194304 e := fun e he => by have := hlB e he; unfold Bd at *; omega
    have g'7 := (jn @h1 (jn @h1d g'6))
    refine runTf g'7 ?_
    refine call_v (by kernel_rfl) (valid_c _ x2 y2 _ m (.inr ⟨_, _, _, rfl, by first | exact hb0t _ | exact hbt⟩)) ?_
    refine runTf g'7 ?_
    refine cond_split (fun h2 => ?_) (fun h2 => ?_)
    · have h2d := h2
      try simp only [Bool.not_eq_true', Bool.not_eq_false', decide_eq_true_eq, decide_eq_false_iff_not, beq_iff_eq, bne_iff_ne, ne_eq, Bool.not_eq_true, Bool.not_eq_false, beq_eq_false_iff_ne, bne_eq_false_iff_eq, Classical.not_not, Bool.and_eq_true, Bool.and_eq_false_imp] at h2d
      have g'8 := (jn @h2 (jn @h2d g'7))
      refine runTf g'8 ?_
      refine hQ _ _ (end_byG (.inl rfl) hbel (x1 := .tup [.agg [.int .i64 0, .int .i64 0, .sl none 0 (some 0)], .int .i64 1]) (l2 := [.cells false 2 []]) (.tup [.agg [.int .i64 0, .int .i64 0, .sl (some (H.length, 0)) 0 (some 0)], .int .i64 1]) (resT Tryz.results51) [.cells false 2 []] rfl [3] (by decide) ⟨by simp [mkX, mkL, sumE, capG_0, ownG_0, prs_nil, h1d, h2d], by simp [mkX, mkL, sumE, capG_0, ownG_0, prs_nil, h1d, h2d]⟩ ?_)
      exact absW
    · have h2d := h2
      try simp only [Bool.not_eq_true', Bool.not_eq_false', decide_eq_true_eq, decide_eq_false_iff_not, beq_iff_eq, bne_iff_ne, ne_eq, Bool.not_eq_true, Bool.not_eq_false, beq_eq_false_iff_ne, bne_eq_false_iff_eq, Classical.not_not, Bool.and_eq_true, Bool.and_eq_false_imp] at h2d
      obtain ⟨hm16, hmB⟩ := valid_bd h2d
      have hxy2 := valid_bd3 h2d
      have hB2 : ∀ e ∈ m, Bd 4194304 e := fun e he => by have := hmB e he; unfold Bd at *; omega
      have hll : (l ++ m).length = l.length + m.length := List.length_append
      have hcl := canonL_len (l ++ m)
      have hBB : ∀ e ∈ l ++ m, Bd 4194304 e := fun e he => by rcases List.mem_append.1 he with h | h; exact hB1 e h; exact hB2 e h
      have g'9 := (jn @h2 (jn @h2d g'7))
      refine runTf g'9 ?_
      refine call_x (by kernel_rfl) (by simp) (concat_c _ _ _ _ l m ⟨_, _, _, rfl, by first | exact hb0s _ | exact hbs⟩ ⟨_, _, _, rfl, by first | exact hb0t _ | exact hbt⟩ ⟨_, _, _, rfl, by first | rfl | exact get_newk | exact get_new0⟩ (by omega) (by omega)) ?_
      refine runTf g'9 ?_
      refine call_x (by kernel_rfl) (by simp) (canonical_u _ (x1 + x2) (y1 + y2) _ (l ++ m) (.inr ⟨_, _, _, by first | rfl | (rw [List.length_append]; done) | (rw [List.length_append]; rfl), by first | rfl | (rw [get_newk]; rfl) | (rw [get_new0]; rfl) | (rw [get_newk, prs_append]; rfl) | (rw [get_new0, prs_append]; rfl)⟩) (by first | omega | (simp only [List.length_cons, List.length_nil]; omega) | exact Nat.le_trans (mkL_len _ _) (by first | omega | simp) | exact Nat.le_trans (vL_len _ _) (by first | omega | simp) | exact Nat.le_trans corV_len (by omega) | exact Nat.le_trans (canonL_len _) (by first | omega | simp)) (by assumption)) ?_
      refine runTf g'9 ?_
      rcases Bool.eq_false_or_eq_true (validB (x1 + x2) (y1 + y2) (canonL (l ++ m))) with h3 | h3
      · have h3d := h3
        refine call_d (by kernel_rfl) (whole_t _ (x1 + x2) (y1 + y2) _ (canonL (l ++ m)) ⟨_, _, _, by first | rfl | (rw [List.length_append]; done) | (rw [List.length_append]; rfl), by first | rfl | (rw [get_newk]; rfl) | (rw [get_new0]; rfl) | (rw [get_newk, prs_append]; rfl) | (rw [get_new0, prs_append]; rfl)⟩ (by assumption)) ?_
        have g'10 := (jn @h3 (jn @h3d g'9))
        refine runTf g'10 ?_
        refine hQ _ _ (end_byG (.inl rfl) hbel (x1 := .tup [.agg [.int .i64 (x1 + x2), .int .i64 (y1 + y2), .sl (some (H.length + 5, 0)) ((canonL (l ++ m)).length) (capG (canonL (l ++ m)).length)], .int .i64 0]) (l2 := [.cells (ownG (canonL (l ++ m)).length) 2 (prs (canonL (l ++ m)))]) (.tup [.agg [.int .i64 (x1 + x2), .int .i64 (y1 + y2), .sl (some (H.length, 0)) ((canonL (l ++ m)).length) (capG (canonL (l ++ m)).length)], .int .i64 0]) (resT Tryz.results51) [] rfl [5] (by decide) ⟨by simp [mkX, mkL, sumE, capG_0, ownG_0, prs_nil, h1d, h2d, h3d], by simp [mkX, mkL, sumE, capG_0, ownG_0, prs_nil, h1d, h2d, h3d]⟩ ?_)
        exact absW
      · have h3d := h3
        refine call_d (by kernel_rfl) (whole_f _ (x1 + x2) (y1 + y2) _ (canonL (l ++ m)) ⟨_, _, _, by first | rfl | (rw [List.length_append]; done) | (rw [List.length_append]; rfl), by first | rfl | (rw [get_newk]; rfl) | (rw [get_new0]; rfl) | (rw [get_newk, prs_append]; rfl) | (rw [get_new0, prs_append]; rfl)⟩ (by assumption)) ?_
        have g'11 := (jn @h3 (jn @h3d g'9))
        refine runTf g'11 ?_
        refine hQ _ _ (end_byG (.inl rfl) hbel (x1 := .tup [.agg [.int .i64 0, .int .i64 0, .sl none 0 (some 0)], .int .i64 6]) (l2 := [.cells false 2 []]) (.tup [.agg [.int .i64 0, .int .i64 0, .sl (some (H.length, 0)) 0 (some 0)], .int .i64 6]) (resT Tryz.results51) [.cells false 2 []] rfl [6] (by decide) ⟨by simp [mkX, mkL, sumE, capG_0, ownG_0, prs_nil, h1d, h2d, h3d], by simp [mkX, mkL, sumE, capG_0, ownG_0, prs_nil, h1d, h2d, h3d]⟩ ?_)
        exact absW
  · have h1d := h1
    try simp only [Bool.not_eq_true', Bool.not_eq_false', decide_eq_true_eq, decide_eq_false_iff_not, beq_iff_eq, bne_iff_ne, ne_eq, Bool.not_eq_true, Bool.not_eq_false, beq_eq_false_iff_ne, bne_eq_false_iff_eq, Classical.not_not, Bool.and_eq_true, Bool.and_eq_false_imp] at h1d
    have g'12 := (jn @h1 (jn @h1d g'6))
    refine runTf g'12 ?_
    refine hQ _ _ (end_byG (.inl rfl) hbel (x1 := .tup [.agg [.int .i64 0, .int .i64 0, .sl none 0 (some 0)], .int .i64 1]) (l2 := [.cells false 2 []]) (.tup [.agg [.int .i64 0, .int .i64 0, .sl (some (H.length, 0)) 0 (some 0)], .int .i64 1]) (resT Tryz.results51) [.cells false 2 []] rfl [3] (by decide) ⟨by simp [mkX, mkL, sumE, capG_0, ownG_0, prs_nil, h1d], by simp [mkX, mkL, sumE, capG_0, ownG_0, prs_nil, h1d]⟩ ?_)
    exact absW
theorem rSum_c (H : AHeap) (x1 : Int) (y1 : Int) (s : AV) (l : List (Int × Int)) (x2 : Int) (y2 : Int) (t : AV) (m : List (Int × Int)) (hs : Sl H 2 s l.length (prs l)) (ht : Sl H 2 t m.length (prs m)) (hl : l.length ≤ 1000000) (hm : m.length ≤ 1000000) : ACalls Tryz.prog 60 [.agg [.int .i64 x1, .int .i64 y1, s], .agg [.int .i64 x2, .int .i64 y2, t]] H (fun v H' => v = .tup [.agg [.int .i64 (mkX (sumE x1 y1 l x2 y2 m) (x1 + x2)), .int .i64 (mkX (sumE x1 y1 l x2 y2 m) (y1 + y2)), .sl (some (H.length, 0)) ((mkL (sumE x1 y1 l x2 y2 m) (canonL (l ++ m))).length) (capG (mkL (sumE x1 y1 l x2 y2 m) (canonL (l ++ m))).length)], .int .i64 (sumE x1 y1 l x2 y2 m)] ∧ H' = H ++ [.cells (ownG (mkL (sumE x1 y1 l x2 y2 m) (canonL (l ++ m))).length) 2 (prs (mkL (sumE x1 y1 l x2 y2 m) (canonL (l ++ m))))]) := by
  obtain ⟨bs, os, cs, rfl, hbs⟩ := hs
  have hbls := getElem?_lt hbs
  have hb0s := fun l => get_app (l := l) hbs
  obtain ⟨bt, ot, ct, rfl, hbt⟩ := ht
  have hblt := getElem?_lt hbt
  have hb0t := fun l => get_app (l := l) hbt
  refine AcT true Tryz.func60 ?_; intro hbel Q hQ
  have g'13 := (jn @hbs (jn @hb0s (jn @hbt @hb0t)))
  refine runTf g'13 ?_
  refine call_v (by kernel_rfl) (rvalid_c _ x1 y1 _ l (.inr ⟨_, _, _, rfl, by first | exact hb0s _ | exact hbs⟩) (by omega)) ?_
  refine runTf g'13 ?_
  refine gd_split (fun h1 => ?_) (fun h1 => ?_)
  · have h1d := h1
    try simp only [Bool.not_eq_true', Bool.not_eq_false', decide_eq_true_eq, decide_eq_false_iff_not, beq_iff_eq, bne_iff_ne, ne_eq, Bool.not_eq_true, Bool.not_eq_false, beq_eq_false_iff_ne, bne_eq_false_iff_eq, Classical.not_not, Bool.and_eq_true, Bool.and_eq_false_imp] at h1d
    obtain ⟨hl16, hlB⟩ := valid_bd h1d
    have hxy1 := valid_bd3 h1d
    have hB1 : ∀ e ∈ l, Bd 4194304 e := fun e he => by have := hlB e he; unfold Bd at *; omega
    have g'14 := (jn @h1 (jn @h1d g'13))
    refine runTf g'14 ?_
    refine call_v (by kernel_rfl) (rvalid_c _ x2 y2 _ m (.inr ⟨_, _, _, rfl, by first | exact hb0t _ | exact hbt⟩) (by omega)) ?_
    refine runTf g'14 ?_
    refine cond_split (fun h2 => ?_) (fun h2 => ?_)
    · have h2d := h2
      try simp only [Bool.not_eq_true', Bool.not_eq_false', decide_eq_true_eq, decide_eq_false_iff_not, beq_iff_eq, bne_iff_ne, ne_eq, Bool.not_eq_true, Bool.not_eq_false, beq_eq_false_iff_ne, bne_eq_false_iff_eq, Classical.not_not, Bool.and_eq_true, Bool.and_eq_false_imp] at h2d
      have g'15 := (jn @h2 (jn @h2d g'14))
      refine runTf g'15 ?_
      refine hQ _ _ (end_byG (.inl rfl) hbel (x1 := .tup [.agg [.int .i64 0, .int .i64 0, .sl none 0 (some 0)], .int .i64 1]) (l2 := [.cells false 2 []]) (.tup [.agg [.int .i64 0, .int .i64 0, .sl (some (H.length, 0)) 0 (some 0)], .int .i64 1]) (resT Tryz.results60) [.cells false 2 []] rfl [3] (by decide) ⟨by simp [mkX, mkL, sumE, capG_0, ownG_0, prs_nil, h1d, h2d], by simp [mkX, mkL, sumE, capG_0, ownG_0, prs_nil, h1d, h2d]⟩ ?_)
      exact absW
    · have h2d := h2
      try simp only [Bool.not_eq_true', Bool.not_eq_false', decide_eq_true_eq, decide_eq_false_iff_not, beq_iff_eq, bne_iff_ne, ne_eq, Bool.not_eq_true, Bool.not_eq_false, beq_eq_false_iff_ne, bne_eq_false_iff_eq, Classical.not_not, Bool.and_eq_true, Bool.and_eq_false_imp] at h2d
      obtain ⟨hm16, hmB⟩ := valid_bd h2d
      have hxy2 := valid_bd3 h2d
      have hB2 : ∀ e ∈ m, Bd 4194304 e := fun e he => by have := hmB e he; unfold Bd at *; omega
      have hll : (l ++ m).length = l.length + m.length := List.length_append
      have hcl := canonL_len (l ++ m)
      have hBB : ∀ e ∈ l ++ m, Bd 4194304 e := fun e he => by rcases List.mem_append.1 he with h | h; exact hB1 e h; exact hB2 e h
      have g'16 := (jn @h2 (jn @h2d g'14))
      refine runTf g'16 ?_
      refine call_v (by kernel_rfl) (plus_c _ x1 y1 x2 y2 _ _ l m ⟨_, _, _, rfl, by first | exact hb0s _ | exact hbs⟩ ⟨_, _, _, rfl, by first | exact hb0t _ | exact hbt⟩ (by omega) (by assumption) (by assumption) (by omega) (by omega)) ?_
      refine runTf g'16 ?_
      refine call_v (by kernel_rfl) (rvalid_c _ (x1 + x2) (y1 + y2) _ (canonL (l ++ m)) (.inr ⟨_, _, _, by first | rfl | (rw [List.length_append]; done) | (rw [List.length_append]; rfl), by first | rfl | (rw [get_newk]; rfl) | (rw [get_new0]; rfl) | (rw [get_newk, prs_append]; rfl) | (rw [get_new0, prs_append]; rfl)⟩) (by omega)) ?_
      refine runTf g'16 ?_
      refine cond_split (fun h3 => ?_) (fun h3 => ?_)
      · have h3d := h3
        try simp only [Bool.not_eq_true', Bool.not_eq_false', decide_eq_true_eq, decide_eq_false_iff_not, beq_iff_eq, bne_iff_ne, ne_eq, Bool.not_eq_true, Bool.not_eq_false, beq_eq_false_iff_ne, bne_eq_false_iff_eq, Classical.not_not, Bool.and_eq_true, Bool.and_eq_false_imp] at h3d
        have g'17 := (jn @h3 (jn @h3d g'16))
        refine runTf g'17 ?_
        refine hQ _ _ (end_byG (.inl rfl) hbel (x1 := .tup [.agg [.int .i64 0, .int .i64 0, .sl none 0 (some 0)], .int .i64 6]) (l2 := [.cells false 2 []]) (.tup [.agg [.int .i64 0, .int .i64 0, .sl (some (H.length, 0)) 0 (some 0)], .int .i64 6]) (resT Tryz.results60) [.cells false 2 []] rfl [5] (by decide) ⟨by simp [mkX, mkL, sumE, capG_0, ownG_0, prs_nil, h1d, h2d, h3d], by simp [mkX, mkL, sumE, capG_0, ownG_0, prs_nil, h1d, h2d, h3d]⟩ ?_)
        exact absW
      · have h3d := h3
        try simp only [Bool.not_eq_true', Bool.not_eq_false', decide_eq_true_eq, decide_eq_false_iff_not, beq_iff_eq, bne_iff_ne, ne_eq, Bool.not_eq_true, Bool.not_eq_false, beq_eq_false_iff_ne, bne_eq_false_iff_eq, Classical.not_not, Bool.and_eq_true, Bool.and_eq_false_imp] at h3d
        have g'18 := (jn @h3 (jn @h3d g'16))
        refine runTf g'18 ?_
        refine hQ _ _ (end_byG (.inl rfl) hbel (x1 := .tup [.agg [.int .i64 (x1 + x2), .int .i64 (y1 + y2), .sl (some (H.length + 3, 0)) ((canonL (l ++ m)).length) (capG (canonL (l ++ m)).length)], .int .i64 0]) (l2 := [.cells (ownG (canonL (l ++ m)).length) 2 (prs (canonL (l ++ m)))]) (.tup [.agg [.int .i64 (x1 + x2), .int .i64 (y1 + y2), .sl (some (H.length, 0)) ((canonL (l ++ m)).length) (capG (canonL (l ++ m)).length)], .int .i64 0]) (resT Tryz.results60) [] rfl [3] (by decide) ⟨by simp [mkX, mkL, sumE, capG_0, ownG_0, prs_nil, h1d, h2d, h3d], by simp [mkX, mkL, sumE, capG_0, ownG_0, prs_nil, h1d, h2d, h3d]⟩ ?_)
        exact absW
  · have h1d := h1
    try simp only [Bool.not_eq_true', Bool.not_eq_false', decide_eq_true_eq, decide_eq_false_iff_not, beq_iff_eq, bne_iff_ne, ne_eq, Bool.not_eq_true, Bool.not_eq_false, beq_eq_false_iff_ne, bne_eq_false_iff_eq, Classical.not_not, Bool.and_eq_true, Bool.and_eq_false_imp] at h1d
    have g'19 := (jn @h1 (jn @h1d g'13))
    refine runTf g'19 ?_
    refine hQ _ _ (end_byG (.inl rfl) hbel (x1 := .tup [.agg [.int .i64 0, .int .i64 0, .sl none 0 (some 0)], .int .i64 1]) (l2 := [.cells false 2 []]) (.tup [.agg [.int .i64 0, .int .i64 0, .sl (some (H.length, 0)) 0 (some 0)], .int .i64 1]) (resT Tryz.results60) [.cells false 2 []] rfl [3] (by decide) ⟨by simp [mkX, mkL, sumE, capG_0, ownG_0, prs_nil, h1d], by simp [mkX, mkL, sumE, capG_0, ownG_0, prs_nil, h1d]⟩ ?_)
    exact absW
open Go.RowKit
theorem mem_spr {n : Pt} : ∀ {L : List Pt} {e : Pt}, e ∈ L → absI (dotP n e) ≤ spr n L
  | [], _, h => by cases h
  | g :: l, e, h => by
    rw [spr_cons]
    have h0 := spr_nn n l
    have h1 := absI_nn (dotP n g)
    rcases List.mem_cons.1 h with rfl | h
    · omega
    · have := mem_spr (n := n) h; omega
theorem canon_in {A : List Pt} {M : Int} (h1 : spr (1, 0) A ≤ M) (h2 : spr (0, 1) A ≤ M) : ∀ e ∈ canonL A, Bd M e := fun e he => by
  have a1 := mem_spr (n := (1, 0)) he
  have a2 := mem_spr (n := (0, 1)) he
  rw [spr_canon, absI_le] at a1 a2
  unfold dotP at a1 a2
  unfold Bd
  simp only at a1 a2
  omega
theorem cor_inA {x y M : Int} {A : List Pt} (h1 : spr (1, 0) A ≤ M) (h2 : spr (0, 1) A ≤ M) {N : Int} (hx : -N ≤ x ∧ x ≤ N) (hy : -N ≤ y ∧ y ≤ N) : ∀ e ∈ corR x y (canonL A), Bd (M + N) e := fun e he => by
  obtain ⟨i, hi, rfl⟩ := List.getElem_of_mem he
  rw [corR_len] at hi
  have h := inZ_canon.1 (cor_in x y (canonL A) hi)
  rw [gp_eq (by rw [corR_len]; exact hi)] at h
  have a1 := h.abs (1, 0)
  have a2 := h.abs (0, 1)
  rw [absI_le] at a1 a2
  unfold dotP psub at a1 a2
  unfold Bd
  simp only at a1 a2
  omega
def rR (x0 y0 x1 y1 : Int) : List Pt := [(0 - x0 - (0 - x1), 0), (0, 0 - y0 - (0 - y1))]
theorem rR_eq (x0 y0 x1 y1 : Int) : rR x0 y0 x1 y1 = [(x1 - x0, 0), (0, y1 - y0)] := by
  unfold rR
  rw [show 0 - x0 - (0 - x1) = x1 - x0 by omega, show 0 - y0 - (0 - y1) = y1 - y0 by omega]
theorem rR_spr {x0 y0 x1 y1 : Int} (hx : x0 ≤ x1) (hy : y0 ≤ y1) : spr (1, 0) (rR x0 y0 x1 y1) = x1 - x0 ∧ spr (0, 1) (rR x0 y0 x1 y1) = y1 - y0 := by
  rw [rR_eq]
  simp only [spr, dotP]
  unfold absI
  refine ⟨?_, ?_⟩ <;> (split <;> split <;> omega)
abbrev aA (l : List Pt) (x0 y0 x1 y1 : Int) : List Pt := l ++ canonL (rR x0 y0 x1 y1)
theorem aA_spr {l : List Pt} (n : Pt) (x0 y0 x1 y1 : Int) : spr n (aA l x0 y0 x1 y1) = spr n l + spr n (rR x0 y0 x1 y1) := by rw [spr_app, spr_canon]
/-- The corners of the sum with the mirrored rectangle. -/
abbrev aC (x y : Int) (l : List Pt) (x0 y0 x1 y1 : Int) : List Pt := corR (x + (0 - x1 + (0 - x0))) (y + (0 - y1 + (0 - y0))) (canonL (aA l x0 y0 x1 y1))
def rapB (x y : Int) (l : List Pt) (x0 y0 x1 y1 : Int) : Bool := validB x y l && (ordR x0 y0 x1 y1 && !inR (aC x y l x0 y0 x1 y1) (0, 0) (aC x y l x0 y0 x1 y1).length)
theorem rap_facts {x y : Int} {l : List Pt} {x0 y0 x1 y1 : Int} (hv : validB x y l = true) (ho : ordR x0 y0 x1 y1 = true) :
    (canonL (rR x0 y0 x1 y1)).length ≤ 2 ∧ (∀ e ∈ canonL (rR x0 y0 x1 y1), Bd 4194304 e) ∧ (canonL (aA l x0 y0 x1 y1)).length ≤ 18 ∧ (∀ e ∈ canonL (aA l x0 y0 x1 y1), Bd 134217728 e) ∧ (∀ e ∈ aC x y l x0 y0 x1 y1, Bd 60000000 e) ∧ (aC x y l x0 y0 x1 y1).length ≤ 40 := by
  obtain ⟨hl16, hlB⟩ := valid_bd hv
  have hxy := valid_bd3 hv
  simp only [ordR, Bool.and_eq_true, decide_eq_true_eq] at ho
  have hf := far4_bd ho.2.2
  obtain ⟨s1, s2⟩ := rR_spr ho.1 ho.2.1
  have b1 := spr_axis (.inl rfl) l hlB
  have b2 := spr_axis (.inr rfl) l hlB
  have c1 := canonL_len (rR x0 y0 x1 y1)
  have c2 := canonL_len (aA l x0 y0 x1 y1)
  have c3 : (aA l x0 y0 x1 y1).length = l.length + (canonL (rR x0 y0 x1 y1)).length := List.length_append
  have c4 : (rR x0 y0 x1 y1).length = 2 := rfl
  have t1 : spr (1, 0) (aA l x0 y0 x1 y1) ≤ 5242880 := by rw [aA_spr]; omega
  have t2 : spr (0, 1) (aA l x0 y0 x1 y1) ≤ 5242880 := by rw [aA_spr]; omega
  refine ⟨by omega, canon_in (by omega) (by omega), by omega, fun e he => ?_, fun e he => ?_, ?_⟩
  · have := canon_in t1 t2 e he; unfold Bd at *; omega
  · have := cor_inA t1 t2 (N := 20000000) (by omega) (by omega) e he; unfold Bd at *; omega
  · rw [corR_len]; omega
theorem rap_eq {x y : Int} {l : List Pt} {x0 y0 x1 y1 : Int} : rapB x y l x0 y0 x1 y1 = apartB x y l x0 y0 x1 y1 := by
  rw [Bool.eq_iff_iff, apartB_iff]
  unfold rapB ordR
  simp only [Bool.and_eq_true, decide_eq_true_eq, Bool.not_eq_true', ← Bool.not_eq_true]
  have hc := canonL_can (aA l x0 y0 x1 y1)
  rw [in_iff hc.sorted hc.ups, inZ_canon]
  have e : psub (0, 0) (x + (0 - x1 + (0 - x0)), y + (0 - y1 + (0 - y0))) = (x0 + x1 - x, y0 + y1 - y) := by unfold psub; simp only [Prod.mk.injEq]; omega
  have k : inZ (aA l x0 y0 x1 y1) (x0 + x1 - x, y0 + y1 - y) ↔ inZ (l ++ [(x1 - x0, 0), (0, y1 - y0)]) (x0 + x1 - x, y0 + y1 - y) := by
    unfold inZ
    simp only [aA_spr, spr_app, rR_eq, spr_canon]
  rw [e, k]
  constructor
  · rintro ⟨a, ⟨b, c, d⟩, f⟩; exact ⟨a, d, ⟨b, c⟩, f⟩
  · rintro ⟨a, d, ⟨b, c⟩, f⟩; exact ⟨a, ⟨b, c, d⟩, f⟩
open Go.RowKit
theorem mkX_0 {x : Int} : mkX 0 x = x := rfl
theorem mkL_0 {L : List Pt} : mkL 0 L = L := rfl
open Go.RowKit
/-- The lower eight bits. -/
theorem and255 (a : Int) : (BitVec.ofInt 64 a &&& BitVec.ofInt 64 255).toNat = (a % 256).toNat := by
  rw [BitVec.toNat_and, BitVec.toNat_ofInt, BitVec.toNat_ofInt]
  have e : ((255 : Int) % ((2 ^ 64 : Nat) : Int)).toNat = 2 ^ 8 - 1 := by decide
  rw [e, Nat.and_two_pow_sub_one_eq_mod]
  have : (((a % ((2 ^ 64 : Nat) : Int)).toNat : Nat) : Int) = a % 18446744073709551616 := by
    rw [Int.toNat_of_nonneg (Int.emod_nonneg _ (by decide))]; rfl
  omega
/-- The greatest common divisor of three numbers. -/
def gcd3 (x y d : Int) : Nat := Nat.gcd (Nat.gcd d.natAbs x.natAbs) y.natAbs
abbrev Vec := Int × Int × Int
/-- A vector in lowest terms. -/
def lowV (x y d : Int) : Vec := (x.tdiv (gcd3 x y d), y.tdiv (gcd3 x y d), d.tdiv (gcd3 x y d))
theorem gcd3_comm (x y d : Int) : Nat.gcd (Nat.gcd x.natAbs y.natAbs) d.natAbs = gcd3 x y d := by
  unfold gcd3
  rw [Nat.gcd_comm d.natAbs, Nat.gcd_assoc, Nat.gcd_assoc, Nat.gcd_comm d.natAbs]
theorem gcd3_pos {x y d : Int} (h : d ≠ 0) : 0 < gcd3 x y d := by
  unfold gcd3
  exact Nat.gcd_pos_of_pos_left _ (Nat.gcd_pos_of_pos_left _ (Int.natAbs_pos.2 h))
/-- The direction of a mark of the first quarter. -/
def dir0 (k : Nat) : Vec := lowV (4096 - (k : Int) * k) (128 * k) (4096 + (k : Int) * k)
def rotN (v : Vec) : Nat → Vec
  | 0 => v
  | n + 1 => (-(rotN v n).2.1, (rotN v n).1, (rotN v n).2.2)
def dirN (h : Nat) : Vec := rotN (dir0 (h % 64)) (h / 64)
/-- The direction of a mark. -/
def dirV (h : Int) : Vec := dirN (h % 256).toNat
def vecOK (v : Vec) : Bool := decide (1 ≤ v.2.2) && decide (v.2.2 ≤ 8065) && decide (-v.2.2 ≤ v.1) && decide (v.1 ≤ v.2.2) && decide (-v.2.2 ≤ v.2.1) && decide (v.2.1 ≤ v.2.2) && decide (v.1 * v.1 + v.2.1 * v.2.1 = v.2.2 * v.2.2)
theorem dirs_ok : (List.range 256).all (fun h => vecOK (dirN h)) = true := by decide +kernel
theorem dirs_crs : (List.range 127).all (fun h => decide (0 < crs ((dirN h).1, (dirN h).2.1) ((dirN (h + 1)).1, (dirN (h + 1)).2.1)) && decide (0 < (dirN (h + 1)).2.1) && decide ((dirN (h + 129)).1 = -(dirN (h + 1)).1 ∧ (dirN (h + 129)).2.1 = -(dirN (h + 1)).2.1)) = true := by decide +kernel
theorem dirV_ok (h : Int) : vecOK (dirV h) = true := by
  have := List.all_eq_true.1 dirs_ok (h % 256).toNat (by simp; omega)
  exact this
theorem vecOK_iff {v : Vec} : vecOK v = true ↔ (1 ≤ v.2.2 ∧ v.2.2 ≤ 8065) ∧ (-v.2.2 ≤ v.1 ∧ v.1 ≤ v.2.2) ∧ (-v.2.2 ≤ v.2.1 ∧ v.2.1 ≤ v.2.2) ∧ v.1 * v.1 + v.2.1 * v.2.1 = v.2.2 * v.2.2 := by
  unfold vecOK
  simp only [Bool.and_eq_true, decide_eq_true_eq]
  constructor
  · rintro ⟨⟨⟨⟨⟨⟨a, b⟩, c⟩, d⟩, e⟩, f⟩, g⟩; exact ⟨⟨a, b⟩, ⟨c, d⟩, ⟨e, f⟩, g⟩
  · rintro ⟨⟨a, b⟩, ⟨c, d⟩, ⟨e, f⟩, g⟩; exact ⟨⟨⟨⟨⟨⟨a, b⟩, c⟩, d⟩, e⟩, f⟩, g⟩
/-- A quotient rounded down. -/
theorem floor_eq {a b : Int} (h : 0 < b) : (if a.tmod b < 0 then a.tdiv b - 1 else a.tdiv b) = a / b := by
  rw [Int.tdiv_eq_ediv, Int.tmod_eq_emod]
  have h1 := Int.emod_nonneg a (by omega : b ≠ 0)
  have h2 := Int.emod_lt_of_pos a h
  have hs : b.sign = 1 := Int.sign_eq_one_of_pos h
  have hn : (b.natAbs : Int) = b := by omega
  split
  · rw [if_neg (by omega)]; omega
  · rw [if_pos (by omega), hs]; omega
/-- The half of the circle in which a vector lies. -/
def halfI (x y : Int) : Int := if 0 < y ∨ (y = 0 ∧ 0 < x) then 0 else 1
/-- Whether a direction is beyond a vector. -/
def beyB (v : Vec) (x y : Int) : Bool :=
  if halfI v.1 v.2.1 = halfI x y then decide (crs (v.1, v.2.1) (x, y) < 0) else decide (halfI v.1 v.2.1 = 1)
theorem up_neg {x y : Int} (h : ¬ (x = 0 ∧ y = 0)) (k : halfI x y = 1) : up (-x, -y) := by
  unfold halfI at k
  split at k
  · omega
  · unfold up; simp only; omega
theorem up_pos {x y : Int} (k : halfI x y = 0) : up (x, y) := by
  unfold halfI at k
  split at k
  · unfold up; simp only; omega
  · omega
theorem halfI_or (x y : Int) : halfI x y = 0 ∨ halfI x y = 1 := by unfold halfI; split <;> simp
theorem crs_neg2 (a b c d : Int) : crs (-a, -b) (-c, -d) = crs (a, b) (c, d) := by unfold crs; simp only; rw [Int.neg_mul_neg, Int.neg_mul_neg]
theorem dir_step {h : Nat} (hh : h < 127) : 0 < crs ((dirN h).1, (dirN h).2.1) ((dirN (h + 1)).1, (dirN (h + 1)).2.1) ∧ 0 < (dirN (h + 1)).2.1 ∧ (dirN (h + 129)).1 = -(dirN (h + 1)).1 ∧ (dirN (h + 129)).2.1 = -(dirN (h + 1)).2.1 := by
  have := List.all_eq_true.1 dirs_crs h (by simp; exact hh)
  simp only [Bool.and_eq_true, decide_eq_true_eq] at this
  exact ⟨this.1.1, this.1.2, this.2⟩
theorem dir_0 : dirN 0 = (1, 0, 1) := by decide +kernel
theorem dir_128 : dirN 128 = (-1, 0, 1) := by decide +kernel
theorem dir_up {h : Nat} (hh : h < 128) : up ((dirN h).1, (dirN h).2.1) := by
  cases h with
  | zero => rw [dir_0]; unfold up; simp
  | succ h => exact .inl (dir_step (h := h) (by omega)).2.1
theorem dir_half0 {h : Nat} (hh : h < 128) : halfI (dirN h).1 (dirN h).2.1 = 0 := by
  have := dir_up hh
  unfold up at this
  unfold halfI
  rw [if_pos this]
theorem dir_opp {h : Nat} (hh : h < 128) : (dirN (h + 128)).1 = -(dirN h).1 ∧ (dirN (h + 128)).2.1 = -(dirN h).2.1 := by
  cases h with
  | zero => rw [dir_0, dir_128]; exact ⟨rfl, rfl⟩
  | succ h => have := (dir_step (h := h) (by omega)).2.2; rw [show h + 1 + 128 = h + 129 by omega]; exact this
theorem dir_half1 {h : Nat} (h1 : 128 ≤ h) (h2 : h < 256) : halfI (dirN h).1 (dirN h).2.1 = 1 := by
  obtain ⟨k, rfl⟩ : ∃ k, h = k + 128 := ⟨h - 128, by omega⟩
  have hu := dir_up (h := k) (by omega)
  obtain ⟨e1, e2⟩ := dir_opp (h := k) (by omega)
  unfold up at hu
  simp only at hu
  unfold halfI
  rw [e1, e2, if_neg (by omega)]
theorem dir_lt {h k : Nat} (hk : h < k) (k2 : k < 128) : 0 < crs ((dirN h).1, (dirN h).2.1) ((dirN k).1, (dirN k).2.1) := by
  induction k with
  | zero => omega
  | succ k ih =>
    rcases Nat.lt_or_ge h k with hlt | hge
    · exact crs_trans (dir_up (by omega)) (dir_up (by omega)) (dir_up (by omega)) (ih hlt (by omega)) (dir_step (by omega)).1
    · obtain rfl : h = k := by omega
      exact (dir_step (by omega)).1
/-- Beyond a vector are all later marks. -/
theorem bey_mono {x y : Int} (hd : ¬ (x = 0 ∧ y = 0)) {h k : Nat} (hk : h < k) (k2 : k < 256) (hb : beyB (dirN h) x y = true) : beyB (dirN k) x y = true := by
  unfold beyB at hb ⊢
  rcases Nat.lt_or_ge h 128 with l1 | l1
  · rw [dir_half0 l1] at hb
    split at hb
    · rename_i e
      rcases Nat.lt_or_ge k 128 with l2 | l2
      · rw [dir_half0 l2, if_pos e]
        rw [decide_eq_true_eq] at hb ⊢
        rw [crs_anti]
        rw [crs_anti] at hb
        have := crs_trans (up_pos e.symm) (dir_up l1) (dir_up l2) (by omega) (dir_lt hk l2)
        omega
      · rw [dir_half1 l2 k2, if_neg (by omega)]; rfl
    · simp at hb
  · rw [dir_half1 l1 (by omega)] at hb
    rw [dir_half1 (by omega) k2]
    split at hb
    · rename_i e
      rw [if_pos e]
      rw [decide_eq_true_eq] at hb ⊢
      obtain ⟨p, rfl⟩ : ∃ p, h = p + 128 := ⟨h - 128, by omega⟩
      obtain ⟨q, rfl⟩ : ∃ q, k = q + 128 := ⟨k - 128, by omega⟩
      obtain ⟨a1, a2⟩ := dir_opp (h := p) (by omega)
      obtain ⟨b1, b2⟩ := dir_opp (h := q) (by omega)
      have hu := up_neg hd e.symm
      rw [a1, a2, ← crs_neg2, Int.neg_neg, Int.neg_neg] at hb
      rw [b1, b2, ← crs_neg2, Int.neg_neg, Int.neg_neg]
      rw [crs_anti] at hb ⊢
      have := crs_trans hu (dir_up (h := p) (by omega)) (dir_up (h := q) (by omega)) (by omega) (dir_lt (h := p) (k := q) (by omega) (by omega))
      omega
    · rename_i e; rw [if_neg e]; rfl
theorem bey_0 {x y : Int} (hd : ¬ (x = 0 ∧ y = 0)) : beyB (dirN 0) x y = false := by
  unfold beyB
  rw [dir_half0 (by omega), dir_0]
  split
  · rename_i e
    have hu := up_pos e.symm
    rw [decide_eq_false_iff_not]
    unfold crs
    unfold up at hu
    simp only at hu ⊢
    omega
  · rfl
/-- The greatest mark that is not beyond a vector, among the first n. -/
def towN (x y : Int) : Nat → Nat
  | 0 => 0
  | n + 1 => if beyB (dirN n) x y = true then towN x y n else n
theorem towN_all {x y : Int} (hd : ¬ (x = 0 ∧ y = 0)) {m : Nat} (h1 : ∀ h, h ≤ m → beyB (dirN h) x y = false) (h2 : beyB (dirN (m + 1)) x y = true) : ∀ n, m < n → n ≤ 256 → towN x y n = m
  | 0, h, _ => by omega
  | n + 1, h, hn => by
    rw [towN]
    rcases Nat.lt_or_ge m n with k | k
    · have hb : beyB (dirN n) x y = true := by
        rcases Nat.lt_or_ge (m + 1) n with k2 | k2
        · exact bey_mono hd k2 (by omega) h2
        · rw [show n = m + 1 by omega]; exact h2
      rw [if_pos hb]
      exact towN_all hd h1 h2 n k (by omega)
    · obtain rfl : n = m := by omega
      rw [h1 n (Nat.le_refl _)]
      rfl
theorem towN_last {x y : Int} (h1 : beyB (dirN 255) x y = false) : towN x y 256 = 255 := by
  rw [towN, h1]; rfl
open Go.RowKit
theorem dirs_app (A B : List Pt) : dirs (A ++ B) = dirs A ++ dirs B := by unfold dirs; rw [List.map_append, List.filter_append]
theorem nrm_of_up {e : Pt} (h : up e) : nrm e = e := by
  unfold up at h
  unfold nrm
  rw [if_neg (by omega)]
theorem dirs_id : ∀ {C : List Pt}, (∀ e ∈ C, up e) → dirs C = C
  | [], _ => rfl
  | e :: C, h => by
    have he := h e (by simp)
    have ih := dirs_id (C := C) fun x hx => h x (by simp [hx])
    unfold dirs at ih ⊢
    rw [List.map_cons, nrm_of_up he, List.filter_cons, if_pos (by simp only [decide_eq_true_eq]; exact up_ne he), ih]
theorem canonL_appl (A B : List Pt) : canonL (canonL A ++ B) = canonL (A ++ B) := by
  have h1 := canonL_can (canonL A ++ B)
  have hA := canonL_can A
  refine Can.eq (S := dirs (A ++ B)) ⟨h1.sorted, h1.ups, fun g hg => ?_⟩ (canonL_can _)
  rw [h1.sums g hg, dirs_app, dirs_app, dsum_append, dsum_append, dirs_id hA.ups, hA.sums g hg]
theorem canonL_appr (A B : List Pt) : canonL (A ++ canonL B) = canonL (A ++ B) := by
  have h1 := canonL_can (A ++ canonL B)
  have hB := canonL_can B
  refine Can.eq (S := dirs (A ++ B)) ⟨h1.sorted, h1.ups, fun g hg => ?_⟩ (canonL_can _)
  rw [h1.sums g hg, dirs_app, dirs_app, dsum_append, dsum_append, dirs_id hB.ups, hB.sums g hg]
theorem validB_of {x y : Int} {l : List Pt} (hx : -8388608 ≤ x ∧ x ≤ 8388608) (hy : -8388608 ≤ y ∧ y ≤ 8388608) (hl : l.length ≤ 16) (hB : ∀ e ∈ l, Bd 65536 e) : validB x y l = true := by
  unfold validB
  simp only [Bool.and_eq_true, decide_eq_true_eq, Bool.not_eq_true', within_iff]
  refine ⟨⟨⟨hx, hy⟩, hl⟩, List.any_eq_false.2 fun e he => ?_⟩
  have := hB e he
  unfold Bd at this
  simp only [wrongB, Bool.not_eq_true', Bool.not_eq_false, Bool.and_eq_true, within_iff]
  omega
theorem sumE_0 {x1 y1 : Int} {l : List Pt} {x2 y2 : Int} {m : List Pt} (h1 : validB x1 y1 l = true) (h2 : validB x2 y2 m = true) (h3 : validB (x1 + x2) (y1 + y2) (canonL (l ++ m)) = true) : sumE x1 y1 l x2 y2 m = 0 := by
  unfold sumE; rw [h1, h2, h3]; rfl
/-- A rectangle's generators; a square's. -/
def recL (x0 y0 x1 y1 : Int) : List Pt := [(x1 - x0, 0), (0, y1 - y0)]
def sqrL (a : Int) : List Pt := [(a - (0 - a), 0), (0, a - (0 - a))]
/-- The way of a forward motion. -/
def wayX (h m : Int) : Int := m * (dirV h).1 / (dirV h).2.2
def wayY (h m : Int) : Int := m * (dirV h).2.1 / (dirV h).2.2
theorem div_bd {m a d : Int} (hd : 1 ≤ d) (ha : -d ≤ a ∧ a ≤ d) (hm : 0 ≤ m) : -m ≤ m * a / d ∧ m * a / d ≤ m := by
  constructor
  · rw [Int.le_ediv_iff_mul_le (by omega)]
    have := Int.mul_le_mul_of_nonneg_left ha.1 hm
    rw [Int.mul_neg] at this
    rw [Int.neg_mul]; exact this
  · have := Int.mul_le_mul_of_nonneg_left ha.2 hm
    have h2 : m * a / d ≤ m * d / d := Int.ediv_le_ediv (by omega) this
    rwa [Int.mul_ediv_cancel _ (by omega)] at h2
theorem way_bd (h : Int) {m : Int} (hm : 0 ≤ m) : (-m ≤ wayX h m ∧ wayX h m ≤ m) ∧ (-m ≤ wayY h m ∧ wayY h m ≤ m) := by
  have hv := vecOK_iff.1 (dirV_ok h)
  exact ⟨div_bd hv.1.1 hv.2.1 hm, div_bd hv.1.1 hv.2.2.1 hm⟩
theorem spr1 (a b : Int) (l : List Pt) : spr (1, 0) ((a, b) :: l) = absI a + spr (1, 0) l ∧ spr (0, 1) ((a, b) :: l) = absI b + spr (0, 1) l := by
  rw [spr_cons, spr_cons]
  unfold dotP; simp
theorem spr_nil (n : Pt) : spr n [] = 0 := rfl
theorem canon_valid {x y : Int} {A : List Pt} (hx : -8388608 ≤ x ∧ x ≤ 8388608) (hy : -8388608 ≤ y ∧ y ≤ 8388608) (hl : A.length ≤ 16) (h1 : spr (1, 0) A ≤ 65536) (h2 : spr (0, 1) A ≤ 65536) : validB x y (canonL A) = true :=
  validB_of hx hy (Nat.le_trans (canonL_len A) hl) (canon_in h1 h2)
theorem sum_ok {x1 y1 x2 y2 : Int} {A B : List Pt} (hx1 : -4194304 ≤ x1 ∧ x1 ≤ 4194304) (hy1 : -4194304 ≤ y1 ∧ y1 ≤ 4194304) (hx2 : -4194304 ≤ x2 ∧ x2 ≤ 4194304) (hy2 : -4194304 ≤ y2 ∧ y2 ≤ 4194304)
    (hl : A.length + B.length ≤ 16) (h1 : spr (1, 0) A + spr (1, 0) B ≤ 65536) (h2 : spr (0, 1) A + spr (0, 1) B ≤ 65536) : sumE x1 y1 (canonL A) x2 y2 (canonL B) = 0 := by
  have a1 := spr_nn (1, 0) A
  have a2 := spr_nn (0, 1) A
  have b1 := spr_nn (1, 0) B
  have b2 := spr_nn (0, 1) B
  refine sumE_0 (canon_valid (by omega) (by omega) (by omega) (by omega) (by omega)) (canon_valid (by omega) (by omega) (by omega) (by omega) (by omega)) ?_
  have e : canonL (canonL A ++ canonL B) = canonL (A ++ B) := by rw [canonL_appl, canonL_appr]
  rw [e]
  exact canon_valid (by omega) (by omega) (by rw [List.length_append]; omega) (by rw [spr_app]; omega) (by rw [spr_app]; omega)
/-- Whether a number is in a range; a command's, the bounds' validity. -/
def btw (n lo hi : Int) : Bool := decide (lo ≤ n) && decide (n ≤ hi)
theorem btw_iff {n lo hi : Int} : btw n lo hi = true ↔ lo ≤ n ∧ n ≤ hi := by unfold btw; simp
def cmdB (t f : Int) : Bool := within t 32 && btw f 0 32
def bndB (tu le sl ra : Int) : Bool := btw tu 0 8 && (btw le 0 16 && (btw sl 0 8 && btw ra 1 32))
/-- Whether a sweep's arguments are valid. -/
def sweB (x0 y0 x1 y1 t f tu le sl ra : Int) : Bool :=
  within x0 1048576 && (within y0 1048576 && (within x1 1048576 && (within y1 1048576 && (btw (x1 - x0) 0 32768 && (btw (y1 - y0) 0 32768 && (cmdB t f && bndB tu le sl ra))))))
def sweE (x0 y0 x1 y1 h t f tu le sl ra : Int) : Int := if sweB x0 y0 x1 y1 t f tu le sl ra = true then (if btw h 0 255 = true then 0 else 2) else 1
def wayL (h f le : Int) : List Pt := if f = 0 then [] else [(wayX h (f + le), wayY h (f + le))]
def hlf (f sl : Int) : Int := if f = 0 then 20 else sl + 21
/-- What a sweep is: its center and its generators. -/
def sweX (x0 x1 h f le : Int) : Int := x0 + x1 + (if f = 0 then 0 else wayX h (f + le))
def sweY (y0 y1 h f le : Int) : Int := y0 + y1 + (if f = 0 then 0 else wayY h (f + le))
def sweL (x0 y0 x1 y1 h f le sl : Int) : List Pt := canonL (recL x0 y0 x1 y1 ++ wayL h f le ++ sqrL (hlf f sl))
theorem sweL_len (x0 y0 x1 y1 h f le sl : Int) : (sweL x0 y0 x1 y1 h f le sl).length ≤ 40 := by
  refine Nat.le_trans (canonL_len _) ?_
  unfold recL wayL sqrL
  split <;> simp
theorem swe_bd {x0 y0 x1 y1 t f tu le sl ra : Int} (h : sweB x0 y0 x1 y1 t f tu le sl ra = true) : ((-1048576 ≤ x0 ∧ x0 ≤ 1048576) ∧ (-1048576 ≤ y0 ∧ y0 ≤ 1048576) ∧ (-1048576 ≤ x1 ∧ x1 ≤ 1048576) ∧ (-1048576 ≤ y1 ∧ y1 ≤ 1048576)) ∧ ((0 ≤ x1 - x0 ∧ x1 - x0 ≤ 32768) ∧ (0 ≤ y1 - y0 ∧ y1 - y0 ≤ 32768)) ∧ (-32 ≤ t ∧ t ≤ 32) ∧ (0 ≤ f ∧ f ≤ 32) ∧ (0 ≤ tu ∧ tu ≤ 8) ∧ (0 ≤ le ∧ le ≤ 16) ∧ (0 ≤ sl ∧ sl ≤ 8) ∧ (1 ≤ ra ∧ ra ≤ 32) := by
  unfold sweB cmdB bndB at h
  simp only [Bool.and_eq_true, within_iff, btw_iff] at h
  omega
theorem rec_spr {x0 y0 x1 y1 : Int} (hx : 0 ≤ x1 - x0) (hy : 0 ≤ y1 - y0) : spr (1, 0) (recL x0 y0 x1 y1) = x1 - x0 ∧ spr (0, 1) (recL x0 y0 x1 y1) = y1 - y0 := by
  unfold recL
  rw [(spr1 _ _ _).1, (spr1 _ _ _).1, (spr1 _ _ _).2, (spr1 _ _ _).2, spr_nil, spr_nil, absI_of_nn hx, absI_of_nn hy, absI_zero]
  omega
theorem sqr_spr {a : Int} (h : 0 ≤ a) : spr (1, 0) (sqrL a) = 2 * a ∧ spr (0, 1) (sqrL a) = 2 * a := by
  unfold sqrL
  rw [(spr1 _ _ _).1, (spr1 _ _ _).1, (spr1 _ _ _).2, (spr1 _ _ _).2, spr_nil, spr_nil, absI_of_nn (by omega : 0 ≤ a - (0 - a)), absI_zero]
  omega
theorem way_spr {h m : Int} (hm : 0 ≤ m) : spr (1, 0) [(wayX h m, wayY h m)] ≤ m ∧ spr (0, 1) [(wayX h m, wayY h m)] ≤ m := by
  have := way_bd h hm
  rw [(spr1 _ _ _).1, (spr1 _ _ _).2, spr_nil, spr_nil]
  unfold absI
  constructor <;> split <;> omega
theorem sw_eq (R W Q : List Pt) : canonL (canonL (canonL R ++ canonL W) ++ canonL Q) = canonL (R ++ W ++ Q) := by
  rw [canonL_appl, canonL_appr, List.append_assoc, canonL_appl, ← List.append_assoc]
  have e : canonL (R ++ canonL W ++ Q) = canonL (R ++ W ++ Q) := by
    rw [← canonL_appl (R ++ canonL W), canonL_appr, canonL_appl]
  exact e
theorem sw_eq0 (R Q : List Pt) : canonL (canonL R ++ canonL Q) = canonL (R ++ [] ++ Q) := by
  rw [canonL_appl, canonL_appr, List.append_nil]
theorem canon_00 : canonL [(0, 0)] = [] := rfl
theorem sw_eq00 (R Q : List Pt) : canonL (canonL (canonL R ++ canonL [(0, 0)]) ++ canonL Q) = canonL (R ++ [] ++ Q) := by
  rw [canon_00, List.append_nil, ← List.append_nil (canonL R), canonL_appl, List.append_nil, sw_eq0]
def recB (x0 y0 x1 y1 : Int) : Bool := within x0 1048576 && within y0 1048576 && ((within x1 1048576 && within y1 1048576) && (decide (x0 ≤ x1) && (decide (y0 ≤ y1) && (decide (x1 - x0 ≤ 32768) && decide (y1 - y0 ≤ 32768)))))
theorem sweB_eq (x0 y0 x1 y1 t f tu le sl ra : Int) : sweB x0 y0 x1 y1 t f tu le sl ra = (recB x0 y0 x1 y1 && (cmdB t f && bndB tu le sl ra)) := by
  rw [Bool.eq_iff_iff]
  unfold sweB recB
  simp only [Bool.and_eq_true, within_iff, btw_iff, decide_eq_true_eq]
  constructor
  · rintro ⟨a, b, c, d, e, f, g, h⟩; exact ⟨⟨⟨a, b⟩, ⟨c, d⟩, by omega, by omega, by omega, by omega⟩, g, h⟩
  · rintro ⟨⟨⟨a, b⟩, ⟨c, d⟩, e⟩, g, h⟩; exact ⟨a, b, c, d, by omega, by omega, g, h⟩
theorem btw_h (h : Int) : btw h 0 255 = (!decide (h < 0) && !decide (255 < h)) := by
  rw [Bool.eq_iff_iff]; simp only [btw_iff, Bool.and_eq_true, Bool.not_eq_true', decide_eq_false_iff_not]; omega
open Go.RowKit
theorem tdiv_bd {a b : Int} (hb : 0 < b) (hw : -4611686018427387904 ≤ a ∧ a ≤ 4611686018427387904) : -4611686018427387904 ≤ Int.tdiv a b ∧ Int.tdiv a b ≤ 4611686018427387904 := by
  have h := floor_eq (a := a) hb
  have h1 : a / b ≤ 4611686018427387904 := Int.ediv_le_of_le_mul hb (by have := Int.mul_le_mul_of_nonneg_left (show (1 : Int) ≤ b by omega) (by decide : (0 : Int) ≤ 4611686018427387904); omega)
  have h2 : -4611686018427387904 ≤ a / b := by
    rw [Int.le_ediv_iff_mul_le hb]
    have := Int.mul_le_mul_of_nonneg_left (show (1 : Int) ≤ b by omega) (by decide : (0 : Int) ≤ 4611686018427387904)
    rw [Int.neg_mul]; omega
  rw [Int.tdiv_eq_ediv]
  have hs : b.sign = 1 := Int.sign_eq_one_of_pos hb
  split
  · omega
  · rename_i hh
    rw [hs]
    rcases (by omega : a / b ≤ 4611686018427387903 ∨ a / b = 4611686018427387904) with k | k
    · omega
    · exfalso
      have h3 : 4611686018427387904 * b ≤ a := by rw [← Int.le_ediv_iff_mul_le hb]; omega
      have := Int.mul_le_mul_of_nonneg_left (show (1 : Int) ≤ b by omega) (by decide : (0 : Int) ≤ 4611686018427387904)
      omega
theorem i64_and255 (a : Int) : IntKind.i64.wrap ((BitVec.ofInt IntKind.i64.bits a &&& BitVec.ofInt IntKind.i64.bits 255).toNat : Int) = (((a % 256).toNat : Nat) : Int) := by
  have h := and255 a
  show IntKind.i64.wrap (((BitVec.ofInt 64 a &&& BitVec.ofInt 64 255).toNat : Nat) : Int) = _
  rw [h]
  exact wrap_in (by omega) (by omega)
theorem rem_n64 (a : Nat) : Int.tmod (a : Int) 64 = ((a % 64 : Nat) : Int) := rfl
theorem quo_n64 (a : Nat) : Int.tdiv (a : Int) 64 = ((a / 64 : Nat) : Int) := rfl
theorem mod_nn {a b : Int} (hb : 0 < b) : (if Int.tmod a b < 0 then Int.tmod a b + b else Int.tmod a b) = a % b := by
  rw [Int.tmod_eq_emod]
  have h1 := Int.emod_nonneg a (by omega : b ≠ 0)
  have h2 := Int.emod_lt_of_pos a hb
  have hn : (b.natAbs : Int) = b := by omega
  split
  · rw [if_neg (by omega)]; omega
  · rw [if_pos (by omega)]; omega
theorem mwithin_c (H : AHeap) (n : Int) (lo : Int) (hi : Int) : ACalls Tryz.prog 47 [.int .i64 n, .int .i64 lo, .int .i64 hi] H (fun v H' => v = .bool (btw n lo hi) ∧ H' = H) := by
  refine AcT true Tryz.func47 ?_; intro hbel Q hQ
  refine runT ?_
  refine gd_split (fun h1 => ?_) (fun h1 => ?_)
  · have h1d := bsT h1
    have g'1 := (jn @h1 @h1d)
    refine runTf g'1 ?_
    exact hQ _ _ (end_plain0 (.inl rfl) hbel (x := .bool (decide (n ≤ hi))) (resT Tryz.results47) rfl ⟨by simp [btw, h1d], rfl⟩)
  · have h1d := bsT h1
    have g'2 := (jn @h1 @h1d)
    refine runTf g'2 ?_
    exact hQ _ _ (end_plain0 (.inl rfl) hbel (x := .bool false) (resT Tryz.results47) rfl ⟨by simp [btw, h1d], rfl⟩)
theorem dbetween_c (H : AHeap) (n : Int) (lo : Int) (hi : Int) : ACalls Tryz.prog 105 [.int .i64 n, .int .i64 lo, .int .i64 hi] H (fun v H' => v = .bool (btw n lo hi) ∧ H' = H) := by
  refine AcT true Tryz.func105 ?_; intro hbel Q hQ
  refine runT ?_
  refine gd_split (fun h1 => ?_) (fun h1 => ?_)
  · have h1d := bsT h1
    have g'3 := (jn @h1 @h1d)
    refine runTf g'3 ?_
    exact hQ _ _ (end_plain0 (.inl rfl) hbel (x := .bool (decide (n ≤ hi))) (resT Tryz.results105) rfl ⟨by simp [btw, h1d], rfl⟩)
  · have h1d := bsT h1
    have g'4 := (jn @h1 @h1d)
    refine runTf g'4 ?_
    exact hQ _ _ (end_plain0 (.inl rfl) hbel (x := .bool false) (resT Tryz.results105) rfl ⟨by simp [btw, h1d], rfl⟩)
theorem mnear_c (H : AHeap) (n : Int) : ACalls Tryz.prog 46 [.int .i64 n] H (fun v H' => v = .bool (within n 1048576) ∧ H' = H) := by
  refine AcT true Tryz.func46 ?_; intro hbel Q hQ
  refine runT ?_
  refine call_v (by kernel_rfl) (mwithin_c _ n (-1048576) 1048576) ?_
  refine runT ?_
  exact hQ _ _ (end_plain0 (.inl rfl) hbel (x := .bool (btw n (-1048576) 1048576)) (resT Tryz.results46) rfl ⟨by simp [btw, within, true_and], rfl⟩)
theorem dwithin_c (H : AHeap) (x : Int) (m : Int) (h : 0 ≤ m ∧ m ≤ 4611686018427387904) : ACalls Tryz.prog 104 [.int .i64 x, .int .i64 m] H (fun v H' => v = .bool (within x m) ∧ H' = H) := by
  refine AcT true Tryz.func104 ?_; intro hbel Q hQ
  refine runT ?_
  refine call_v (by kernel_rfl) (dbetween_c _ x (0 - m) m) ?_
  refine runT ?_
  exact hQ _ _ (end_plain0 (.inl rfl) hbel (x := .bool (btw x (0 - m) m)) (resT Tryz.results104) rfl ⟨by simp [btw, within, true_and], rfl⟩)
theorem vcmd_c (H : AHeap) (t : Int) (f : Int) : ACalls Tryz.prog 48 [.agg [.int .i64 t, .int .i64 f]] H (fun v H' => v = .bool (cmdB t f) ∧ H' = H) := by
  refine AcT true Tryz.func48 ?_; intro hbel Q hQ
  refine runT ?_
  refine call_v (by kernel_rfl) (dwithin_c _ t 32 (by decide)) ?_
  refine runT ?_
  refine gd_split (fun h1 => ?_) (fun h1 => ?_)
  · have h1d := bsT h1
    have g'5 := (jn @h1 @h1d)
    refine runTf g'5 ?_
    refine call_v (by kernel_rfl) (dbetween_c _ f 0 32) ?_
    refine runTf g'5 ?_
    exact hQ _ _ (end_plain (.inl rfl) hbel (x := .bool (btw f 0 32)) (resT Tryz.results48) rfl ⟨by simp [cmdB, h1d], rfl⟩)
  · have h1d := bsT h1
    have g'6 := (jn @h1 @h1d)
    refine runTf g'6 ?_
    exact hQ _ _ (end_plain (.inl rfl) hbel (x := .bool false) (resT Tryz.results48) rfl ⟨by simp [cmdB, h1d], rfl⟩)
theorem bcmd_c (H : AHeap) (t : Int) (f : Int) : ACalls Tryz.prog 26 [.agg [.int .i64 t, .int .i64 f]] H (fun v H' => v = .bool (cmdB t f) ∧ H' = H) := by
  refine AcT true Tryz.func26 ?_; intro hbel Q hQ
  refine runT ?_
  refine call_v (by kernel_rfl) (bsize_c _ _ _ (by decide)) ?_
  refine runT ?_
  refine gd_split (fun h1 => ?_) (fun h1 => ?_)
  · have h1d := bsT h1
    have g'7 := (jn @h1 @h1d)
    refine runTf g'7 ?_
    refine gd_split (fun h2 => ?_) (fun h2 => ?_)
    · have h2d := bsT h2
      have g'8 := (jn @h2 (jn @h2d g'7))
      refine runTf g'8 ?_
      exact hQ _ _ (end_plain (.inl rfl) hbel (x := .bool (decide (f ≤ 32))) (resT Tryz.results26) rfl ⟨by simp [cmdB, btw, h1d, h2d], rfl⟩)
    · have h2d := bsT h2
      have g'9 := (jn @h2 (jn @h2d g'7))
      refine runTf g'9 ?_
      exact hQ _ _ (end_plain (.inl rfl) hbel (x := .bool false) (resT Tryz.results26) rfl ⟨by simp [cmdB, btw, h1d, h2d], rfl⟩)
  · have h1d := bsT h1
    have g'10 := (jn @h1 @h1d)
    refine runTf g'10 ?_
    exact hQ _ _ (end_plain (.inl rfl) hbel (x := .bool false) (resT Tryz.results26) rfl ⟨by simp [cmdB, btw, h1d], rfl⟩)
theorem vbnd_c (H : AHeap) (tu : Int) (le : Int) (sl : Int) (ra : Int) : ACalls Tryz.prog 49 [.agg [.int .i64 tu, .int .i64 le, .int .i64 sl, .int .i64 ra]] H (fun v H' => v = .bool (bndB tu le sl ra) ∧ H' = H) := by
  refine AcT true Tryz.func49 ?_; intro hbel Q hQ
  refine runT ?_
  refine call_v (by kernel_rfl) (dbetween_c _ tu 0 8) ?_
  refine runT ?_
  refine gd_split (fun h1 => ?_) (fun h1 => ?_)
  · have h1d := bsT h1
    have g'11 := (jn @h1 @h1d)
    refine runTf g'11 ?_
    refine call_v (by kernel_rfl) (dbetween_c _ le 0 16) ?_
    refine runTf g'11 ?_
    refine gd_split (fun h2 => ?_) (fun h2 => ?_)
    · have h2d := bsT h2
      have g'12 := (jn @h2 (jn @h2d g'11))
      refine runTf g'12 ?_
      refine call_v (by kernel_rfl) (dbetween_c _ sl 0 8) ?_
      refine runTf g'12 ?_
      refine gd_split (fun h3 => ?_) (fun h3 => ?_)
      · have h3d := bsT h3
        have g'13 := (jn @h3 (jn @h3d g'12))
        refine runTf g'13 ?_
        refine call_v (by kernel_rfl) (dbetween_c _ ra 1 32) ?_
        refine runTf g'13 ?_
        exact hQ _ _ (end_plain (.inl rfl) hbel (x := .bool (btw ra 1 32)) (resT Tryz.results49) rfl ⟨by simp [bndB, h1d, h2d, h3d], rfl⟩)
      · have h3d := bsT h3
        have g'14 := (jn @h3 (jn @h3d g'12))
        refine runTf g'14 ?_
        exact hQ _ _ (end_plain (.inl rfl) hbel (x := .bool false) (resT Tryz.results49) rfl ⟨by simp [bndB, h1d, h2d, h3d], rfl⟩)
    · have h2d := bsT h2
      have g'15 := (jn @h2 (jn @h2d g'11))
      refine runTf g'15 ?_
      exact hQ _ _ (end_plain (.inl rfl) hbel (x := .bool false) (resT Tryz.results49) rfl ⟨by simp [bndB, h1d, h2d], rfl⟩)
  · have h1d := bsT h1
    have g'16 := (jn @h1 @h1d)
    refine runTf g'16 ?_
    exact hQ _ _ (end_plain (.inl rfl) hbel (x := .bool false) (resT Tryz.results49) rfl ⟨by simp [bndB, h1d], rfl⟩)
theorem bbnd_c (H : AHeap) (tu : Int) (le : Int) (sl : Int) (ra : Int) : ACalls Tryz.prog 57 [.agg [.int .i64 tu, .int .i64 le, .int .i64 sl, .int .i64 ra]] H (fun v H' => v = .bool (bndB tu le sl ra) ∧ H' = H) := by
  refine AcT true Tryz.func57 ?_; intro hbel Q hQ
  refine runT ?_
  refine gd_split (fun h1 => ?_) (fun h1 => ?_)
  · have h1d := bsT h1
    have g'17 := (jn @h1 @h1d)
    refine runTf g'17 ?_
    refine gd_split (fun h2 => ?_) (fun h2 => ?_)
    · have h2d := bsT h2
      have g'18 := (jn @h2 (jn @h2d g'17))
      refine runTf g'18 ?_
      refine gd_split (fun h3 => ?_) (fun h3 => ?_)
      · have h3d := bsT h3
        have g'19 := (jn @h3 (jn @h3d g'18))
        refine runTf g'19 ?_
        refine gd_split (fun h4 => ?_) (fun h4 => ?_)
        · have h4d := bsT h4
          have g'20 := (jn @h4 (jn @h4d g'19))
          refine runTf g'20 ?_
          refine gd_split (fun h5 => ?_) (fun h5 => ?_)
          · have h5d := bsT h5
            have g'21 := (jn @h5 (jn @h5d g'20))
            refine runTf g'21 ?_
            refine gd_split (fun h6 => ?_) (fun h6 => ?_)
            · have h6d := bsT h6
              have g'22 := (jn @h6 (jn @h6d g'21))
              refine runTf g'22 ?_
              refine gd_split (fun h7 => ?_) (fun h7 => ?_)
              · have h7d := bsT h7
                have g'23 := (jn @h7 (jn @h7d g'22))
                refine runTf g'23 ?_
                exact hQ _ _ (end_plain (.inl rfl) hbel (x := .bool (decide (ra ≤ 32))) (resT Tryz.results57) rfl ⟨by simp [bndB, btw, h1d, h2d, h3d, h4d, h5d, h6d, h7d], rfl⟩)
              · have h7d := bsT h7
                have g'24 := (jn @h7 (jn @h7d g'22))
                refine runTf g'24 ?_
                exact hQ _ _ (end_plain (.inl rfl) hbel (x := .bool false) (resT Tryz.results57) rfl ⟨by simp [bndB, btw, h1d, h2d, h3d, h4d, h5d, h6d, h7d], rfl⟩)
            · have h6d := bsT h6
              have g'25 := (jn @h6 (jn @h6d g'21))
              refine runTf g'25 ?_
              exact hQ _ _ (end_plain (.inl rfl) hbel (x := .bool false) (resT Tryz.results57) rfl ⟨by simp [bndB, btw, h1d, h2d, h3d, h4d, h5d, h6d], rfl⟩)
          · have h5d := bsT h5
            have g'26 := (jn @h5 (jn @h5d g'20))
            refine runTf g'26 ?_
            exact hQ _ _ (end_plain (.inl rfl) hbel (x := .bool false) (resT Tryz.results57) rfl ⟨by simp [bndB, btw, h1d, h2d, h3d, h4d, h5d], rfl⟩)
        · have h4d := bsT h4
          have g'27 := (jn @h4 (jn @h4d g'19))
          refine runTf g'27 ?_
          exact hQ _ _ (end_plain (.inl rfl) hbel (x := .bool false) (resT Tryz.results57) rfl ⟨by simp [bndB, btw, h1d, h2d, h3d, h4d], rfl⟩)
      · have h3d := bsT h3
        have g'28 := (jn @h3 (jn @h3d g'18))
        refine runTf g'28 ?_
        exact hQ _ _ (end_plain (.inl rfl) hbel (x := .bool false) (resT Tryz.results57) rfl ⟨by simp [bndB, btw, h1d, h2d, h3d], rfl⟩)
    · have h2d := bsT h2
      have g'29 := (jn @h2 (jn @h2d g'17))
      refine runTf g'29 ?_
      exact hQ _ _ (end_plain (.inl rfl) hbel (x := .bool false) (resT Tryz.results57) rfl ⟨by simp [bndB, btw, h1d, h2d], rfl⟩)
  · have h1d := bsT h1
    have g'30 := (jn @h1 @h1d)
    refine runTf g'30 ?_
    exact hQ _ _ (end_plain (.inl rfl) hbel (x := .bool false) (resT Tryz.results57) rfl ⟨by simp [bndB, btw, h1d], rfl⟩)
theorem bpoint_c (H : AHeap) (x : Int) (y : Int) : ACalls Tryz.prog 97 [.agg [.int .i64 x, .int .i64 y]] H (fun v H' => v = .bool (within x 1048576 && within y 1048576) ∧ H' = H) := by
  refine AcT true Tryz.func97 ?_; intro hbel Q hQ
  refine runT ?_
  refine call_v (by kernel_rfl) (bsize_c _ _ _ (by decide)) ?_
  refine runT ?_
  refine gd_split (fun h1 => ?_) (fun h1 => ?_)
  · have h1d := bsT h1
    have g'31 := (jn @h1 @h1d)
    refine runTf g'31 ?_
    refine call_v (by kernel_rfl) (bsize_c _ _ _ (by decide)) ?_
    refine runTf g'31 ?_
    exact hQ _ _ (end_plain (.inl rfl) hbel (x := .bool (within y 1048576)) (resT Tryz.results97) rfl ⟨by simp [h1d], rfl⟩)
  · have h1d := bsT h1
    have g'32 := (jn @h1 @h1d)
    refine runTf g'32 ?_
    exact hQ _ _ (end_plain (.inl rfl) hbel (x := .bool false) (resT Tryz.results97) rfl ⟨by simp [h1d], rfl⟩)
theorem mfloor_c (H : AHeap) (a : Int) (b : Int) (hb : 0 < b) (hw : -4611686018427387904 ≤ a ∧ a ≤ 4611686018427387904) : ACalls Tryz.prog 55 [.int .i64 a, .int .i64 b] H (fun v H' => v = .int .i64 (a / b) ∧ H' = H) := by
  have htd := tdiv_bd (a := a) (b := b) hb hw
  refine AcT true Tryz.func55 ?_; intro hbel Q hQ
  refine runT ?_
  refine cond_split (fun h1 => ?_) (fun h1 => ?_)
  · have h1d := bsT h1
    have hfinq : Int.tdiv a b - 1 = a / b := by rw [← floor_eq hb, if_pos h1d]
    have g'33 := (jn @h1 @h1d)
    refine runTf g'33 ?_
    exact hQ _ _ (end_plain0 (.inl rfl) hbel (x := .int .i64 ((Int.tdiv a b) - 1)) (resT Tryz.results55) rfl ⟨congrArg (AV.int .i64) hfinq, rfl⟩)
  · have h1d := bsT h1
    have hfinq : Int.tdiv a b = a / b := by rw [← floor_eq hb, if_neg (by omega)]
    have g'34 := (jn @h1 @h1d)
    refine runTf g'34 ?_
    exact hQ _ _ (end_plain0 (.inl rfl) hbel (x := .int .i64 (Int.tdiv a b)) (resT Tryz.results55) rfl ⟨congrArg (AV.int .i64) hfinq, rfl⟩)
theorem bfloor_c (H : AHeap) (a : Int) (b : Int) (hb : 0 < b) (hw : -4611686018427387904 ≤ a ∧ a ≤ 4611686018427387904) : ACalls Tryz.prog 30 [.int .i64 a, .int .i64 b] H (fun v H' => v = .int .i64 (a / b) ∧ H' = H) := by
  have htd := tdiv_bd (a := a) (b := b) hb hw
  refine AcT true Tryz.func30 ?_; intro hbel Q hQ
  refine runT ?_
  refine cond_split (fun h1 => ?_) (fun h1 => ?_)
  · have h1d := bsT h1
    have hfinq : Int.tdiv a b - 1 = a / b := by rw [← floor_eq hb, if_pos h1d]
    have g'35 := (jn @h1 @h1d)
    refine runTf g'35 ?_
    exact hQ _ _ (end_plain0 (.inl rfl) hbel (x := .int .i64 ((Int.tdiv a b) - 1)) (resT Tryz.results30) rfl ⟨congrArg (AV.int .i64) hfinq, rfl⟩)
  · have h1d := bsT h1
    have hfinq : Int.tdiv a b = a / b := by rw [← floor_eq hb, if_neg (by omega)]
    have g'36 := (jn @h1 @h1d)
    refine runTf g'36 ?_
    exact hQ _ _ (end_plain0 (.inl rfl) hbel (x := .int .i64 (Int.tdiv a b)) (resT Tryz.results30) rfl ⟨congrArg (AV.int .i64) hfinq, rfl⟩)
theorem pdown_c (H : AHeap) (a : Int) (b : Int) (hb : 0 < b) (hw : -4611686018427387904 ≤ a ∧ a ≤ 4611686018427387904) : ACalls Tryz.prog 166 [.int .i64 a, .int .i64 b] H (fun v H' => v = .int .i64 (a / b) ∧ H' = H) := by
  have htd := tdiv_bd (a := a) (b := b) hb hw
  refine AcT true Tryz.func166 ?_; intro hbel Q hQ
  refine runT ?_
  refine cond_split (fun h1 => ?_) (fun h1 => ?_)
  · have h1d := bsT h1
    have hfinq : Int.tdiv a b - 1 = a / b := by rw [← floor_eq hb, if_pos h1d]
    have g'37 := (jn @h1 @h1d)
    refine runTf g'37 ?_
    exact hQ _ _ (end_plain0 (.inl rfl) hbel (x := .int .i64 ((Int.tdiv a b) - 1)) (resT Tryz.results166) rfl ⟨congrArg (AV.int .i64) hfinq, rfl⟩)
  · have h1d := bsT h1
    have hfinq : Int.tdiv a b = a / b := by rw [← floor_eq hb, if_neg (by omega)]
    have g'38 := (jn @h1 @h1d)
    refine runTf g'38 ?_
    exact hQ _ _ (end_plain0 (.inl rfl) hbel (x := .int .i64 (Int.tdiv a b)) (resT Tryz.results166) rfl ⟨congrArg (AV.int .i64) hfinq, rfl⟩)
theorem bmod_c (H : AHeap) (a : Int) (b : Int) (hb : 0 < b) (hw : b ≤ 4611686018427387904) : ACalls Tryz.prog 29 [.int .i64 a, .int .i64 b] H (fun v H' => v = .int .i64 (((a % b).toNat : Nat) : Int) ∧ H' = H) := by
  have hmd := mod_nn (a := a) hb
  have hm1 := Int.emod_nonneg a (by omega : b ≠ 0)
  have hm2 := Int.emod_lt_of_pos a hb
  have hm3 : -b ≤ Int.tmod a b ∧ Int.tmod a b < b := by split at hmd <;> omega
  refine AcT true Tryz.func29 ?_; intro hbel Q hQ
  refine runT ?_
  refine cond_split (fun h1 => ?_) (fun h1 => ?_)
  · have h1d := bsT h1
    have hfinq : Int.tmod a b + b = (((a % b).toNat : Nat) : Int) := by rw [if_pos h1d] at hmd; omega
    have g'39 := (jn @h1 @h1d)
    refine runTf g'39 ?_
    exact hQ _ _ (end_plain0 (.inl rfl) hbel (x := .int .i64 ((Int.tmod a b) + b)) (resT Tryz.results29) rfl ⟨congrArg (AV.int .i64) hfinq, rfl⟩)
  · have h1d := bsT h1
    have hfinq : Int.tmod a b = (((a % b).toNat : Nat) : Int) := by rw [if_neg (by omega)] at hmd; omega
    have g'40 := (jn @h1 @h1d)
    refine runTf g'40 ?_
    exact hQ _ _ (end_plain0 (.inl rfl) hbel (x := .int .i64 (Int.tmod a b)) (resT Tryz.results29) rfl ⟨congrArg (AV.int .i64) hfinq, rfl⟩)
theorem mark_c (H : AHeap) (h : Int) : ACalls Tryz.prog 111 [.int .i64 h] H (fun v H' => v = .int .i64 (((h % 256).toNat : Nat) : Int) ∧ H' = H) := by
  refine AcT true Tryz.func111 ?_; intro hbel Q hQ
  have g'41 := @i64_and255
  refine runTf g'41 ?_
  exact hQ _ _ (end_plain0 (.inl rfl) hbel (x := .int .i64 (((h % 256).toNat : Nat) : Int)) (resT Tryz.results111) rfl ⟨rfl, rfl⟩)
open Go.RowKit
/-- The state of the search for the common divisor. -/
def gst (x y d : Int) : Nat → Nat
  | 0 => d.natAbs
  | 1 => Nat.gcd d.natAbs x.natAbs
  | _ + 2 => gcd3 x y d
def nst (x y : Int) : Nat → Nat
  | 0 => x.natAbs
  | _ + 1 => y.natAbs
theorem gcd_step (a b : Nat) : Nat.gcd b (a % b) = Nat.gcd a b := by rw [Nat.gcd_comm b, ← Nat.gcd_rec, Nat.gcd_comm]
theorem rot_ok {v : Vec} (h : vecOK v = true) : ∀ n, vecOK (rotN v n) = true
  | 0 => h
  | n + 1 => by
    have ih := vecOK_iff.1 (rot_ok h n)
    rw [vecOK_iff]
    unfold rotN
    simp only
    refine ⟨ih.1, by omega, by omega, ?_⟩
    rw [Int.neg_mul_neg]; omega
theorem dir0_ok {k : Nat} (h : k < 64) : vecOK (dir0 k) = true := by
  have := List.all_eq_true.1 dirs_ok k (by simp; omega)
  unfold dirN at this
  rwa [Nat.mod_eq_of_lt h, Nat.div_eq_of_lt h] at this
theorem rotN_D (v : Vec) : ∀ n, (rotN v n).2.2 = v.2.2
  | 0 => rfl
  | n + 1 => rotN_D v n
theorem abs4_c (H : AHeap) (n : Int) (h : -4611686018427387904 ≤ n ∧ n ≤ 4611686018427387904) : ACalls Tryz.prog 149 [.int .i64 n] H (fun v H' => v = .int .i64 ((n.natAbs : Nat) : Int) ∧ H' = H) := by
  refine AcT true Tryz.func149 ?_; intro hbel Q hQ
  refine runT ?_
  refine cond_split (fun h1 => ?_) (fun h1 => ?_)
  · have h1d := bsT h1
    have g'1 := (jn @h1 @h1d)
    refine runTf g'1 ?_
    exact hQ _ _ (end_plain0 (.inl rfl) hbel (x := .int .i64 (0 - n)) (resT Tryz.results149) rfl ⟨congrArg (AV.int .i64) (by omega), rfl⟩)
  · have h1d := bsT h1
    have g'2 := (jn @h1 @h1d)
    refine runTf g'2 ?_
    exact hQ _ _ (end_plain0 (.inl rfl) hbel (x := .int .i64 n) (resT Tryz.results149) rfl ⟨congrArg (AV.int .i64) (by omega), rfl⟩)
theorem gcd_n (H : AHeap) (a0 : Nat) (b0 : Nat) (c0 : Nat) : ACalls Tryz.prog 148 [.int .i64 ((a0 : Nat) : Int), .int .i64 ((b0 : Nat) : Int), .int .i64 ((c0 : Nat) : Int)] H (fun v H' => v = .int .i64 ((Nat.gcd (Nat.gcd a0 b0) c0 : Nat) : Int) ∧ H' = H) := by
  refine AcT true Tryz.func148 ?_; intro hbel Q hQ
  have g'3 := @rem_nat
  refine runTf g'3 ?_
  refine go_loop try_mixed (by kernel_rfl) (fun k F Hx => ∃ a : Nat, ∃ b : Nat, b = k ∧ Nat.gcd a b = Nat.gcd a0 b0 ∧ F = [(0, .int .i64 ((a : Nat) : Int)), (1, .int .i64 ((b : Nat) : Int)), (2, .int .i64 ((c0 : Nat) : Int))] ∧ H = Hx) (b0) ?_ ?_
  · refine ⟨_, _, _, ⟨a0, b0, by omega, rfl, rfl, rfl⟩, Abs.by0 hbel ?_⟩
    exact absW
  · rintro k0 F Hx ⟨a, b, hm0, hG, rfl, rfl⟩ J0 hJ0
    refine runTf g'3 ?_
    refine cond_split (fun h1 => ?_) (fun h1 => ?_)
    · have h1d := bsT h1
      have hlt : a % b < b := Nat.mod_lt _ (by omega)
      have g'4 := (jn @h1 (jn @h1d g'3))
      refine runTf g'4 ?_
      refine hJ0 _ _ ⟨a % b, by omega, _, _, _, ⟨b, a % b, by omega, by rw [← hG, gcd_step], rfl, rfl⟩, Abs.by0 hbel ?_⟩
      exact absW
    · have h1d := bsT h1
      obtain rfl : b = 0 := by omega
      rw [Nat.gcd_zero_right] at hG
      have g'5 := (jn @h1 (jn @h1d g'3))
      refine runTf g'5 ?_
      refine go_loop try_mixed (by kernel_rfl) (fun k F Hx => ∃ a2 : Nat, ∃ c : Nat, c = k ∧ Nat.gcd a2 c = Nat.gcd (Nat.gcd a0 b0) c0 ∧ F = [(0, .int .i64 ((a2 : Nat) : Int)), (2, .int .i64 ((c : Nat) : Int))] ∧ H = Hx) (c0) ?_ ?_
      · refine ⟨_, _, _, ⟨a, c0, by omega, by rw [hG], rfl, rfl⟩, Abs.by0 hbel ?_⟩
        exact absW
      · rintro k1 F Hx ⟨a2, c, hm1, hG, rfl, rfl⟩ J1 hJ1
        refine runTf g'5 ?_
        refine cond_split (fun h2 => ?_) (fun h2 => ?_)
        · have h2d := bsT h2
          have hlt : a2 % c < c := Nat.mod_lt _ (by omega)
          have g'6 := (jn @h2 (jn @h2d g'5))
          refine runTf g'6 ?_
          refine hJ1 _ _ ⟨a2 % c, by omega, _, _, _, ⟨c, a2 % c, by omega, by rw [← hG, gcd_step], rfl, rfl⟩, Abs.by0 hbel ?_⟩
          exact absW
        · have h2d := bsT h2
          obtain rfl : c = 0 := by omega
          rw [Nat.gcd_zero_right] at hG
          have hfing := hG
          have g'7 := (jn @h2 (jn @h2d g'5))
          refine runTf g'7 ?_
          exact hQ _ _ (end_plain0 (.inl rfl) hbel (x := .int .i64 ((a2 : Nat) : Int)) (resT Tryz.results148) rfl ⟨congrArg (AV.int .i64) (by rw [hfing]), rfl⟩)
theorem gcd_x (H : AHeap) (x y d : Int) (hd : 0 ≤ d) : ACalls Tryz.prog 148 [.int .i64 ((x.natAbs : Nat) : Int), .int .i64 ((y.natAbs : Nat) : Int), .int .i64 d] H (fun v H' => v = .int .i64 ((gcd3 x y d : Nat) : Int) ∧ H' = H) := by
  obtain ⟨n, rfl⟩ := Int.eq_ofNat_of_zero_le hd
  have h := gcd_n H x.natAbs y.natAbs n
  rw [← gcd3_comm, Int.natAbs_natCast]
  exact h
theorem rlow_c (H : AHeap) (x : Int) (y : Int) (d : Int) (hd : 0 < d) (kbx : -1152921504606846976 ≤ x ∧ x ≤ 1152921504606846976) (kby : -1152921504606846976 ≤ y ∧ y ≤ 1152921504606846976) (kbd : -1152921504606846976 ≤ d ∧ d ≤ 1152921504606846976) : ACalls Tryz.prog 98 [.int .i64 x, .int .i64 y, .int .i64 d] H (fun v H' => v = .agg [.int .i64 ((lowV x y d).1), .int .i64 ((lowV x y d).2.1), .int .i64 ((lowV x y d).2.2)] ∧ H' = H) := by
  refine AcT true Tryz.func98 ?_; intro hbel Q hQ
  refine runT ?_
  refine call_v (by kernel_rfl) (abs4_c _ x (by omega)) ?_
  refine runT ?_
  refine call_v (by kernel_rfl) (abs4_c _ y (by omega)) ?_
  refine runT ?_
  refine call_v (by kernel_rfl) (gcd_x _ x y d (by omega)) ?_
  have hg0 : 0 < gcd3 x y d := gcd3_pos (by omega)
  have t1 := tdiv_bd (a := x) (b := ((gcd3 x y d : Nat) : Int)) (by omega) (by omega)
  have t2 := tdiv_bd (a := y) (b := ((gcd3 x y d : Nat) : Int)) (by omega) (by omega)
  have t3 := tdiv_bd (a := d) (b := ((gcd3 x y d : Nat) : Int)) (by omega) (by omega)
  refine runT ?_
  exact hQ _ _ (end_plain (.inl rfl) hbel (x := .agg [.int .i64 (Int.tdiv x ((gcd3 x y d : Nat) : Int)), .int .i64 (Int.tdiv y ((gcd3 x y d : Nat) : Int)), .int .i64 (Int.tdiv d ((gcd3 x y d : Nat) : Int))]) (resT Tryz.results98) rfl ⟨rfl, rfl⟩)
theorem low_c (H : AHeap) (x : Int) (y : Int) (d : Int) (hd : 0 < d) (kbx : -1152921504606846976 ≤ x ∧ x ≤ 1152921504606846976) (kby : -1152921504606846976 ≤ y ∧ y ≤ 1152921504606846976) (kbd : -1152921504606846976 ≤ d ∧ d ≤ 1152921504606846976) : ACalls Tryz.prog 112 [.int .i64 x, .int .i64 y, .int .i64 d] H (fun v H' => v = .agg [.int .i64 ((lowV x y d).1), .int .i64 ((lowV x y d).2.1), .int .i64 ((lowV x y d).2.2)] ∧ H' = H) := by
  have hmx : (if x < 0 - x then 0 - x else x) = ((x.natAbs : Nat) : Int) := by split <;> omega
  have hmy : (if y < 0 - y then 0 - y else y) = ((y.natAbs : Nat) : Int) := by split <;> omega
  have hg00 : ((gst x y d 0 : Nat) : Int) = d := by simp only [gst]; omega
  have hg2 : gst x y d 2 = gcd3 x y d := rfl
  have hg0 : 0 < gcd3 x y d := gcd3_pos (by omega)
  have t1 := tdiv_bd (a := x) (b := ((gcd3 x y d : Nat) : Int)) (by omega) (by omega)
  have t2 := tdiv_bd (a := y) (b := ((gcd3 x y d : Nat) : Int)) (by omega) (by omega)
  have t3 := tdiv_bd (a := d) (b := ((gcd3 x y d : Nat) : Int)) (by omega) (by omega)
  refine AcT true Tryz.func112 ?_; intro hbel Q hQ
  have g'8 := (jn @hmx (jn @hmy (jn @hg2 @rem_nat)))
  refine runTf g'8 ?_
  refine go_loop try_mixed (by kernel_rfl) (fun k F Hx => ∃ j : Nat, j + k = 2 ∧ F = [(0, .int .i64 x), (1, .int .i64 y), (2, .int .i64 d), (6, .ptr (some (H.length, 0))), (7, .int .i64 ((gst x y d j : Nat) : Int)), (13, .agg [.int .i64 x, .int .i64 y]), (14, .int .i64 ((j : Nat) : Int))] ∧ Hx = H ++ [.cells true 0 [.int .i64 0, .int .i64 0, .int .i64 0]]) (2) ?_ ?_
  · refine ⟨_, _, _, ⟨0, by omega, rfl, rfl⟩, Abs.byG hbel [] rfl [0] (by decide) ?_⟩
    exact absWf (jn @hg00 @Int.natCast_zero)
  · rintro k0 F Hx ⟨j, hm0, rfl, rfl⟩ J0 hJ0
    refine runTf g'8 ?_
    refine cond_split (fun h1 => ?_) (fun h1 => ?_)
    · have h1d := bsT h1
      obtain rfl | rfl := (by omega : j = 0 ∨ j = 1)
      · skip
        have g'9 := (jn @h1 (jn @h1d g'8))
        refine runTf g'9 ?_
        refine go_loop try_mixed (by kernel_rfl) (fun k F Hx => ∃ a : Nat, ∃ b : Nat, b = k ∧ Nat.gcd a b = gst x y d (0 + 1) ∧ F = [(0, .int .i64 x), (1, .int .i64 y), (2, .int .i64 d), (6, .ptr (some (H.length, 0))), (7, .int .i64 ((a : Nat) : Int)), (9, .int .i64 ((b : Nat) : Int)), (13, .agg [.int .i64 x, .int .i64 y]), (14, .int .i64 0)] ∧ Hx = H ++ [.cells true 0 [.int .i64 0, .int .i64 0, .int .i64 0]]) (nst x y 0) ?_ ?_
        · refine ⟨_, _, _, ⟨gst x y d 0, nst x y 0, by omega, rfl, rfl, rfl⟩, Abs.byG hbel [] rfl [0] (by decide) ?_⟩
          exact absWf (jn @nst.eq_1 @nst.eq_2)
        · rintro k1 F Hx ⟨a, b, hm1, hG, rfl, rfl⟩ J1 hJ1
          refine runTf g'9 ?_
          refine cond_split (fun h2 => ?_) (fun h2 => ?_)
          · have h2d := bsT h2
            have hlt : a % b < b := Nat.mod_lt _ (by omega)
            have g'10 := (jn @h2 (jn @h2d (jn @int_bne (jn @int_beq g'9))))
            refine runTf g'10 ?_
            refine hJ1 _ _ ⟨a % b, by omega, _, _, _, ⟨b, a % b, by omega, by rw [← hG, gcd_step], rfl, rfl⟩, Abs.byG hbel [] rfl [0] (by decide) ?_⟩
            exact absWf @h2d
          · have h2d := bsT h2
            obtain rfl : b = 0 := by omega
            rw [Nat.gcd_zero_right] at hG
            have g'11 := (jn @h2 (jn @h2d (jn @int_bne (jn @int_beq g'9))))
            refine runTf g'11 ?_
            refine hJ0 _ _ ⟨k0 - 1, by omega, _, _, _, ⟨0 + 1, by omega, rfl, rfl⟩, Abs.byG hbel [] rfl [0] (by decide) ?_⟩
            exact absWf (jn @hG @h2d)
      · skip
        have g'12 := (jn @h1 (jn @h1d g'8))
        refine runTf g'12 ?_
        refine go_loop try_mixed (by kernel_rfl) (fun k F Hx => ∃ a : Nat, ∃ b : Nat, b = k ∧ Nat.gcd a b = gst x y d (1 + 1) ∧ F = [(0, .int .i64 x), (1, .int .i64 y), (2, .int .i64 d), (6, .ptr (some (H.length, 0))), (7, .int .i64 ((a : Nat) : Int)), (9, .int .i64 ((b : Nat) : Int)), (13, .agg [.int .i64 x, .int .i64 y]), (14, .int .i64 1)] ∧ Hx = H ++ [.cells true 0 [.int .i64 0, .int .i64 0, .int .i64 0]]) (nst x y 1) ?_ ?_
        · refine ⟨_, _, _, ⟨gst x y d 1, nst x y 1, by omega, rfl, rfl, rfl⟩, Abs.byG hbel [] rfl [0] (by decide) ?_⟩
          exact absWf (jn @nst.eq_1 @nst.eq_2)
        · rintro k1 F Hx ⟨a, b, hm1, hG, rfl, rfl⟩ J1 hJ1
          refine runTf g'12 ?_
          refine cond_split (fun h3 => ?_) (fun h3 => ?_)
          · have h3d := bsT h3
            have hlt : a % b < b := Nat.mod_lt _ (by omega)
            have g'13 := (jn @h3 (jn @h3d (jn @int_bne (jn @int_beq g'12))))
            refine runTf g'13 ?_
            refine hJ1 _ _ ⟨a % b, by omega, _, _, _, ⟨b, a % b, by omega, by rw [← hG, gcd_step], rfl, rfl⟩, Abs.byG hbel [] rfl [0] (by decide) ?_⟩
            exact absWf @h3d
          · have h3d := bsT h3
            obtain rfl : b = 0 := by omega
            rw [Nat.gcd_zero_right] at hG
            have g'14 := (jn @h3 (jn @h3d (jn @int_bne (jn @int_beq g'12))))
            refine runTf g'14 ?_
            refine hJ0 _ _ ⟨k0 - 1, by omega, _, _, _, ⟨1 + 1, by omega, rfl, rfl⟩, Abs.byG hbel [] rfl [0] (by decide) ?_⟩
            exact absWf (jn @hG @h3d)
    · have h1d := bsT h1
      obtain rfl : j = 2 := by omega
      skip
      have g'15 := (jn @h1 (jn @h1d g'8))
      refine runTf g'15 ?_
      exact hQ _ _ (end_plain (.inl rfl) hbel (x := .agg [.int .i64 (Int.tdiv x ((gcd3 x y d : Nat) : Int)), .int .i64 (Int.tdiv y ((gcd3 x y d : Nat) : Int)), .int .i64 (Int.tdiv d ((gcd3 x y d : Nat) : Int))]) (resT Tryz.results112) rfl ⟨rfl, rfl⟩)
theorem dir_c (H : AHeap) (h : Int) : ACalls Tryz.prog 53 [.int .i64 h] H (fun v H' => v = .agg [.int .i64 ((dirV h).1), .int .i64 ((dirV h).2.1), .int .i64 ((dirV h).2.2)] ∧ H' = H) := by
  have hK : ((h % 256).toNat % 64) < 64 := Nat.mod_lt _ (by decide)
  have hN : ((h % 256).toNat / 64) ≤ 3 := by omega
  have hkk := mul_bd (a := ((((h % 256).toNat % 64) : Nat) : Int)) (b := ((((h % 256).toNat % 64) : Nat) : Int)) (A := 63) (B := 63) (by omega) (by omega)
  refine AcT true Tryz.func53 ?_; intro hbel Q hQ
  have g'16 := (jn @rem_n64 @quo_n64)
  refine runTf g'16 ?_
  refine call_v (by kernel_rfl) (mark_c _ h) ?_
  refine runTf g'16 ?_
  refine call_v (by kernel_rfl) (low_c _ (4096 - (((((h % 256).toNat) % 64 : Nat) : Int) * ((((h % 256).toNat) % 64 : Nat) : Int))) (128 * ((((h % 256).toNat) % 64 : Nat) : Int)) (4096 + (((((h % 256).toNat) % 64 : Nat) : Int) * ((((h % 256).toNat) % 64 : Nat) : Int))) (by omega) (by omega) (by omega) (by omega)) ?_
  refine runTf g'16 ?_
  refine go_loop try_mixed (by kernel_rfl) (fun k F Hx => ∃ n : Nat, n + k = ((h % 256).toNat / 64) ∧ F = [(2, .ptr (some (H.length, 0))), (4, .ptr (some (H.length + 1, 0))), (21, .int .i64 ((((h % 256).toNat) / 64 : Nat) : Int)), (22, .int .i64 ((n : Nat) : Int))] ∧ Hx = H ++ [.cells true 0 [.int .i64 0, .int .i64 0, .int .i64 0], .cells true 0 [.int .i64 ((rotN (dir0 ((h % 256).toNat % 64)) n).1), .int .i64 ((rotN (dir0 ((h % 256).toNat % 64)) n).2.1), .int .i64 ((lowV (4096 - (((((h % 256).toNat) % 64 : Nat) : Int) * ((((h % 256).toNat) % 64 : Nat) : Int))) (128 * ((((h % 256).toNat) % 64 : Nat) : Int)) (4096 + (((((h % 256).toNat) % 64 : Nat) : Int) * ((((h % 256).toNat) % 64 : Nat) : Int)))).2.2)]]) (((h % 256).toNat / 64)) ?_ ?_
  · refine ⟨_, _, _, ⟨0, by omega, rfl, rfl⟩, Abs.byG hbel [] rfl [0, 1] (by decide) ?_⟩
    exact absWf (jn @rotN.eq_1 @dir0.eq_1)
  · rintro k0 F Hx ⟨n, hm0, rfl, rfl⟩ J0 hJ0
    refine runTf g'16 ?_
    refine cond_split (fun h1 => ?_) (fun h1 => ?_)
    · have h1d := bsT h1
      have hro := vecOK_iff.1 (rot_ok (dir0_ok hK) n)
      have g'17 := (jn @h1 (jn @h1d g'16))
      refine runTf g'17 ?_
      refine hJ0 _ _ ⟨k0 - 1, by omega, _, _, _, ⟨n + 1, by omega, rfl, rfl⟩, Abs.byG hbel [] rfl [0, 1] (by decide) ?_⟩
      exact absWf (jn @rotN.eq_2 @Int.zero_sub)
    · have h1d := bsT h1
      have hfinn : n = ((h % 256).toNat / 64) := by omega
      have g'18 := (jn @h1 (jn @h1d g'16))
      refine runTf g'18 ?_
      exact hQ _ _ (end_plain (.inl rfl) hbel (x := .agg [.int .i64 ((rotN (dir0 ((h % 256).toNat % 64)) n).1), .int .i64 ((rotN (dir0 ((h % 256).toNat % 64)) n).2.1), .int .i64 ((lowV (4096 - (((((h % 256).toNat) % 64 : Nat) : Int) * ((((h % 256).toNat) % 64 : Nat) : Int))) (128 * ((((h % 256).toNat) % 64 : Nat) : Int)) (4096 + (((((h % 256).toNat) % 64 : Nat) : Int) * ((((h % 256).toNat) % 64 : Nat) : Int)))).2.2)]) (resT Tryz.results53) rfl ⟨by subst hfinn; rw [show dirV h = rotN (dir0 ((h % 256).toNat % 64)) ((h % 256).toNat / 64) from rfl, rotN_D]; rfl, rfl⟩)
theorem rdir_c (H : AHeap) (h : Int) : ACalls Tryz.prog 39 [.int .i64 h] H (fun v H' => v = .agg [.int .i64 ((dirV h).1), .int .i64 ((dirV h).2.1), .int .i64 ((dirV h).2.2)] ∧ H' = H) := by
  have hK : ((h % 256).toNat % 64) < 64 := Nat.mod_lt _ (by decide)
  have hN : ((h % 256).toNat / 64) ≤ 3 := by omega
  have hkk := mul_bd (a := ((((h % 256).toNat % 64) : Nat) : Int)) (b := ((((h % 256).toNat % 64) : Nat) : Int)) (A := 63) (B := 63) (by omega) (by omega)
  refine AcT true Tryz.func39 ?_; intro hbel Q hQ
  have g'19 := (jn @rem_n64 @quo_n64)
  refine runTf g'19 ?_
  refine call_v (by kernel_rfl) (bmod_c _ h 256 (by omega) (by omega)) ?_
  refine runTf g'19 ?_
  refine call_v (by kernel_rfl) (rlow_c _ (4096 - (((((h % 256).toNat) % 64 : Nat) : Int) * ((((h % 256).toNat) % 64 : Nat) : Int))) (128 * ((((h % 256).toNat) % 64 : Nat) : Int)) (4096 + (((((h % 256).toNat) % 64 : Nat) : Int) * ((((h % 256).toNat) % 64 : Nat) : Int))) (by omega) (by omega) (by omega) (by omega)) ?_
  refine runTf g'19 ?_
  refine go_loop try_mixed (by kernel_rfl) (fun k F Hx => ∃ n : Nat, n + k = ((h % 256).toNat / 64) ∧ F = [(0, .int .i64 (((h % 256).toNat : Nat) : Int)), (2, .ptr (some (H.length, 0))), (4, .ptr (some (H.length + 1, 0))), (5, .int .i64 ((n : Nat) : Int))] ∧ Hx = H ++ [.cells true 0 [.int .i64 0, .int .i64 0, .int .i64 0], .cells true 0 [.int .i64 ((rotN (dir0 ((h % 256).toNat % 64)) n).1), .int .i64 ((rotN (dir0 ((h % 256).toNat % 64)) n).2.1), .int .i64 ((lowV (4096 - (((((h % 256).toNat) % 64 : Nat) : Int) * ((((h % 256).toNat) % 64 : Nat) : Int))) (128 * ((((h % 256).toNat) % 64 : Nat) : Int)) (4096 + (((((h % 256).toNat) % 64 : Nat) : Int) * ((((h % 256).toNat) % 64 : Nat) : Int)))).2.2)]]) (((h % 256).toNat / 64)) ?_ ?_
  · refine ⟨_, _, _, ⟨0, by omega, rfl, rfl⟩, Abs.byG hbel [] rfl [0, 1] (by decide) ?_⟩
    exact absWf (jn @rotN.eq_1 @dir0.eq_1)
  · rintro k0 F Hx ⟨n, hm0, rfl, rfl⟩ J0 hJ0
    refine runTf g'19 ?_
    refine cond_split (fun h1 => ?_) (fun h1 => ?_)
    · have h1d := bsT h1
      have hro := vecOK_iff.1 (rot_ok (dir0_ok hK) n)
      have g'20 := (jn @h1 (jn @h1d g'19))
      refine runTf g'20 ?_
      refine hJ0 _ _ ⟨k0 - 1, by omega, _, _, _, ⟨n + 1, by omega, rfl, rfl⟩, Abs.byG hbel [] rfl [0, 1] (by decide) ?_⟩
      exact absWf (jn @rotN.eq_2 @Int.zero_sub)
    · have h1d := bsT h1
      have hfinn : n = ((h % 256).toNat / 64) := by omega
      have g'21 := (jn @h1 (jn @h1d g'19))
      refine runTf g'21 ?_
      exact hQ _ _ (end_plain (.inl rfl) hbel (x := .agg [.int .i64 ((rotN (dir0 ((h % 256).toNat % 64)) n).1), .int .i64 ((rotN (dir0 ((h % 256).toNat % 64)) n).2.1), .int .i64 ((lowV (4096 - (((((h % 256).toNat) % 64 : Nat) : Int) * ((((h % 256).toNat) % 64 : Nat) : Int))) (128 * ((((h % 256).toNat) % 64 : Nat) : Int)) (4096 + (((((h % 256).toNat) % 64 : Nat) : Int) * ((((h % 256).toNat) % 64 : Nat) : Int)))).2.2)]) (resT Tryz.results39) rfl ⟨by subst hfinn; rw [show dirV h = rotN (dir0 ((h % 256).toNat % 64)) ((h % 256).toNat / 64) from rfl, rotN_D]; rfl, rfl⟩)
open Go.RowKit
theorem dirV_nat {n : Nat} (h : n < 256) : dirV ((n : Nat) : Int) = dirN n := by
  unfold dirV
  rw [show (((n : Nat) : Int) % 256).toNat = n by omega]
theorem bey_lt {v : Vec} {x y : Int} (h : halfI v.1 v.2.1 < halfI x y) : beyB v x y = false := by
  unfold beyB
  have := halfI_or v.1 v.2.1
  have := halfI_or x y
  rw [if_neg (by omega)]
  exact decide_eq_false (by omega)
theorem bey_gt {v : Vec} {x y : Int} (h : ¬ halfI v.1 v.2.1 < halfI x y) (h2 : ¬ halfI v.1 v.2.1 = halfI x y) : beyB v x y = true := by
  unfold beyB
  have := halfI_or v.1 v.2.1
  have := halfI_or x y
  rw [if_neg h2]
  exact decide_eq_true (by omega)
theorem bey_eq {v : Vec} {x y : Int} (h : halfI v.1 v.2.1 = halfI x y) : beyB v x y = decide (v.1 * y - v.2.1 * x < 0) := by
  unfold beyB; rw [if_pos h]; rfl
/-- As the reference asks it. -/
def lowB (x y : Int) : Bool := decide (y < 0) || (y == 0 && decide (x < 0))
def beyR (v1 v2 dx dy : Int) : Bool := bif (lowB v1 v2 != lowB dx dy) then lowB v1 v2 else decide (0 < dx * v2 - dy * v1)
theorem lowB_half {x y : Int} (h : ¬ (x = 0 ∧ y = 0)) : lowB x y = decide (halfI x y = 1) := by
  rw [Bool.eq_iff_iff]
  unfold lowB halfI
  simp only [Bool.or_eq_true, Bool.and_eq_true, decide_eq_true_eq, beq_iff_eq]
  split <;> omega
theorem vec_ne {v : Vec} (h : vecOK v = true) : ¬ (v.1 = 0 ∧ v.2.1 = 0) := by
  rintro ⟨a, b⟩
  have := vecOK_iff.1 h
  rw [a, b] at this
  have h1 := this.1.1
  have h2 : 0 < v.2.2 * v.2.2 := Int.mul_pos (by omega) (by omega)
  omega
theorem beyR_eq {v : Vec} (hv : vecOK v = true) {x y : Int} (hd : ¬ (x = 0 ∧ y = 0)) : beyR v.1 v.2.1 x y = beyB v x y := by
  unfold beyR beyB
  rw [lowB_half (vec_ne hv), lowB_half hd]
  have h1 := halfI_or v.1 v.2.1
  have h2 := halfI_or x y
  have hc : crs (v.1, v.2.1) (x, y) = -(x * v.2.1 - y * v.1) := by unfold crs; simp only; rw [Int.mul_comm v.1, Int.mul_comm v.2.1]; omega
  rw [hc]
  by_cases he : halfI v.1 v.2.1 = halfI x y
  · rw [if_pos he, he]
    simp only [bne_self_eq_false, cond_false]
    rw [Bool.eq_iff_iff]; simp only [decide_eq_true_eq]; omega
  · rw [if_neg he]
    rcases h1 with h1 | h1 <;> rcases h2 with h2 | h2 <;> rw [h1, h2] at he ⊢ <;> first | omega | rfl
def ptB (x y : Int) : Bool := within x 1048576 && within y 1048576
def towE (fx fy tx ty : Int) : Int := if (ptB fx fy && ptB tx ty) = true then (if fx = tx ∧ fy = ty then 9 else 0) else 1
def towI (fx fy tx ty : Int) : Int := if towE fx fy tx ty = 0 then ((towN (tx - fx) (ty - fy) 256 : Nat) : Int) else 0
theorem mvpt_c (H : AHeap) (x : Int) (y : Int) : ACalls Tryz.prog 95 [.agg [.int .i64 x, .int .i64 y]] H (fun v H' => v = .bool (ptB x y) ∧ H' = H) := by
  refine AcT true Tryz.func95 ?_; intro hbel Q hQ
  refine runT ?_
  refine call_v (by kernel_rfl) (mnear_c _ x) ?_
  refine runT ?_
  refine gd_split (fun h1 => ?_) (fun h1 => ?_)
  · have h1d := bsT h1
    have g'1 := (jn @h1 @h1d)
    refine runTf g'1 ?_
    refine call_v (by kernel_rfl) (mnear_c _ y) ?_
    refine runTf g'1 ?_
    exact hQ _ _ (end_plain (.inl rfl) hbel (x := .bool (within y 1048576)) (resT Tryz.results95) rfl ⟨by simp [ptB, h1d], rfl⟩)
  · have h1d := bsT h1
    have g'2 := (jn @h1 @h1d)
    refine runTf g'2 ?_
    exact hQ _ _ (end_plain (.inl rfl) hbel (x := .bool false) (resT Tryz.results95) rfl ⟨by simp [ptB, h1d], rfl⟩)
theorem bpt_c (H : AHeap) (x : Int) (y : Int) : ACalls Tryz.prog 97 [.agg [.int .i64 x, .int .i64 y]] H (fun v H' => v = .bool (ptB x y) ∧ H' = H) := by
  refine AcT true Tryz.func97 ?_; intro hbel Q hQ
  refine runT ?_
  refine call_v (by kernel_rfl) (bsize_c _ _ _ (by decide)) ?_
  refine runT ?_
  refine gd_split (fun h1 => ?_) (fun h1 => ?_)
  · have h1d := bsT h1
    have g'3 := (jn @h1 @h1d)
    refine runTf g'3 ?_
    refine call_v (by kernel_rfl) (bsize_c _ _ _ (by decide)) ?_
    refine runTf g'3 ?_
    exact hQ _ _ (end_plain (.inl rfl) hbel (x := .bool (within y 1048576)) (resT Tryz.results97) rfl ⟨by simp [ptB, h1d], rfl⟩)
  · have h1d := bsT h1
    have g'4 := (jn @h1 @h1d)
    refine runTf g'4 ?_
    exact hQ _ _ (end_plain (.inl rfl) hbel (x := .bool false) (resT Tryz.results97) rfl ⟨by simp [ptB, h1d], rfl⟩)
theorem mhalf_c (H : AHeap) (x : Int) (y : Int) : ACalls Tryz.prog 96 [.int .i64 x, .int .i64 y] H (fun v H' => v = .int .i64 (halfI x y) ∧ H' = H) := by
  refine AcT true Tryz.func96 ?_; intro hbel Q hQ
  refine runT ?_
  refine gd_split (fun h1 => ?_) (fun h1 => ?_)
  · have h1d := bsT h1
    have g'5 := (jn @h1 @h1d)
    refine runTf g'5 ?_
    refine gd_split (fun h2 => ?_) (fun h2 => ?_)
    · have h2d := bsT h2
      have g'6 := (jn @h2 (jn @h2d (jn @int_bne (jn @int_beq g'5))))
      refine runTf g'6 ?_
      refine cond_split (fun h3 => ?_) (fun h3 => ?_)
      · have h3d := bsT h3
        have g'7 := (jn @h3 (jn @h3d g'6))
        refine runTf g'7 ?_
        exact hQ _ _ (end_plain0 (.inl rfl) hbel (x := .int .i64 0) (resT Tryz.results96) rfl ⟨congrArg (AV.int .i64) (by unfold halfI; first | rw [if_pos (by omega)] | rw [if_neg (by omega)]), rfl⟩)
      · have h3d := bsT h3
        have g'8 := (jn @h3 (jn @h3d g'6))
        refine runTf g'8 ?_
        exact hQ _ _ (end_plain0 (.inl rfl) hbel (x := .int .i64 1) (resT Tryz.results96) rfl ⟨congrArg (AV.int .i64) (by unfold halfI; first | rw [if_pos (by omega)] | rw [if_neg (by omega)]), rfl⟩)
    · have h2d := bsT h2
      have g'9 := (jn @h2 (jn @h2d (jn @int_bne (jn @int_beq g'5))))
      refine runTf g'9 ?_
      exact hQ _ _ (end_plain0 (.inl rfl) hbel (x := .int .i64 1) (resT Tryz.results96) rfl ⟨congrArg (AV.int .i64) (by unfold halfI; first | rw [if_pos (by omega)] | rw [if_neg (by omega)]), rfl⟩)
  · have h1d := bsT h1
    have g'10 := (jn @h1 @h1d)
    refine runTf g'10 ?_
    exact hQ _ _ (end_plain0 (.inl rfl) hbel (x := .int .i64 0) (resT Tryz.results96) rfl ⟨congrArg (AV.int .i64) (by unfold halfI; first | rw [if_pos (by omega)] | rw [if_neg (by omega)]), rfl⟩)
theorem beyond_c (H : AHeap) (v1 : Int) (v2 : Int) (v3 : Int) (dx : Int) (dy : Int) (k1 : -8065 ≤ v1 ∧ v1 ≤ 8065) (k2 : -8065 ≤ v2 ∧ v2 ≤ 8065) (k3 : -4194304 ≤ dx ∧ dx ≤ 4194304) (k4 : -4194304 ≤ dy ∧ dy ≤ 4194304) : ACalls Tryz.prog 38 [.agg [.int .i64 v1, .int .i64 v2, .int .i64 v3], .agg [.int .i64 dx, .int .i64 dy]] H (fun v H' => v = .bool (beyR v1 v2 dx dy) ∧ H' = H) := by
  have hm1 := mul_bd (a := dx) (b := v2) (A := 4194304) (B := 8065) (by omega) (by omega)
  have hm2 := mul_bd (a := dy) (b := v1) (A := 4194304) (B := 8065) (by omega) (by omega)
  refine AcT true Tryz.func38 ?_; intro hbel Q hQ
  refine runT ?_
  refine gd_split (fun h1 => ?_) (fun h1 => ?_)
  · have h1d := bsT h1
    have g'11 := (jn @h1 @h1d)
    refine runTf g'11 ?_
    refine gd_split (fun h2 => ?_) (fun h2 => ?_)
    · have h2d := bsT h2
      have h2n := h2
      try simp only [int_bne, int_beq] at h2n
      have g'12 := (jn @h2 (jn @h2n (jn @int_bne (jn @int_beq g'11))))
      refine runTf g'12 ?_
      refine gd_split (fun h3 => ?_) (fun h3 => ?_)
      · have h3d := bsT h3
        have g'13 := (jn @h3 (jn @h3d g'12))
        refine runTf g'13 ?_
        refine gd_split (fun h4 => ?_) (fun h4 => ?_)
        · have h4d := bsT h4
          have h4n := h4
          try simp only [int_bne, int_beq] at h4n
          have g'14 := (jn @h4 (jn @h4n g'13))
          refine runTf g'14 ?_
          refine cond_split (fun h5 => ?_) (fun h5 => ?_)
          · have h5d := bsT h5
            try simp at h5d
            have h5n := h5
            try simp only [int_bne, int_beq] at h5n
            have g'15 := (jn @h5 (jn @h5n g'14))
            refine runTf g'15 ?_
            exact hQ _ _ (end_plain (.inl rfl) hbel (x := .bool (decide (v1 < 0))) (resT Tryz.results38) rfl ⟨by first | (simp [beyR, lowB, h1d, h3d, h2d, h4d, h5d, h1, h2, h3, h4, h5, h2d, h4d, h5d]; done) | (simp_all [beyR, lowB]; done) | (simp_all [beyR, lowB]; omega) | (have e1 : lowB v1 v2 = decide (v2 < 0 ∨ (v2 = 0 ∧ v1 < 0)) := (by rw [Bool.eq_iff_iff]; simp [lowB]); have e2 : lowB dx dy = decide (dy < 0 ∨ (dy = 0 ∧ dx < 0)) := (by rw [Bool.eq_iff_iff]; simp [lowB]); unfold beyR; rw [e1, e2]; first | (rw [decide_eq_true (by omega), decide_eq_true (by omega)]; simp) | (rw [decide_eq_true (by omega), decide_eq_false (by omega)]; simp) | (rw [decide_eq_false (by omega), decide_eq_true (by omega)]; simp) | (rw [decide_eq_false (by omega), decide_eq_false (by omega)]; simp)), rfl⟩)
          · have h5d := bsT h5
            try simp at h5d
            have h5n := h5
            try simp only [int_bne, int_beq] at h5n
            have g'16 := (jn @h5 (jn @h5n g'14))
            refine runTf g'16 ?_
            exact hQ _ _ (end_plain (.inl rfl) hbel (x := .bool (decide (0 < ((dx * v2) - (dy * v1))))) (resT Tryz.results38) rfl ⟨by first | (simp [beyR, lowB, h1d, h3d, h2d, h4d, h5d, h1, h2, h3, h4, h5, h2d, h4d, h5d]; done) | (simp_all [beyR, lowB]; done) | (simp_all [beyR, lowB]; omega) | (have e1 : lowB v1 v2 = decide (v2 < 0 ∨ (v2 = 0 ∧ v1 < 0)) := (by rw [Bool.eq_iff_iff]; simp [lowB]); have e2 : lowB dx dy = decide (dy < 0 ∨ (dy = 0 ∧ dx < 0)) := (by rw [Bool.eq_iff_iff]; simp [lowB]); unfold beyR; rw [e1, e2]; first | (rw [decide_eq_true (by omega), decide_eq_true (by omega)]; simp) | (rw [decide_eq_true (by omega), decide_eq_false (by omega)]; simp) | (rw [decide_eq_false (by omega), decide_eq_true (by omega)]; simp) | (rw [decide_eq_false (by omega), decide_eq_false (by omega)]; simp)), rfl⟩)
        · have h4d := bsT h4
          have h4n := h4
          try simp only [int_bne, int_beq] at h4n
          have g'17 := (jn @h4 (jn @h4n g'13))
          refine runTf g'17 ?_
          refine cond_split (fun h6 => ?_) (fun h6 => ?_)
          · have h6d := bsT h6
            have g'18 := (jn @h6 (jn @h6d g'17))
            refine runTf g'18 ?_
            exact hQ _ _ (end_plain (.inl rfl) hbel (x := .bool true) (resT Tryz.results38) rfl ⟨by first | (simp [beyR, lowB, h1d, h3d, h6d, h2d, h4d, h1, h2, h3, h4, h6, h2d, h4d]; done) | (simp_all [beyR, lowB]; done) | (simp_all [beyR, lowB]; omega) | (have e1 : lowB v1 v2 = decide (v2 < 0 ∨ (v2 = 0 ∧ v1 < 0)) := (by rw [Bool.eq_iff_iff]; simp [lowB]); have e2 : lowB dx dy = decide (dy < 0 ∨ (dy = 0 ∧ dx < 0)) := (by rw [Bool.eq_iff_iff]; simp [lowB]); unfold beyR; rw [e1, e2]; first | (rw [decide_eq_true (by omega), decide_eq_true (by omega)]; simp) | (rw [decide_eq_true (by omega), decide_eq_false (by omega)]; simp) | (rw [decide_eq_false (by omega), decide_eq_true (by omega)]; simp) | (rw [decide_eq_false (by omega), decide_eq_false (by omega)]; simp)), rfl⟩)
          · have h6d := bsT h6
            have g'19 := (jn @h6 (jn @h6d g'17))
            refine runTf g'19 ?_
            exact hQ _ _ (end_plain (.inl rfl) hbel (x := .bool (decide (0 < ((dx * v2) - (dy * v1))))) (resT Tryz.results38) rfl ⟨by first | (simp [beyR, lowB, h1d, h3d, h6d, h2d, h4d, h1, h2, h3, h4, h6, h2d, h4d]; done) | (simp_all [beyR, lowB]; done) | (simp_all [beyR, lowB]; omega) | (have e1 : lowB v1 v2 = decide (v2 < 0 ∨ (v2 = 0 ∧ v1 < 0)) := (by rw [Bool.eq_iff_iff]; simp [lowB]); have e2 : lowB dx dy = decide (dy < 0 ∨ (dy = 0 ∧ dx < 0)) := (by rw [Bool.eq_iff_iff]; simp [lowB]); unfold beyR; rw [e1, e2]; first | (rw [decide_eq_true (by omega), decide_eq_true (by omega)]; simp) | (rw [decide_eq_true (by omega), decide_eq_false (by omega)]; simp) | (rw [decide_eq_false (by omega), decide_eq_true (by omega)]; simp) | (rw [decide_eq_false (by omega), decide_eq_false (by omega)]; simp)), rfl⟩)
      · have h3d := bsT h3
        have g'20 := (jn @h3 (jn @h3d g'12))
        refine runTf g'20 ?_
        refine cond_split (fun h7 => ?_) (fun h7 => ?_)
        · have h7d := bsT h7
          have g'21 := (jn @h7 (jn @h7d g'20))
          refine runTf g'21 ?_
          exact hQ _ _ (end_plain (.inl rfl) hbel (x := .bool false) (resT Tryz.results38) rfl ⟨by first | (simp [beyR, lowB, h1d, h3d, h7d, h2d, h1, h2, h3, h7, h2d]; done) | (simp_all [beyR, lowB]; done) | (simp_all [beyR, lowB]; omega) | (have e1 : lowB v1 v2 = decide (v2 < 0 ∨ (v2 = 0 ∧ v1 < 0)) := (by rw [Bool.eq_iff_iff]; simp [lowB]); have e2 : lowB dx dy = decide (dy < 0 ∨ (dy = 0 ∧ dx < 0)) := (by rw [Bool.eq_iff_iff]; simp [lowB]); unfold beyR; rw [e1, e2]; first | (rw [decide_eq_true (by omega), decide_eq_true (by omega)]; simp) | (rw [decide_eq_true (by omega), decide_eq_false (by omega)]; simp) | (rw [decide_eq_false (by omega), decide_eq_true (by omega)]; simp) | (rw [decide_eq_false (by omega), decide_eq_false (by omega)]; simp)), rfl⟩)
        · have h7d := bsT h7
          have g'22 := (jn @h7 (jn @h7d g'20))
          refine runTf g'22 ?_
          exact hQ _ _ (end_plain (.inl rfl) hbel (x := .bool (decide (0 < ((dx * v2) - (dy * v1))))) (resT Tryz.results38) rfl ⟨by first | (simp [beyR, lowB, h1d, h3d, h7d, h2d, h1, h2, h3, h7, h2d]; done) | (simp_all [beyR, lowB]; done) | (simp_all [beyR, lowB]; omega) | (have e1 : lowB v1 v2 = decide (v2 < 0 ∨ (v2 = 0 ∧ v1 < 0)) := (by rw [Bool.eq_iff_iff]; simp [lowB]); have e2 : lowB dx dy = decide (dy < 0 ∨ (dy = 0 ∧ dx < 0)) := (by rw [Bool.eq_iff_iff]; simp [lowB]); unfold beyR; rw [e1, e2]; first | (rw [decide_eq_true (by omega), decide_eq_true (by omega)]; simp) | (rw [decide_eq_true (by omega), decide_eq_false (by omega)]; simp) | (rw [decide_eq_false (by omega), decide_eq_true (by omega)]; simp) | (rw [decide_eq_false (by omega), decide_eq_false (by omega)]; simp)), rfl⟩)
    · have h2d := bsT h2
      have h2n := h2
      try simp only [int_bne, int_beq] at h2n
      have g'23 := (jn @h2 (jn @h2n (jn @int_bne (jn @int_beq g'11))))
      refine runTf g'23 ?_
      refine gd_split (fun h8 => ?_) (fun h8 => ?_)
      · have h8d := bsT h8
        have g'24 := (jn @h8 (jn @h8d g'23))
        refine runTf g'24 ?_
        refine gd_split (fun h9 => ?_) (fun h9 => ?_)
        · have h9d := bsT h9
          have h9n := h9
          try simp only [int_bne, int_beq] at h9n
          have g'25 := (jn @h9 (jn @h9n g'24))
          refine runTf g'25 ?_
          refine cond_split (fun h10 => ?_) (fun h10 => ?_)
          · have h10d := bsT h10
            try simp at h10d
            have h10n := h10
            try simp only [int_bne, int_beq] at h10n
            have g'26 := (jn @h10 (jn @h10n g'25))
            refine runTf g'26 ?_
            exact hQ _ _ (end_plain (.inl rfl) hbel (x := .bool false) (resT Tryz.results38) rfl ⟨by first | (simp [beyR, lowB, h1d, h8d, h2d, h9d, h10d, h1, h2, h8, h9, h10, h2d, h9d, h10d]; done) | (simp_all [beyR, lowB]; done) | (simp_all [beyR, lowB]; omega) | (have e1 : lowB v1 v2 = decide (v2 < 0 ∨ (v2 = 0 ∧ v1 < 0)) := (by rw [Bool.eq_iff_iff]; simp [lowB]); have e2 : lowB dx dy = decide (dy < 0 ∨ (dy = 0 ∧ dx < 0)) := (by rw [Bool.eq_iff_iff]; simp [lowB]); unfold beyR; rw [e1, e2]; first | (rw [decide_eq_true (by omega), decide_eq_true (by omega)]; simp) | (rw [decide_eq_true (by omega), decide_eq_false (by omega)]; simp) | (rw [decide_eq_false (by omega), decide_eq_true (by omega)]; simp) | (rw [decide_eq_false (by omega), decide_eq_false (by omega)]; simp)), rfl⟩)
          · have h10d := bsT h10
            try simp at h10d
            have h10n := h10
            try simp only [int_bne, int_beq] at h10n
            have g'27 := (jn @h10 (jn @h10n g'25))
            refine runTf g'27 ?_
            exact hQ _ _ (end_plain (.inl rfl) hbel (x := .bool (decide (0 < ((dx * v2) - (dy * v1))))) (resT Tryz.results38) rfl ⟨by first | (simp [beyR, lowB, h1d, h8d, h2d, h9d, h10d, h1, h2, h8, h9, h10, h2d, h9d, h10d]; done) | (simp_all [beyR, lowB]; done) | (simp_all [beyR, lowB]; omega) | (have e1 : lowB v1 v2 = decide (v2 < 0 ∨ (v2 = 0 ∧ v1 < 0)) := (by rw [Bool.eq_iff_iff]; simp [lowB]); have e2 : lowB dx dy = decide (dy < 0 ∨ (dy = 0 ∧ dx < 0)) := (by rw [Bool.eq_iff_iff]; simp [lowB]); unfold beyR; rw [e1, e2]; first | (rw [decide_eq_true (by omega), decide_eq_true (by omega)]; simp) | (rw [decide_eq_true (by omega), decide_eq_false (by omega)]; simp) | (rw [decide_eq_false (by omega), decide_eq_true (by omega)]; simp) | (rw [decide_eq_false (by omega), decide_eq_false (by omega)]; simp)), rfl⟩)
        · have h9d := bsT h9
          have h9n := h9
          try simp only [int_bne, int_beq] at h9n
          have g'28 := (jn @h9 (jn @h9n g'24))
          refine runTf g'28 ?_
          exact hQ _ _ (end_plain (.inl rfl) hbel (x := .bool (decide (0 < ((dx * v2) - (dy * v1))))) (resT Tryz.results38) rfl ⟨by first | (simp [beyR, lowB, h1d, h8d, h2d, h9d, h1, h2, h8, h9, h2d, h9d]; done) | (simp_all [beyR, lowB]; done) | (simp_all [beyR, lowB]; omega) | (have e1 : lowB v1 v2 = decide (v2 < 0 ∨ (v2 = 0 ∧ v1 < 0)) := (by rw [Bool.eq_iff_iff]; simp [lowB]); have e2 : lowB dx dy = decide (dy < 0 ∨ (dy = 0 ∧ dx < 0)) := (by rw [Bool.eq_iff_iff]; simp [lowB]); unfold beyR; rw [e1, e2]; first | (rw [decide_eq_true (by omega), decide_eq_true (by omega)]; simp) | (rw [decide_eq_true (by omega), decide_eq_false (by omega)]; simp) | (rw [decide_eq_false (by omega), decide_eq_true (by omega)]; simp) | (rw [decide_eq_false (by omega), decide_eq_false (by omega)]; simp)), rfl⟩)
      · have h8d := bsT h8
        have g'29 := (jn @h8 (jn @h8d g'23))
        refine runTf g'29 ?_
        exact hQ _ _ (end_plain (.inl rfl) hbel (x := .bool false) (resT Tryz.results38) rfl ⟨by first | (simp [beyR, lowB, h1d, h8d, h2d, h1, h2, h8, h2d]; done) | (simp_all [beyR, lowB]; done) | (simp_all [beyR, lowB]; omega) | (have e1 : lowB v1 v2 = decide (v2 < 0 ∨ (v2 = 0 ∧ v1 < 0)) := (by rw [Bool.eq_iff_iff]; simp [lowB]); have e2 : lowB dx dy = decide (dy < 0 ∨ (dy = 0 ∧ dx < 0)) := (by rw [Bool.eq_iff_iff]; simp [lowB]); unfold beyR; rw [e1, e2]; first | (rw [decide_eq_true (by omega), decide_eq_true (by omega)]; simp) | (rw [decide_eq_true (by omega), decide_eq_false (by omega)]; simp) | (rw [decide_eq_false (by omega), decide_eq_true (by omega)]; simp) | (rw [decide_eq_false (by omega), decide_eq_false (by omega)]; simp)), rfl⟩)
  · have h1d := bsT h1
    have g'30 := (jn @h1 @h1d)
    refine runTf g'30 ?_
    refine gd_split (fun h11 => ?_) (fun h11 => ?_)
    · have h11d := bsT h11
      have g'31 := (jn @h11 (jn @h11d g'30))
      refine runTf g'31 ?_
      refine gd_split (fun h12 => ?_) (fun h12 => ?_)
      · have h12d := bsT h12
        have h12n := h12
        try simp only [int_bne, int_beq] at h12n
        have g'32 := (jn @h12 (jn @h12n (jn @int_bne (jn @int_beq g'31))))
        refine runTf g'32 ?_
        refine cond_split (fun h13 => ?_) (fun h13 => ?_)
        · have h13d := bsT h13
          try simp at h13d
          have h13n := h13
          try simp only [int_bne, int_beq] at h13n
          have g'33 := (jn @h13 (jn @h13n g'32))
          refine runTf g'33 ?_
          exact hQ _ _ (end_plain (.inl rfl) hbel (x := .bool true) (resT Tryz.results38) rfl ⟨by first | (simp [beyR, lowB, h1d, h11d, h12d, h13d, h1, h11, h12, h13, h12d, h13d]; done) | (simp_all [beyR, lowB]; done) | (simp_all [beyR, lowB]; omega) | (have e1 : lowB v1 v2 = decide (v2 < 0 ∨ (v2 = 0 ∧ v1 < 0)) := (by rw [Bool.eq_iff_iff]; simp [lowB]); have e2 : lowB dx dy = decide (dy < 0 ∨ (dy = 0 ∧ dx < 0)) := (by rw [Bool.eq_iff_iff]; simp [lowB]); unfold beyR; rw [e1, e2]; first | (rw [decide_eq_true (by omega), decide_eq_true (by omega)]; simp) | (rw [decide_eq_true (by omega), decide_eq_false (by omega)]; simp) | (rw [decide_eq_false (by omega), decide_eq_true (by omega)]; simp) | (rw [decide_eq_false (by omega), decide_eq_false (by omega)]; simp)), rfl⟩)
        · have h13d := bsT h13
          try simp at h13d
          have h13n := h13
          try simp only [int_bne, int_beq] at h13n
          have g'34 := (jn @h13 (jn @h13n g'32))
          refine runTf g'34 ?_
          exact hQ _ _ (end_plain (.inl rfl) hbel (x := .bool (decide (0 < ((dx * v2) - (dy * v1))))) (resT Tryz.results38) rfl ⟨by first | (simp [beyR, lowB, h1d, h11d, h12d, h13d, h1, h11, h12, h13, h12d, h13d]; done) | (simp_all [beyR, lowB]; done) | (simp_all [beyR, lowB]; omega) | (have e1 : lowB v1 v2 = decide (v2 < 0 ∨ (v2 = 0 ∧ v1 < 0)) := (by rw [Bool.eq_iff_iff]; simp [lowB]); have e2 : lowB dx dy = decide (dy < 0 ∨ (dy = 0 ∧ dx < 0)) := (by rw [Bool.eq_iff_iff]; simp [lowB]); unfold beyR; rw [e1, e2]; first | (rw [decide_eq_true (by omega), decide_eq_true (by omega)]; simp) | (rw [decide_eq_true (by omega), decide_eq_false (by omega)]; simp) | (rw [decide_eq_false (by omega), decide_eq_true (by omega)]; simp) | (rw [decide_eq_false (by omega), decide_eq_false (by omega)]; simp)), rfl⟩)
      · have h12d := bsT h12
        have h12n := h12
        try simp only [int_bne, int_beq] at h12n
        have g'35 := (jn @h12 (jn @h12n (jn @int_bne (jn @int_beq g'31))))
        refine runTf g'35 ?_
        exact hQ _ _ (end_plain (.inl rfl) hbel (x := .bool true) (resT Tryz.results38) rfl ⟨by first | (simp [beyR, lowB, h1d, h11d, h12d, h1, h11, h12, h12d]; done) | (simp_all [beyR, lowB]; done) | (simp_all [beyR, lowB]; omega) | (have e1 : lowB v1 v2 = decide (v2 < 0 ∨ (v2 = 0 ∧ v1 < 0)) := (by rw [Bool.eq_iff_iff]; simp [lowB]); have e2 : lowB dx dy = decide (dy < 0 ∨ (dy = 0 ∧ dx < 0)) := (by rw [Bool.eq_iff_iff]; simp [lowB]); unfold beyR; rw [e1, e2]; first | (rw [decide_eq_true (by omega), decide_eq_true (by omega)]; simp) | (rw [decide_eq_true (by omega), decide_eq_false (by omega)]; simp) | (rw [decide_eq_false (by omega), decide_eq_true (by omega)]; simp) | (rw [decide_eq_false (by omega), decide_eq_false (by omega)]; simp)), rfl⟩)
    · have h11d := bsT h11
      have g'36 := (jn @h11 (jn @h11d g'30))
      refine runTf g'36 ?_
      exact hQ _ _ (end_plain (.inl rfl) hbel (x := .bool (decide (0 < ((dx * v2) - (dy * v1))))) (resT Tryz.results38) rfl ⟨by first | (simp [beyR, lowB, h1d, h11d, h1, h11]; done) | (simp_all [beyR, lowB]; done) | (simp_all [beyR, lowB]; omega) | (have e1 : lowB v1 v2 = decide (v2 < 0 ∨ (v2 = 0 ∧ v1 < 0)) := (by rw [Bool.eq_iff_iff]; simp [lowB]); have e2 : lowB dx dy = decide (dy < 0 ∨ (dy = 0 ∧ dx < 0)) := (by rw [Bool.eq_iff_iff]; simp [lowB]); unfold beyR; rw [e1, e2]; first | (rw [decide_eq_true (by omega), decide_eq_true (by omega)]; simp) | (rw [decide_eq_true (by omega), decide_eq_false (by omega)]; simp) | (rw [decide_eq_false (by omega), decide_eq_true (by omega)]; simp) | (rw [decide_eq_false (by omega), decide_eq_false (by omega)]; simp)), rfl⟩)
theorem toward_c (H : AHeap) (fx : Int) (fy : Int) (tx : Int) (ty : Int) : ACalls Tryz.prog 36 [.agg [.int .i64 fx, .int .i64 fy], .agg [.int .i64 tx, .int .i64 ty]] H (fun v H' => v = .tup [.int .i64 (towI fx fy tx ty), .int .i64 (towE fx fy tx ty)] ∧ H' = H) := by
  refine AcT true Tryz.func36 ?_; intro hbel Q hQ
  refine runT ?_
  refine call_v (by kernel_rfl) (mvpt_c _ fx fy) ?_
  refine runT ?_
  refine gd_split (fun h1 => ?_) (fun h1 => ?_)
  · have h1d := bsT h1
    have hp1 := h1d
    simp only [ptB, Bool.and_eq_true, within_iff] at hp1
    have g'37 := (jn @h1 @h1d)
    refine runTf g'37 ?_
    refine call_v (by kernel_rfl) (mvpt_c _ tx ty) ?_
    refine runTf g'37 ?_
    refine cond_split (fun h2 => ?_) (fun h2 => ?_)
    · have h2d := bsT h2
      have g'38 := (jn @h2 (jn @h2d g'37))
      refine runTf g'38 ?_
      exact hQ _ _ (end_plain (.inl rfl) hbel (x := .tup [.int .i64 0, .int .i64 1]) (resT Tryz.results36) rfl ⟨by first | (simp [towI, towE, h1d, h2d]; done) | (simp [towI, hfinE]; done) | (rw [show towI fx fy tx ty = ((towN (tx - fx) (ty - fy) 256 : Nat) : Int) from if_pos hfinE, hfinE]), rfl⟩)
    · have h2d := bsT h2
      have hp2 := h2d
      simp only [ptB, Bool.and_eq_true, within_iff] at hp2
      have g'39 := (jn @h2 (jn @h2d g'37))
      refine runTf g'39 ?_
      refine cond_split (fun h3 => ?_) (fun h3 => ?_)
      · have h3d := bsT h3
        have h3n := h3
        try simp only [int_bne, int_beq] at h3n
        have g'40 := (jn @h3 (jn @h3d (jn @h3n (jn @int_bne (jn @int_beq g'39)))))
        refine runTf g'40 ?_
        exact hQ _ _ (end_plain (.inl rfl) hbel (x := .tup [.int .i64 0, .int .i64 9]) (resT Tryz.results36) rfl ⟨by first | (simp [towI, towE, h1d, h2d, h3d]; done) | (simp [towI, hfinE]; done) | (rw [show towI fx fy tx ty = ((towN (tx - fx) (ty - fy) 256 : Nat) : Int) from if_pos hfinE, hfinE]), rfl⟩)
      · have h3d := bsT h3
        have h3n := h3
        try simp only [int_bne, int_beq] at h3n
        have hfinE : towE fx fy tx ty = 0 := by unfold towE; simp_all
        have g'41 := (jn @h3 (jn @h3d (jn @h3n (jn @int_bne (jn @int_beq g'39)))))
        refine runTf g'41 ?_
        refine go_loop try_mixed (by kernel_rfl) (fun k F Hx => ∃ n : Nat, n + k = 256 ∧ F = [(6, .int .i64 (tx - fx)), (7, .int .i64 (ty - fy)), (8, .int .i64 ((towN (tx - fx) (ty - fy) n : Nat) : Int)), (36, .int .i64 ((n : Nat) : Int))] ∧ H = Hx) (256) ?_ ?_
        · refine ⟨_, _, _, ⟨0, by omega, rfl, rfl⟩, Abs.byN hbel ?_⟩
          exact absWf (jn @towN.eq_1 @Int.natCast_zero)
        · rintro k0 F Hx ⟨n, hm0, rfl, rfl⟩ J0 hJ0
          refine runTf g'41 ?_
          refine cond_split (fun h4 => ?_) (fun h4 => ?_)
          · have h4d := bsT h4
            have hdv := vecOK_iff.1 (dirV_ok ((n : Nat) : Int))
            have hdn := dirV_nat (n := n) (by omega)
            have hm1 := mul_bd (a := (dirV ((n : Nat) : Int)).1) (b := (ty - fy)) (A := 8065) (B := 2097152) (by omega) (by omega)
            have hm2 := mul_bd (a := (dirV ((n : Nat) : Int)).2.1) (b := (tx - fx)) (A := 8065) (B := 2097152) (by omega) (by omega)
            have g'42 := (jn @h4 (jn @h4d g'41))
            refine runTf g'42 ?_
            refine call_v (by kernel_rfl) (dir_c _ ((n : Nat) : Int)) ?_
            refine runTf g'42 ?_
            refine call_v (by kernel_rfl) (mhalf_c _ ((dirV ((n : Nat) : Int)).1) ((dirV ((n : Nat) : Int)).2.1)) ?_
            refine runTf g'42 ?_
            refine call_v (by kernel_rfl) (mhalf_c _ (tx - fx) (ty - fy)) ?_
            refine runTf g'42 ?_
            refine gd_split (fun h5 => ?_) (fun h5 => ?_)
            · have h5d := bsT h5
              have hnl := h5d
              have g'43 := (jn @h5 (jn @h5d g'42))
              refine runTf g'43 ?_
              refine gd_split (fun h6 => ?_) (fun h6 => ?_)
              · have h6d := bsT h6
                have heq := h6d
                have g'44 := (jn @h6 (jn @h6d g'43))
                refine runTf g'44 ?_
                refine cond_split (fun h7 => ?_) (fun h7 => ?_)
                · have h7d := bsT h7
                  have hbey : beyB (dirN n) (tx - fx) (ty - fy) = false := by rw [← hdn, bey_eq heq]; exact decide_eq_false (by omega)
                  have g'45 := (jn @h7 (jn @h7d g'44))
                  refine runTf g'45 ?_
                  refine hJ0 _ _ ⟨k0 - 1, by omega, _, _, _, ⟨n + 1, by omega, rfl, rfl⟩, Abs.byN hbel ?_⟩
                  exact absWf (jn @towN.eq_2 (jn @hbey (jn @if_true.{1} (jn @if_false.{1} (jn @Bool.false_eq_true (jn @h3d @h6d))))))
                · have h7d := bsT h7
                  have hbey : beyB (dirN n) (tx - fx) (ty - fy) = true := by rw [← hdn, bey_eq heq]; exact decide_eq_true (by omega)
                  have g'46 := (jn @h7 (jn @h7d g'44))
                  refine runTf g'46 ?_
                  refine hJ0 _ _ ⟨k0 - 1, by omega, _, _, _, ⟨n + 1, by omega, rfl, rfl⟩, Abs.byN hbel ?_⟩
                  exact absWf (jn @towN.eq_2 (jn @hbey (jn @if_true.{1} (jn @if_false.{1} (jn @Bool.false_eq_true (jn @h3d @h6d))))))
              · have h6d := bsT h6
                have hbey : beyB (dirN n) (tx - fx) (ty - fy) = true := by rw [← hdn]; exact bey_gt (by omega) h6d
                have g'47 := (jn @h6 (jn @h6d g'43))
                refine runTf g'47 ?_
                refine hJ0 _ _ ⟨k0 - 1, by omega, _, _, _, ⟨n + 1, by omega, rfl, rfl⟩, Abs.byN hbel ?_⟩
                exact absWf (jn @towN.eq_2 (jn @hbey (jn @if_true.{1} (jn @if_false.{1} (jn @Bool.false_eq_true (jn @h3d @h6d))))))
            · have h5d := bsT h5
              have hbey : beyB (dirN n) (tx - fx) (ty - fy) = false := by rw [← hdn]; exact bey_lt h5d
              have g'48 := (jn @h5 (jn @h5d g'42))
              refine runTf g'48 ?_
              refine hJ0 _ _ ⟨k0 - 1, by omega, _, _, _, ⟨n + 1, by omega, rfl, rfl⟩, Abs.byN hbel ?_⟩
              exact absWf (jn @towN.eq_2 (jn @hbey (jn @if_true.{1} (jn @if_false.{1} (jn @Bool.false_eq_true @h3d)))))
          · have h4d := bsT h4
            obtain rfl : n = 256 := by omega
            have g'49 := (jn @h4 (jn @h4d g'41))
            refine runTf g'49 ?_
            exact hQ _ _ (end_plain0 (.inl rfl) hbel (x := .tup [.int .i64 ((towN (tx - fx) (ty - fy) 256 : Nat) : Int), .int .i64 0]) (resT Tryz.results36) rfl ⟨by first | (simp [towI, towE, h1d, h2d, h3d, h4d, hfinE]; done) | (simp [towI, hfinE]; done) | (rw [show towI fx fy tx ty = ((towN (tx - fx) (ty - fy) 256 : Nat) : Int) from if_pos hfinE, hfinE]), rfl⟩)
  · have h1d := bsT h1
    have g'50 := (jn @h1 @h1d)
    refine runTf g'50 ?_
    exact hQ _ _ (end_plain (.inl rfl) hbel (x := .tup [.int .i64 0, .int .i64 1]) (resT Tryz.results36) rfl ⟨by first | (simp [towI, towE, h1d]; done) | (simp [towI, hfinE]; done) | (rw [show towI fx fy tx ty = ((towN (tx - fx) (ty - fy) 256 : Nat) : Int) from if_pos hfinE, hfinE]), rfl⟩)
open Go.RowKit
def rctB (x0 y0 x1 y1 : Int) : Bool := decide (x0 ≤ x1) && (decide (y0 ≤ y1) && (ptB x0 y0 && ptB x1 y1))
def rgtB (x0 y0 x1 y1 : Int) : Bool := decide (-1048576 ≤ x0) && (decide (x0 ≤ x1) && (decide (x1 ≤ 1048576) && (decide (-1048576 ≤ y0) && (decide (y0 ≤ y1) && decide (y1 ≤ 1048576)))))
theorem rctB_iff {x0 y0 x1 y1 : Int} : rctB x0 y0 x1 y1 = true ↔ (-1048576 ≤ x0 ∧ x0 ≤ x1 ∧ x1 ≤ 1048576) ∧ (-1048576 ≤ y0 ∧ y0 ≤ y1 ∧ y1 ≤ 1048576) := by
  unfold rctB ptB; simp only [Bool.and_eq_true, decide_eq_true_eq, within_iff]; omega
theorem rgtB_eq (x0 y0 x1 y1 : Int) : rgtB x0 y0 x1 y1 = rctB x0 y0 x1 y1 := by
  rw [Bool.eq_iff_iff, rctB_iff]; unfold rgtB; simp only [Bool.and_eq_true, decide_eq_true_eq]; omega
/-- The first and the last index of the cells that meet a range, and how many there are. -/
def spl (a : Int) : Int := 0 - (0 - a) / 64 - 1
def sph (b : Int) : Int := b / 64
def celN (a b : Int) : Nat := (sph b - spl a + 1).toNat
def tt2 (_ _ : Int) : Bool := true
def cellsE (x0 y0 x1 y1 : Int) : Int := if rctB x0 y0 x1 y1 = true then (if 8192 < (sph x1 - spl x0 + 1) * (sph y1 - spl y0 + 1) then 6 else 0) else 1
def cellsG (x0 y0 x1 y1 : Int) : List Pt := gridR tt2 (spl x0) (celN x0 x1) (spl y0) (celN y0 y1)
def cellsR (x0 y0 x1 y1 : Int) : List Pt := mkL (cellsE x0 y0 x1 y1) (cellsG x0 y0 x1 y1)
theorem cel_bd {a b : Int} (h : -1048576 ≤ a ∧ a ≤ b ∧ b ≤ 1048576) : (-16386 ≤ spl a ∧ spl a ≤ 16384) ∧ (-16384 ≤ sph b ∧ sph b ≤ 16384) ∧ spl a ≤ sph b ∧ spl a + (celN a b : Int) = sph b + 1 ∧ 1 ≤ celN a b ∧ celN a b ≤ 32771 := by
  unfold celN spl sph; omega
theorem rowR_t {x0 y : Int} (n : Nat) : rowR tt2 x0 y (n + 1) = rowR tt2 x0 y n ++ [(x0 + n, y)] := rfl
theorem gridR_s {p : Int → Int → Bool} {x0 y0 : Int} {w n : Nat} : gridR p x0 w y0 (n + 1) = gridR p x0 w y0 n ++ rowR p x0 (y0 + n) w := rfl
theorem gridR_0 {p : Int → Int → Bool} {x0 y0 : Int} {w : Nat} : gridR p x0 w y0 0 = [] := rfl
theorem rowR_0 {p : Int → Int → Bool} {x0 y : Int} : rowR p x0 y 0 = [] := rfl
theorem grid_bd {p : Int → Int → Bool} {x0 y0 y : Int} {w n m : Nat} (hn : n ≤ 32771) (hw : w ≤ 32771) (hm : m ≤ w) : (gridR p x0 w y0 n).length + (rowR p x0 y m).length ≤ 1073971212 := by
  have h1 := gridR_len (p := p) (x0 := x0) (y0 := y0) (w := w) n
  have h2 := rowR_len (p := p) (x0 := x0) (y := y) m
  have h3 := Nat.mul_le_mul hn hw
  omega
def ovlB (a0 b0 a1 b1 x0 y0 x1 y1 : Int) : Bool := decide (a0 ≤ x1) && (decide (x0 ≤ a1) && (decide (b0 ≤ y1) && decide (y0 ≤ b1)))
def ovlP (x0 y0 x1 y1 : Int) (a b : Int) : Bool := ovlB (a * 64) (b * 64) (a * 64 + 64) (b * 64 + 64) x0 y0 x1 y1
def arN (a b : Int) : Nat := (b / 64 + 1 - (a / 64 - 1) + 1).toNat
theorem arN_bd {a b : Int} (h : -1048576 ≤ a ∧ a ≤ b ∧ b ≤ 1048576) : a / 64 - 1 + (arN a b : Int) = b / 64 + 2 ∧ arN a b ≤ 32771 ∧ (-16384 ≤ a / 64 ∧ a / 64 ≤ 16384) ∧ (-16384 ≤ b / 64 ∧ b / 64 ≤ 16384) := by
  unfold arN; omega
/-- The cells around that overlap a rectangle are the cells counted. -/
theorem cells_eq {x0 y0 x1 y1 : Int} (h : rctB x0 y0 x1 y1 = true) : gridR (ovlP x0 y0 x1 y1) (x0 / 64 - 1) (arN x0 x1) (y0 / 64 - 1) (arN y0 y1) = cellsG x0 y0 x1 y1 := by
  rw [rctB_iff] at h
  refine gridR_eq fun a b => ?_
  have h1 := cel_bd h.1
  have h2 := cel_bd h.2
  have h3 := arN_bd h.1
  have h4 := arN_bd h.2
  have e : ovlP x0 y0 x1 y1 a b = true ↔ (a * 64 ≤ x1 ∧ x0 ≤ a * 64 + 64 ∧ b * 64 ≤ y1 ∧ y0 ≤ b * 64 + 64) := by
    unfold ovlP ovlB; simp only [Bool.and_eq_true, decide_eq_true_eq]
  rw [e]
  unfold tt2 spl sph at *
  simp only [and_true]
  generalize celN x0 x1 = w at *
  generalize celN y0 y1 = n at *
  generalize arN x0 x1 = w' at *
  generalize arN y0 y1 = n' at *
  constructor
  · rintro ⟨⟨a1, a2⟩, ⟨a3, a4⟩, a5, a6, a7, a8⟩; omega
  · rintro ⟨⟨a1, a2⟩, ⟨a3, a4⟩⟩; omega
theorem cells_num {x0 y0 x1 y1 : Int} (h : rctB x0 y0 x1 y1 = true) : (((cellsG x0 y0 x1 y1).length : Nat) : Int) = (sph x1 - spl x0 + 1) * (sph y1 - spl y0 + 1) := by
  rw [rctB_iff] at h
  have h1 := cel_bd h.1
  have h2 := cel_bd h.2
  unfold cellsG
  have e : gridR tt2 (spl x0) (celN x0 x1) (spl y0) (celN y0 y1) = gridR (fun _ _ => true) (spl x0) (celN x0 x1) (spl y0) (celN y0 y1) := rfl
  rw [e, gridR_all, Int.natCast_mul, show ((celN y0 y1 : Nat) : Int) = sph y1 - spl y0 + 1 by omega, show ((celN x0 x1 : Nat) : Int) = sph x1 - spl x0 + 1 by omega, Int.mul_comm]
theorem cells_many {x0 y0 x1 y1 : Int} (h : rctB x0 y0 x1 y1 = true) (k : 20000 < (x1 / 64 + 1 - (x0 / 64 - 1) - 2) * (y1 / 64 + 1 - (y0 / 64 - 1) - 2)) : cellsE x0 y0 x1 y1 = 6 := by
  unfold cellsE
  rw [if_pos h, if_pos]
  rw [rctB_iff] at h
  refine Int.lt_of_lt_of_le (by omega : (8192 : Int) < 20000) (Int.le_trans (Int.le_of_lt k) ?_)
  unfold sph spl
  refine Int.mul_le_mul (by omega) (by omega) (by omega) (by omega)
theorem cells_len (x0 y0 x1 y1 : Int) : (cellsR x0 y0 x1 y1).length ≤ 8192 := by
  unfold cellsR mkL cellsE
  by_cases h : rctB x0 y0 x1 y1 = true
  · rw [if_pos h]
    have := cells_num h
    by_cases k : 8192 < (sph x1 - spl x0 + 1) * (sph y1 - spl y0 + 1)
    · rw [if_pos k]; simp
    · rw [if_neg k, if_pos rfl]; omega
  · rw [if_neg h]; simp
theorem cellsR_bd {x0 y0 x1 y1 : Int} : ∀ c ∈ cellsR x0 y0 x1 y1, (-16386 ≤ c.1 ∧ c.1 ≤ 16384) ∧ (-16386 ≤ c.2 ∧ c.2 ≤ 16384) := fun c hc => by
  unfold cellsR mkL at hc
  split at hc
  · rename_i h0
    unfold cellsE at h0
    split at h0
    · rename_i h
      rw [rctB_iff] at h
      have h1 := cel_bd h.1
      have h2 := cel_bd h.2
      have := gridR_mem.1 hc
      omega
    · omega
  · cases hc
open Go.RowKit
/-- The index of the first element with a property, or -1. -/
def idxI {α : Type} (p : α → Bool) (l : List α) : Int := if l.any p = true then ((l.findIdx p : Nat) : Int) else -1
theorem idxI_at {α : Type} {p : α → Bool} {l : List α} {i : Nat} (hi : i < l.length) (h0 : (l.take i).any p = false) (h1 : p l[i] = true) : idxI p l = (i : Int) := by
  have ha : l.any p = true := List.any_eq_true.2 ⟨l[i], List.getElem_mem hi, h1⟩
  have hf : l.findIdx p = i := (List.findIdx_eq hi).2 ⟨h1, fun j hj => by
    have := List.any_eq_false.1 h0 l[j] (by rw [List.mem_take_iff_getElem]; exact ⟨j, by omega, rfl⟩)
    simpa using this⟩
  unfold idxI; rw [if_pos ha, hf]
theorem idxI_none {α : Type} {p : α → Bool} {l : List α} (h : l.any p = false) : idxI p l = -1 := by
  unfold idxI; rw [if_neg (by simp [h])]
theorem idxI_any {α : Type} {p : α → Bool} {l : List α} : decide (0 ≤ idxI p l) = l.any p := by
  cases h : l.any p
  · rw [idxI_none h]; rfl
  · unfold idxI; rw [if_pos h]; exact decide_eq_true (by omega)
theorem idxI_cases {α : Type} (p : α → Bool) (l : List α) : (idxI p l = -1 ∧ l.any p = false) ∨ ∃ i : Nat, ∃ hi : i < l.length, idxI p l = (i : Int) ∧ (l.take i).any p = false ∧ p l[i] = true := by
  cases h : l.any p
  · exact .inl ⟨idxI_none h, rfl⟩
  · right
    have hl : l.findIdx p < l.length := List.findIdx_lt_length_of_exists (by simpa using h)
    have h1 : p l[l.findIdx p] = true := List.findIdx_getElem
    have h0 : (l.take (l.findIdx p)).any p = false := List.any_eq_false.2 fun x hx => by
      obtain ⟨j, hj, rfl⟩ := List.mem_take_iff_getElem.1 hx
      have := List.not_of_lt_findIdx (p := p) (xs := l) (i := j) (by omega)
      simpa using this
    exact ⟨_, hl, idxI_at hl h0 h1, h0, h1⟩
theorem pr_eq {l : List (Int × Int)} {j : Nat} (h : j < l.length) : (g1 l j, g2 l j) = l[j] := by
  simp [g1, g2, h, List.getD_eq_getElem?_getD]
theorem gi_eq {l : List Int} {j : Nat} (h : j < l.length) : (gi l j) = l[j] := by
  simp [gi, h, List.getD_eq_getElem?_getD]
theorem any_step {α : Type} {l : List α} {p : α → Bool} {i : Nat} (h : i < l.length) : (l.take (i + 1)).any p = ((l.take i).any p || p l[i]) := by
  rw [List.take_succ_eq_append_getElem h, List.any_append]; simp
theorem mvs_caps {n m : Nat} {sel : List Nat} {caps : List AV} (h : AV.bels n caps = true) : AV.mvs (sig n m sel) caps = caps := mvs_id (fun b hb => sig_lt hb) caps h
open Go.RowKit
set_option maxRecDepth 100000 in
theorem idx_cell (H : AHeap) (s : AV) (l : List (Int × Int)) (hs : Sl H 2 s l.length (prs l)) (hl : l.length ≤ 1000000000) (g : FuncId) (caps : List AV) (hok : okFn Tryz.prog g = true) (hc : AV.bels H.length caps = true) (p : (Int × Int) → Bool) (hf : ∀ j, j < l.length → ACalls Tryz.prog g (.agg [.int .i64 (g1 l j), .int .i64 (g2 l j)] :: caps) H (fun v H' => v = .bool (p (g1 l j, g2 l j)) ∧ H' = H)) :
    ACalls Tryz.prog 123 [s, .fn g caps] H (fun v H' => v = .int .i64 (idxI p l) ∧ H' = H) := by
  obtain ⟨b, own, cap, rfl, hb⟩ := hs
  have hbl := getElem?_lt hb
  have hmv := fun m sel => mvs_caps (n := H.length) (m := m) (sel := sel) hc
  (refine ACalls_run try_mixed Tryz.func123 true _ rfl (Nat.le_of_ble_eq_true (by kernel_rfl)) (by kernel_rfl) ?_; intro hbel Q hQ hQ' c hc; unfold Tryz.f123 at hc; simp only [Option.some.injEq] at hc; subst hc; clear hQ')
  simp -implicitDefEqProofs (disch := omega) only [simprocAttr, amset, tyset, Function.comp_apply, one1, lenV, calleeOf, lateOk, belowV, aop, AV.ofValue, AV.ofCell, AV.cells, AV.flat, AV.one, arep, aBin, aAppend, aConv]
  refine go_loop try_mixed (by kernel_rfl) (fun k F Hx => ∃ i : Nat, i + k = l.length ∧ (l.take i).any p = false ∧ F = [(0, .sl (some (b, 0)) l.length none), (1, .fn g caps), (7, .int .i64 l.length), (8, .int .i64 (i : Nat))] ∧ Hx = H) l.length ?_ ?_
  · refine ⟨_, _, _, ⟨0, by omega, rfl, rfl, rfl⟩, Abs.by0 hbel ?_⟩
    exact absWf @hmv
  · rintro k F Hx ⟨i, hik, ht, rfl, rfl⟩ J hJ
    by_cases hi : i < l.length
    · have hii : (i : Int) < (l.length : Int) := by omega
      have q1 := prs_load hi
      have hg := pr_eq hi
      simp -implicitDefEqProofs (disch := omega) only [hii, hb, q1, prs_len, prs_one, simprocAttr, amset, tyset, Function.comp_apply, one1, lenV, calleeOf, lateOk, belowV, aop, AV.ofValue, AV.ofCell, AV.cells, AV.flat, AV.one, arep, aBin, aAppend, aConv]
      iterate 2 refine And.intro (by omega) ?_
      refine call_v hok (hf i hi) ?_
      have hst := any_step (p := p) hi
      rw [ht, Bool.false_or, ← hg] at hst
      cases h1 : p (g1 l i, g2 l i)
      · rw [h1] at hst
        simp -implicitDefEqProofs (disch := omega) only [h1, simprocAttr, amset, tyset, Function.comp_apply, one1, lenV, calleeOf, lateOk, belowV, aop, AV.ofValue, AV.ofCell, AV.cells, AV.flat, AV.one, arep, aBin, aAppend, aConv]
        refine hJ _ _ ⟨k - 1, by omega, _, _, _, ⟨i + 1, by omega, hst, rfl, rfl⟩, Abs.by0 hbel ?_⟩
        exact absWf @hmv
      · simp -implicitDefEqProofs (disch := omega) only [h1, simprocAttr, amset, tyset, Function.comp_apply, one1, lenV, calleeOf, lateOk, belowV, aop, AV.ofValue, AV.ofCell, AV.cells, AV.flat, AV.one, arep, aBin, aAppend, aConv]
        exact hQ _ _ (end_plain0 (.inl rfl) hbel (x := .int .i64 (i : Nat)) (resT Tryz.results123) rfl ⟨by rw [idxI_at hi ht (by rw [← hg]; exact h1)], rfl⟩)
    · have hnn : ¬ ((i : Int) < (l.length : Int)) := by omega
      simp -implicitDefEqProofs (disch := omega) only [hnn, simprocAttr, amset, tyset, Function.comp_apply, one1, lenV, calleeOf, lateOk, belowV, aop, AV.ofValue, AV.ofCell, AV.cells, AV.flat, AV.one, arep, aBin, aAppend, aConv]
      rw [List.take_of_length_le (by omega)] at ht
      exact hQ _ _ (end_plain0 (.inl rfl) hbel (x := .int .i64 (-1)) (resT Tryz.results123) rfl ⟨by rw [idxI_none ht], rfl⟩)
theorem has_cell (H : AHeap) (s : AV) (l : List (Int × Int)) (hs : Sl H 2 s l.length (prs l)) (hl : l.length ≤ 1000000000) (g : FuncId) (caps : List AV) (hok : okFn Tryz.prog g = true) (hc : AV.bels H.length caps = true) (p : (Int × Int) → Bool) (hf : ∀ j, j < l.length → ACalls Tryz.prog g (.agg [.int .i64 (g1 l j), .int .i64 (g2 l j)] :: caps) H (fun v H' => v = .bool (p (g1 l j, g2 l j)) ∧ H' = H)) :
    ACalls Tryz.prog 140 [s, .fn g caps] H (fun v H' => v = .bool (l.any p) ∧ H' = H) := by
  have key := idx_cell H s l hs hl g caps hok hc p hf
  obtain ⟨b, own, cap, rfl, hb⟩ := hs
  have hbl := getElem?_lt hb
  (refine ACalls_run try_mixed Tryz.func140 true _ rfl (Nat.le_of_ble_eq_true (by kernel_rfl)) (by kernel_rfl) ?_; intro hbel Q hQ hQ' c hc; unfold Tryz.f140 at hc; simp only [Option.some.injEq] at hc; subst hc; clear hQ')
  simp -implicitDefEqProofs (disch := omega) only [simprocAttr, amset, tyset, Function.comp_apply, one1, lenV, calleeOf, lateOk, belowV, aop, AV.ofValue, AV.ofCell, AV.cells, AV.flat, AV.one, arep, aBin, aAppend, aConv]
  refine call_v (by kernel_rfl) key ?_
  simp -implicitDefEqProofs (disch := omega) only [simprocAttr, amset, tyset, Function.comp_apply, one1, lenV, calleeOf, lateOk, belowV, aop, AV.ofValue, AV.ofCell, AV.cells, AV.flat, AV.one, arep, aBin, aAppend, aConv]
  exact hQ _ _ (end_plain0 (.inl rfl) hbel (x := .bool (decide (0 ≤ idxI p l))) (resT Tryz.results140) rfl ⟨by rw [idxI_any], rfl⟩)
open Go.RowKit
theorem prs_set2 {l : List (Int × Int)} {j : Nat} {a b : Int} (h : j < l.length) : ((prs l).set (j * 2) (.int .i64 a)).set (j * 2 + 1) (.int .i64 b) = prs (l.set j (a, b)) := by
  induction l generalizing j with
  | nil => simp at h
  | cons p l ih =>
    cases j with
    | zero => simp [prs_cons]
    | succ j =>
      have e1 : (j + 1) * 2 = (j * 2).succ.succ := by omega
      have e2 : (j + 1) * 2 + 1 = (j * 2 + 1).succ.succ := by omega
      rw [prs_cons, e2, e1]
      show _ :: _ :: ((prs l).set (j * 2) (.int .i64 a)).set (j * 2 + 1) (.int .i64 b) = _
      rw [ih (by simpa using h)]
      rfl
theorem prs_rep {m : Nat} : prs (List.replicate m (0, 0)) = (List.range (m * 2)).map fun j => ([.int .i64 0, .int .i64 0] : List AV).getD (j % 2) .any := by
  induction m with
  | zero => rfl
  | succ m ih =>
    have e : List.replicate (m + 1) ((0 : Int), (0 : Int)) = List.replicate m (0, 0) ++ [(0, 0)] := by rw [List.replicate_succ']
    rw [e, prs_append, ih, Nat.succ_mul, List.range_succ, List.range_succ, List.map_append, List.map_append]
    have e1 : m * 2 % 2 = 0 := by omega
    have e2 : (m * 2 + 1) % 2 = 1 := by omega
    simp [prs_cons, prs_nil, e1, e2]
theorem splice_tail : ∀ (ys xs : List AV) (o : Nat), o + ys.length = xs.length → splice xs o ys = xs.take o ++ ys
  | [], xs, o, h => by
    rw [splice, List.append_nil, List.take_of_length_le]
    simp at h; omega
  | y :: ys, xs, o, h => by
    rw [splice, splice_tail ys _ _ (by simp at h ⊢; omega)]
    simp only [List.length_cons] at h
    have ho : o < xs.length := by omega
    rw [List.take_succ_eq_append_getElem (by simpa using ho), List.getElem_set_self, List.take_set_of_le (Nat.le_refl _)]
    simp
theorem splice_prs {l ys : List (Int × Int)} {i : Nat} (h : i + ys.length = l.length) : splice (prs l) (i * 2) (prs ys) = prs (l.take i ++ ys) := by
  rw [splice_tail _ _ _ (by rw [prs_len, prs_len]; omega), prs_take, prs_append]
theorem ints_set1 {k : IntKind} {l : List Int} {j : Nat} {a : Int} : (ints k l).set j (.int k a) = ints k (l.set j a) := ints_set
open Go.RowKit
theorem bels_prs {n : Nat} : ∀ {l : List (Int × Int)}, AV.bels n (prs l) = true
  | [] => rfl
  | p :: l => by rw [prs_cons]; simp only [AV.bels, AV.bel, Bool.true_and]; exact bels_prs
theorem HBel.put {n : Nat} {H : AHeap} (h : HBel n H) (b : Nat) {x : ABlk} (hx : x.bel n = true) : HBel n (H.set b x) := fun c y hy => by
  rw [List.getElem?_set] at hy
  split at hy
  · split at hy
    · simp at hy; subst hy; exact hx
    · cases hy
  · exact h c y hy
theorem Abs.byS1 {H0 l1 : AHeap} {F1 F2 : Fr} {n : Nat} (hn : H0.length = n) (hsc : HBel n H0) (h : absF (n + l1.length) (sig n l1.length []) F1 F2) : Abs n (sig n l1.length []) F1 (H0 ++ l1) F2 H0 := by
  subst hn; exact Abs.byN hsc h
theorem Abs.by0e {H0 H2 : AHeap} {F1 F2 : Fr} (e : H2 = H0) (hsc : HBel H0.length H0) (h : absF H0.length (sig H0.length 0 []) F1 F2) : Abs H0.length (sig H0.length 0 []) F1 H0 F2 H2 := by
  subst e; exact Abs.by0 hsc h
theorem end_byS {P : Program} {fn : Func} {H0 : AHeap} {R : AV → AHeap → Prop} {F : Fr} {e : Exit} {n : Nat} (hn : H0.length = n) (he : e = .ret ∨ e = .normal) (hbel : HBel n H0) {x1 : AV} (x2 : AV) (hx : aResult P fn F H0 = some x1) (hR : R x2 H0) (h : W n x1 (x2.mv (sig n 0 []))) : AEnd P fn n R e F H0 := by
  subst hn
  exact end_byE (l2 := []) he hbel x2 hx [] rfl [] (by simp) (by rw [List.append_nil]; exact hR) ⟨h, trivial⟩
/-- What is left without the elements that have a property. -/
def delL {α : Type} (p : α → Bool) (l : List α) : List α := l.filter fun e => !p e
theorem delL_none {α : Type} {p : α → Bool} {l : List α} (h : l.any p = false) : delL p l = l := by
  unfold delL
  rw [List.filter_eq_self]
  intro a ha
  have := List.any_eq_false.1 h a ha
  simpa using this
theorem delL_step {α : Type} {p : α → Bool} {l : List α} {j : Nat} (h : j < l.length) : delL p (l.take (j + 1)) = delL p (l.take j) ++ (if p l[j] = true then [] else [l[j]]) := by
  unfold delL
  rw [List.take_succ_eq_append_getElem h, List.filter_append]
  congr 1
  cases hp : p l[j] <;> simp [hp]
theorem delL_nil {α : Type} {p : α → Bool} : delL p ([] : List α) = [] := rfl
theorem delL_le {α : Type} {p : α → Bool} {l : List α} : (delL p l).length ≤ l.length := List.length_filter_le _ _
theorem delL_tk {α : Type} {p : α → Bool} {l : List α} {j : Nat} (h : j ≤ l.length) : (delL p (l.take j)).length ≤ j := by
  have := delL_le (p := p) (l := l.take j)
  rw [List.length_take] at this; omega
def padL (n : Nat) (l : List (Int × Int)) : List (Int × Int) := l ++ List.replicate (n - l.length) (0, 0)
theorem prs_padL {n : Nat} {l : List (Int × Int)} : prs (padL n l) = prs l ++ prs (List.replicate (n - l.length) (0, 0)) := prs_append
set_option maxRecDepth 100000 in
theorem del_cell (H : AHeap) (b : Nat) (cap : Option Nat) (l : List (Int × Int)) (hb : H[b]? = some (.cells (ownG l.length) 2 (prs l))) (hl : l.length ≤ 1000000000) (g : FuncId) (caps : List AV) (hok : okFn Tryz.prog g = true) (hc : AV.bels H.length caps = true) (p : (Int × Int) → Bool)
    (hf : ∀ (X : List (Int × Int)) (e : Int × Int) (L : AHeap), e ∈ l → ACalls Tryz.prog g (.agg [.int .i64 e.1, .int .i64 e.2] :: caps) (H.set b (.cells (ownG l.length) 2 (prs X)) ++ L) (fun v H' => v = .bool (p e) ∧ H' = H.set b (.cells (ownG l.length) 2 (prs X)) ++ L)) :
    ACalls Tryz.prog 66 [.sl (some (b, 0)) l.length cap, .fn g caps] H (fun v H' => v = .sl (some (b, 0)) (delL p l).length none ∧ H' = H.set b (.cells (ownG l.length) 2 (prs (padL l.length (delL p l))))) := by
  have hbl := getElem?_lt hb
  have hset : ∀ X L, (H.set b X ++ L)[b]? = some X := fun X L => by rw [List.getElem?_append_left (by simpa using hbl), List.getElem?_set_self hbl]
  have hset0 : ∀ X, (H.set b X)[b]? = some X := fun X => List.getElem?_set_self hbl
  have hself : H.set b (.cells (ownG l.length) 2 (prs l)) = H := by
    refine List.ext_getElem? fun i => ?_
    rw [List.getElem?_set]
    split
    · rename_i e; subst e; first | exact hb.symm | (rw [if_pos hbl]; exact hb.symm)
    · rfl
  have hmv := fun m sel => mvs_caps (n := H.length) (m := m) (sel := sel) hc
  have key := idx_cell H (.sl (some (b, 0)) l.length cap) l ⟨b, _, cap, rfl, hb⟩ hl g caps hok hc p (fun j hj => by
    have := hf l (g1 l j, g2 l j) [] (by rw [pr_eq hj]; exact List.getElem_mem hj)
    rw [List.append_nil, hself] at this
    exact this)
  (refine ACalls_run try_mixed Tryz.func66 true _ rfl (Nat.le_of_ble_eq_true (by kernel_rfl)) (by kernel_rfl) ?_; intro hbel Q hQ hQ' c hc; unfold Tryz.f66 at hc; simp only [Option.some.injEq] at hc; subst hc; clear hQ')
  simp -implicitDefEqProofs (disch := omega) only [simprocAttr, amset, tyset, Function.comp_apply, one1, lenV, calleeOf, lateOk, belowV, aop, AV.ofValue, AV.ofCell, AV.cells, AV.flat, AV.one, arep, aBin, aAppend, aConv]
  refine call_v (by kernel_rfl) key ?_
  rcases idxI_cases p l with ⟨h1, h2⟩ | ⟨i, hi, h1, h2, h3⟩
  · rw [h1]
    simp -implicitDefEqProofs (disch := omega) only [simprocAttr, amset, tyset, Function.comp_apply, one1, lenV, calleeOf, lateOk, belowV, aop, AV.ofValue, AV.ofCell, AV.cells, AV.flat, AV.one, arep, aBin, aAppend, aConv]
    have e : H.set b (.cells (ownG l.length) 2 (prs (padL l.length (delL p l)))) = H := by rw [delL_none h2]; simp [padL, hself]
    exact hQ _ _ (end_byE (.inl rfl) hbel (x1 := .sl (some (b, 0)) l.length cap) (l2 := []) (.sl (some (b, 0)) (delL p l).length none) (resT Tryz.results66) [] rfl [] (by decide) ⟨rfl, by rw [List.append_nil, e]⟩ (by rw [delL_none h2]; exact absW))
  · rw [h1]
    have hne : ((i : Int) == -1) = false := beq_eq_false_iff_ne.2 (by omega)
    have hown : ownG l.length = true := ownG_p (by omega)
    rw [hown] at hb hf hself
    simp -implicitDefEqProofs (disch := omega) only [hne, simprocAttr, amset, tyset, Function.comp_apply, one1, lenV, calleeOf, lateOk, belowV, aop, AV.ofValue, AV.ofCell, AV.cells, AV.flat, AV.one, arep, aBin, aAppend, aConv]
    have hd0 : delL p (l.take (i + 1)) = l.take i := by rw [delL_step hi, if_pos h3, List.append_nil, delL_none h2]
    have hdi : (delL p (l.take (i + 1))).length = i := by rw [hd0, List.length_take]; omega
    refine go_loop try_mixed (by kernel_rfl) (fun k F Hx => ∃ (j : Nat) (X : List (Int × Int)), j + k = l.length ∧ (delL p (l.take j)).length < j ∧ X.length = l.length ∧ X.take (delL p (l.take j)).length = delL p (l.take j) ∧ X.drop j = l.drop j ∧ F = [(0, .sl (some (b, 0)) l.length cap), (1, .fn g caps), (5, .int .i64 (((delL p (l.take j)).length : Nat) : Int)), (6, .int .i64 ((j : Nat) : Int))] ∧ Hx = H.set b (.cells true 2 (prs X))) (l.length - (i + 1)) ?_ ?_
    · refine ⟨_, _, _, ⟨i + 1, l, by omega, by rw [hdi]; omega, rfl, by rw [hd0, List.length_take, Nat.min_eq_left (by omega)], rfl, rfl, rfl⟩, Abs.by0e hself hbel ?_⟩
      exact absWf (jn @hdi @hmv)
    · rintro k F Hx ⟨j, X, hjk, hij, hXl, hXt, hXd, rfl, rfl⟩ J hJ
      obtain ⟨G, hG⟩ : ∃ G, G = H.set b (.cells true 2 (prs X)) := ⟨_, rfl⟩
      have hGl : G.length = H.length := by rw [hG, List.length_set]
      have hG1 : ∀ L, (G ++ L)[b]? = some (.cells true 2 (prs X)) := fun L => by rw [hG]; exact hset _ _
      have hG0 : G[b]? = some (.cells true 2 (prs X)) := by rw [hG]; exact hset0 _
      have hbG : b < G.length := by omega
      have hGs : ∀ Y L, (G ++ L).set b Y = H.set b Y ++ L := fun Y L => by rw [List.set_append_left _ _ hbG, hG, List.set_set]
      have hcall := fun e L => hf X e L
      rw [← hG] at hcall ⊢
      have hbelG : HBel H.length G := by rw [hG]; exact HBel.put hbel b bels_prs
      obtain ⟨n, hn⟩ : ∃ n, n = (delL p (l.take j)).length := ⟨_, rfl⟩
      have hnj : n < j := by rw [hn]; exact hij
      rw [← hn] at hXt ⊢
      by_cases hj : j < l.length
      · have hjj : (j : Int) < (l.length : Int) := by omega
        have hXj : X[j]'(by omega) = l[j] := by
          have := congrArg (fun m => m[0]?) hXd
          simpa [hj, hXl] using this
        have q1 := prs_load (l := X) (j := j) (by omega)
        have hg := pr_eq (l := X) (j := j) (by omega)
        simp -implicitDefEqProofs (disch := omega) only [hjj, hG1, hG0, q1, prs_len, prs_one, simprocAttr, amset, tyset, Function.comp_apply, one1, lenV, calleeOf, lateOk, belowV, aop, AV.ofValue, AV.ofCell, AV.cells, AV.flat, AV.one, arep, aBin, aAppend, aConv]
        iterate 2 refine And.intro (by omega) ?_
        refine call_v hok (hcall (g1 X j, g2 X j) _ (by rw [hg, hXj]; exact List.getElem_mem hj)) ?_
        have hst := delL_step (p := p) hj
        rw [← hXj, ← hg] at hst
        cases h5 : p (g1 X j, g2 X j)
        · rw [h5, if_neg Bool.false_ne_true] at hst
          have hl5 : (delL p (l.take (j + 1))).length = n + 1 := by rw [hst, List.length_append, hn]; rfl
          have hnX : n < X.length := by omega
          have hp2 := prs_set2 (a := g1 X j) (b := g2 X j) hnX
          simp -implicitDefEqProofs (disch := omega) only [h5, hG1, hG0, hGs, hp2, prs_len, prs_one, simprocAttr, amset, tyset, Function.comp_apply, one1, lenV, calleeOf, lateOk, belowV, aop, AV.ofValue, AV.ofCell, AV.cells, AV.flat, AV.one, arep, aBin, aAppend, aConv]
          iterate 2 refine And.intro (by omega) ?_
          refine hJ _ _ ⟨k - 1, by omega, _, _, _, ⟨j + 1, X.set n (g1 X j, g2 X j), by omega, by rw [hl5]; omega, by rw [List.length_set]; exact hXl, ?_, ?_, rfl, rfl⟩, Abs.byS1 (by rw [List.length_set]) (HBel.put hbel b bels_prs) ?_⟩
          · rw [hl5, hst, List.take_succ_eq_append_getElem (by rw [List.length_set]; exact hnX), List.getElem_set_self, List.take_set_of_le (Nat.le_refl _), hXt]
          · rw [List.drop_set_of_lt (by omega), ← List.drop_drop, hXd, List.drop_drop]
          exact absWf (jn @hl5 (jn @hmv (jn @Int.natCast_add @Int.natCast_one)))
        · rw [h5, if_pos rfl, List.append_nil] at hst
          have hl5 : (delL p (l.take (j + 1))).length = n := by rw [hst, hn]
          simp -implicitDefEqProofs (disch := omega) only [h5, simprocAttr, amset, tyset, Function.comp_apply, one1, lenV, calleeOf, lateOk, belowV, aop, AV.ofValue, AV.ofCell, AV.cells, AV.flat, AV.one, arep, aBin, aAppend, aConv]
          refine hJ _ _ ⟨k - 1, by omega, _, _, _, ⟨j + 1, X, by omega, by rw [hl5]; omega, hXl, by rw [hst, ← hn]; exact hXt, by rw [← List.drop_drop, hXd, List.drop_drop], rfl, hG⟩, Abs.byS1 hGl hbelG ?_⟩
          exact absWf (jn @hl5 @hmv)
      · have hjj : ¬ ((j : Int) < (l.length : Int)) := by omega
        have hrep := (prs_rep (m := l.length - n)).symm
        have hne0 : (l.length - n == 0) = false := beq_eq_false_iff_ne.2 (by omega)
        have hspl := splice_prs (l := X) (ys := List.replicate (l.length - n) (0, 0)) (i := n) (by rw [List.length_replicate]; omega)
        have hGs0 : ∀ Y, G.set b Y = H.set b Y := fun Y => by rw [hG, List.set_set]
        rw [hXt] at hspl
        simp -implicitDefEqProofs (disch := omega) only [hjj, hG1, hG0, hrep, hne0, hspl, hGs0, prs_len, prs_one, List.length_replicate, hset0, simprocAttr, amset, tyset, Function.comp_apply, one1, lenV, calleeOf, lateOk, belowV, aop, AV.ofValue, AV.ofCell, AV.cells, AV.flat, AV.one, arep, aBin, aAppend, aConv]
        refine ⟨by omega, ⟨by omega, .inl (Nat.le_refl _)⟩, by omega, by omega, ⟨by omega, .inl (by omega)⟩, ?_⟩
        obtain rfl : j = l.length := by omega
        rw [List.take_length] at hn ⊢
        refine hQ _ _ (end_byS (by rw [List.length_set]) (.inl rfl) (HBel.put hbel b bels_prs) (x1 := .sl (some (b, 0)) (n - 0) (Option.map (fun x => x - 0) cap)) (.sl (some (b, 0)) (delL p l).length none) (resT Tryz.results66) ⟨rfl, by rw [hown, hn]; rfl⟩ ?_)
        exact absWf (jn @hn @Nat.sub_zero)
open Go.RowKit
/-- The zonogon is apart from the cell's square. -/
def apP (x y : Int) (l : List Pt) (c : Pt) : Bool := apartB x y l (c.1 * 64) (c.2 * 64) ((c.1 + 1) * 64) ((c.2 + 1) * 64)
/-- The cells that are asked, the error, the cells that are touched. -/
def touQ (x y : Int) (l : List Pt) : List Pt := cellsR ((ifv (validB x y l) (x - spr (1, 0) l)) / 2) ((ifv (validB x y l) (y - spr (0, 1) l)) / 2) (0 - ((0 - (ifv (validB x y l) (x + spr (1, 0) l))) / 2)) (0 - ((0 - (ifv (validB x y l) (y + spr (0, 1) l))) / 2))
def touF (x y : Int) (l : List Pt) : Int := cellsE ((ifv (validB x y l) (x - spr (1, 0) l)) / 2) ((ifv (validB x y l) (y - spr (0, 1) l)) / 2) (0 - ((0 - (ifv (validB x y l) (x + spr (1, 0) l))) / 2)) (0 - ((0 - (ifv (validB x y l) (y + spr (0, 1) l))) / 2))
def touC (x y : Int) (l : List Pt) : List Pt := if validB x y l = true then touQ x y l else []
def touE (x y : Int) (l : List Pt) : Int := if validB x y l = true then touF x y l else 1
theorem touQ_len (x y : Int) (l : List Pt) : (touQ x y l).length ≤ 8192 := cells_len _ _ _ _
theorem touQ_bd {x y : Int} {l : List Pt} : ∀ c ∈ touQ x y l, (-16386 ≤ c.1 ∧ c.1 ≤ 16384) ∧ (-16386 ≤ c.2 ∧ c.2 ≤ 16384) := cellsR_bd
def touL (x y : Int) (l : List Pt) : List Pt := if touE x y l = 0 then delL (apP x y l) (touC x y l) else []
theorem touC_len (x y : Int) (l : List Pt) : (touC x y l).length ≤ 8192 := by
  unfold touC; split
  · exact cells_len _ _ _ _
  · simp
theorem touL_len (x y : Int) (l : List Pt) : (touL x y l).length ≤ 8192 := by
  unfold touL; split
  · exact Nat.le_trans delL_le (touC_len x y l)
  · simp
theorem up2 (a : Int) : (a + 1) / 2 = 0 - (0 - a) / 2 := by omega
theorem ap_eq (x y : Int) (l : List Pt) (a b : Int) : apartB x y l (a * 64) (b * 64) (a * 64 + 64) (b * 64 + 64) = apP x y l (a, b) := by
  unfold apP; rw [show (a + 1) * 64 = a * 64 + 64 by omega, show (b + 1) * 64 = b * 64 + 64 by omega]
theorem ifv_t {b : Bool} {v : Int} (h : b = true) : ifv b v = v := by unfold ifv; rw [if_pos h]
/-- Bounds of a valid zonogon are small. -/
theorem bnd_bd {x y : Int} {l : List Pt} (h : validB x y l = true) : (-2400000000000000000 ≤ ifv (validB x y l) (x - spr (1, 0) l) ∧ ifv (validB x y l) (x - spr (1, 0) l) ≤ 2400000000000000000) ∧ (-2400000000000000000 ≤ ifv (validB x y l) (y - spr (0, 1) l) ∧ ifv (validB x y l) (y - spr (0, 1) l) ≤ 2400000000000000000) ∧ (-2400000000000000000 ≤ ifv (validB x y l) (x + spr (1, 0) l) ∧ ifv (validB x y l) (x + spr (1, 0) l) ≤ 2400000000000000000) ∧ (-2400000000000000000 ≤ ifv (validB x y l) (y + spr (0, 1) l) ∧ ifv (validB x y l) (y + spr (0, 1) l) ≤ 2400000000000000000) := by
  rw [ifv_t h, ifv_t h, ifv_t h, ifv_t h]
  obtain ⟨hl16, hlB⟩ := valid_bd h
  have hxy := valid_bd3 h
  have h1 := spr_bd (n := (1, 0)) (by unfold Bd; simp) l (fun e he => by have := hlB e he; unfold Bd at *; omega)
  have h2 := spr_bd (n := (0, 1)) (by unfold Bd; simp) l (fun e he => by have := hlB e he; unfold Bd at *; omega)
  omega
open Go.RowKit
abbrev T6 := Int × Int × Int × Int × Int × Int
def r6 (l : List T6) : List AV := l.flatMap fun p => [.int .i64 p.1, .int .i64 p.2.1, .int .i64 p.2.2.1, .int .i64 p.2.2.2.1, .int .i64 p.2.2.2.2.1, .int .i64 p.2.2.2.2.2]
def g6 (l : List T6) (j : Nat) : T6 := l.getD j (0, 0, 0, 0, 0, 0)
def g61 (l : List T6) (j : Nat) : Int := (g6 l j).1
def g62 (l : List T6) (j : Nat) : Int := (g6 l j).2.1
def g63 (l : List T6) (j : Nat) : Int := (g6 l j).2.2.1
def g64 (l : List T6) (j : Nat) : Int := (g6 l j).2.2.2.1
def g65 (l : List T6) (j : Nat) : Int := (g6 l j).2.2.2.2.1
def g66 (l : List T6) (j : Nat) : Int := (g6 l j).2.2.2.2.2
theorem g6_eq {l : List T6} {j : Nat} (h : j < l.length) : (g61 l j, g62 l j, g63 l j, g64 l j, g65 l j, g66 l j) = l[j] := by
  simp [g61, g62, g63, g64, g65, g66, g6, h, List.getD_eq_getElem?_getD]
theorem r6_cons {p : T6} {l : List T6} : r6 (p :: l) = .int .i64 p.1 :: .int .i64 p.2.1 :: .int .i64 p.2.2.1 :: .int .i64 p.2.2.2.1 :: .int .i64 p.2.2.2.2.1 :: .int .i64 p.2.2.2.2.2 :: r6 l := rfl
theorem r6_len : ∀ {l : List T6}, (r6 l).length = l.length * 6
  | [] => rfl
  | p :: l => by rw [r6_cons]; simp only [List.length_cons, r6_len (l := l)]; omega
theorem r6_at : ∀ {l : List T6} {j : Nat} (_h : j < l.length), (r6 l).drop (j * 6) = .int .i64 (g61 l j) :: .int .i64 (g62 l j) :: .int .i64 (g63 l j) :: .int .i64 (g64 l j) :: .int .i64 (g65 l j) :: .int .i64 (g66 l j) :: (r6 l).drop ((j + 1) * 6)
  | [], j, h => by simp at h
  | p :: l, 0, _ => by rw [r6_cons]; simp [g61, g62, g63, g64, g65, g66, g6]
  | p :: l, j + 1, h => by
    rw [r6_cons, show (j + 1) * 6 = j * 6 + 1 + 1 + 1 + 1 + 1 + 1 by omega, List.drop_succ_cons, List.drop_succ_cons, List.drop_succ_cons, List.drop_succ_cons, List.drop_succ_cons, List.drop_succ_cons, r6_at (l := l) (by simpa using h), show (j + 1 + 1) * 6 = (j + 1) * 6 + 1 + 1 + 1 + 1 + 1 + 1 by omega, List.drop_succ_cons, List.drop_succ_cons, List.drop_succ_cons, List.drop_succ_cons, List.drop_succ_cons, List.drop_succ_cons]
    rfl
theorem r6_at0 {l : List T6} {j : Nat} (h : j < l.length) : (r6 l)[j * 6]? = some (.int .i64 (g61 l j)) := by
  have := congrArg (fun x => x[0]?) (r6_at h)
  simpa using this
theorem r6_at1 {l : List T6} {j : Nat} (h : j < l.length) : (r6 l)[j * 6 + 1]? = some (.int .i64 (g62 l j)) := by
  have := congrArg (fun x => x[1]?) (r6_at h)
  simpa using this
theorem r6_at2 {l : List T6} {j : Nat} (h : j < l.length) : (r6 l)[j * 6 + 2]? = some (.int .i64 (g63 l j)) := by
  have := congrArg (fun x => x[2]?) (r6_at h)
  simpa using this
theorem r6_at3 {l : List T6} {j : Nat} (h : j < l.length) : (r6 l)[j * 6 + 3]? = some (.int .i64 (g64 l j)) := by
  have := congrArg (fun x => x[3]?) (r6_at h)
  simpa using this
theorem r6_at4 {l : List T6} {j : Nat} (h : j < l.length) : (r6 l)[j * 6 + 4]? = some (.int .i64 (g65 l j)) := by
  have := congrArg (fun x => x[4]?) (r6_at h)
  simpa using this
theorem r6_at5 {l : List T6} {j : Nat} (h : j < l.length) : (r6 l)[j * 6 + 5]? = some (.int .i64 (g66 l j)) := by
  have := congrArg (fun x => x[5]?) (r6_at h)
  simpa using this
theorem r6_load {l : List T6} {j : Nat} (h : j < l.length) : ((r6 l).drop (j * 6)).take 6 = [.int .i64 (g61 l j), .int .i64 (g62 l j), .int .i64 (g63 l j), .int .i64 (g64 l j), .int .i64 (g65 l j), .int .i64 (g66 l j)] := by rw [r6_at h]; rfl
theorem r6_load0 {l : List T6} (h : 0 < l.length) : (r6 l).take 6 = [.int .i64 (g61 l 0), .int .i64 (g62 l 0), .int .i64 (g63 l 0), .int .i64 (g64 l 0), .int .i64 (g65 l 0), .int .i64 (g66 l 0)] := by
  have := r6_load h
  rwa [Nat.zero_mul, List.drop_zero] at this
theorem r6_load1 {l : List T6} {j : Nat} (h : j + 1 < l.length) : ((r6 l).drop (6 + j * 6)).take 6 = [.int .i64 (g61 l (j + 1)), .int .i64 (g62 l (j + 1)), .int .i64 (g63 l (j + 1)), .int .i64 (g64 l (j + 1)), .int .i64 (g65 l (j + 1)), .int .i64 (g66 l (j + 1))] := by
  rw [show 6 + j * 6 = (j + 1) * 6 by omega]; exact r6_load h
theorem r6_one {l : List T6} : (r6 l).all AV.one = true := by
  induction l with
  | nil => rfl
  | cons p l ih => rw [r6_cons]; simp [AV.one, ih]
section
variable {P : Program} {H : AHeap} {n : Nat}
theorem rows_r6 {t1 t2 t3 t4 t5 t6 : TypeId} (h1 : P.underlying t1 = some (.int .i64)) (h2 : P.underlying t2 = some (.int .i64)) (h3 : P.underlying t3 = some (.int .i64)) (h4 : P.underlying t4 = some (.int .i64)) (h5 : P.underlying t5 = some (.int .i64)) (h6 : P.underlying t6 = some (.int .i64)) : ∀ rows : List (List AV), (∀ r : List AV, r ∈ rows → RTy P H (n + 1) [t1, t2, t3, t4, t5, t6] r) → ∃ l : List T6, l.length = rows.length ∧ rows.flatten = r6 l ∧ ∀ p ∈ l, (Lit.int .i64 p.1).wf = true ∧ (Lit.int .i64 p.2.1).wf = true ∧ (Lit.int .i64 p.2.2.1).wf = true ∧ (Lit.int .i64 p.2.2.2.1).wf = true ∧ (Lit.int .i64 p.2.2.2.2.1).wf = true ∧ (Lit.int .i64 p.2.2.2.2.2).wf = true
  | [], _ => ⟨[], rfl, rfl, fun z h => by simp at h⟩
  | r :: rows, h => by
    obtain ⟨l, h1', h2', h3'⟩ := rows_r6 h1 h2 h3 h4 h5 h6 rows fun r' hr => h r' (by simp [hr])
    have hr := h r (by simp)
    obtain ⟨y1, r', rfl, hy1, hr⟩ := hr.cons
    obtain ⟨y2, r', rfl, hy2, hr⟩ := hr.cons
    obtain ⟨y3, r', rfl, hy3, hr⟩ := hr.cons
    obtain ⟨y4, r', rfl, hy4, hr⟩ := hr.cons
    obtain ⟨y5, r', rfl, hy5, hr⟩ := hr.cons
    obtain ⟨y6, r', rfl, hy6, hr⟩ := hr.cons
    obtain rfl := hr.nil
    obtain ⟨z1, rfl, hz1⟩ := hy1.int h1
    obtain ⟨z2, rfl, hz2⟩ := hy2.int h2
    obtain ⟨z3, rfl, hz3⟩ := hy3.int h3
    obtain ⟨z4, rfl, hz4⟩ := hy4.int h4
    obtain ⟨z5, rfl, hz5⟩ := hy5.int h5
    obtain ⟨z6, rfl, hz6⟩ := hy6.int h6
    exact ⟨(z1, z2, z3, z4, z5, z6) :: l, by simp [h1'], by simp [h2', r6_cons], fun z' h' => by
      rcases List.mem_cons.1 h' with rfl | h'
      · exact ⟨hz1, hz2, hz3, hz4, hz5, hz6⟩
      · exact h3' _ h'⟩
abbrev Sl6 (H : AHeap) (s : AV) (l : List T6) : Prop := Sl H 6 s l.length (r6 l)
theorem LTy.rec6 {t e t1 t2 t3 t4 t5 t6 : TypeId} {x : AV} (ht : P.underlying t = some (.slice e)) (h1 : P.underlying t1 = some (.int .i64)) (h2 : P.underlying t2 = some (.int .i64)) (h3 : P.underlying t3 = some (.int .i64)) (h4 : P.underlying t4 = some (.int .i64)) (h5 : P.underlying t5 = some (.int .i64)) (h6 : P.underlying t6 = some (.int .i64)) (hl : leafs P (n + 1) e = some [t1, t2, t3, t4, t5, t6]) (h : LTy P H (n + 2) t x) :
    ∃ l : List T6, Sl6 H x l ∧ l.length ≤ maxLen ∧ ∀ p ∈ l, (Lit.int .i64 p.1).wf = true ∧ (Lit.int .i64 p.2.1).wf = true ∧ (Lit.int .i64 p.2.2.1).wf = true ∧ (Lit.int .i64 p.2.2.2.1).wf = true ∧ (Lit.int .i64 p.2.2.2.2.1).wf = true ∧ (Lit.int .i64 p.2.2.2.2.2).wf = true := by
  obtain ⟨b, rows, rfl, k1, k2, k3⟩ := h.slice ht hl
  obtain ⟨l, q1, q2, q3⟩ := rows_r6 h1 h2 h3 h4 h5 h6 rows k3
  exact ⟨l, ⟨b, false, none, by rw [q1], by rw [← q2]; exact k2⟩, by omega, q3⟩
end
set_option linter.unusedSimpArgs false
set_option linter.unusedVariables false
open Go.RowKit
/-- Whether an arc is valid. -/
def arcB (f c : Int) : Bool := decide (0 ≤ f) && (decide (f < 256) && (decide (1 ≤ c) && (decide (c ≤ 256) && (decide (f = 0) || decide (c < 256)))))
theorem arcB_iff {f c : Int} : arcB f c = true ↔ (0 ≤ f ∧ f < 256) ∧ (1 ≤ c ∧ c ≤ 256) ∧ (f = 0 ∨ c < 256) := by
  unfold arcB
  simp only [Bool.and_eq_true, Bool.or_eq_true, decide_eq_true_eq]
  omega
/-- The arc with a first mark and a number of marks. -/
def arcF (f c : Int) : Int := if 256 ≤ c then 0 else f % 256
def arcC (c : Int) : Int := if 256 ≤ c then 256 else c
theorem arcF_ok {f c : Int} (h : 1 ≤ c) : arcB (arcF f c) (arcC c) = true := by
  rw [arcB_iff]; unfold arcF arcC; split <;> omega
/-- The marks of an arc. -/
def mrkL (f : Int) (n : Nat) : List Int := (List.range n).map fun (i : Nat) => (f + (i : Int)) % 256
theorem mrkL_len (f : Int) (n : Nat) : (mrkL f n).length = n := by simp [mrkL]
theorem mrkL_succ (f : Int) (n : Nat) : mrkL f (n + 1) = mrkL f n ++ [(f + (n : Int)) % 256] := by
  unfold mrkL; rw [List.range_succ, List.map_append]; rfl
/-- The way from a mark to another one. -/
def delI (a b : Int) : Int := if 128 ≤ (b - a) % 256 then (b - a) % 256 - 256 else (b - a) % 256
/-- How many marks an arc from a mark on needs to have all of another one. -/
def covI (s f c : Int) : Int := (f - s) % 256 + c
/-- A mark is in an arc. -/
def inArc (f c m : Int) : Prop := (m - f) % 256 < c
instance (f c m : Int) : Decidable (inArc f c m) := by unfold inArc; exact inferInstance
/-- The hull of two arcs: its first mark and its number of marks (f2: the second begin that is tried). -/
def hullP (s n bf bn : Int) : Int × Int := if n < bn ∨ (n = bn ∧ n < 256 ∧ s < bf) then (s, n) else (bf, bn)
def hullA (f c f' c' : Int) : Int × Int :=
  let p := hullP f (max (covI f f c) (covI f f' c')) 0 256
  hullP f' (max (covI f' f c) (covI f' f' c')) p.1 p.2
/-- How many marks from a mark on are needed, mark by mark. -/
def needN (x : Int → Bool) (s : Int) : Nat → Int
  | 0 => 0
  | n + 1 => if x ((s + (n : Int)) % 256) = true then (n : Int) + 1 else needN x s n
/-- The best among the begins k .. 255, from above. -/
def bestN (x : Int → Bool) : Nat → Int × Int
  | 0 => (0, 256)
  | n + 1 =>
    let p := bestN x n
    let s : Int := 255 - (n : Int)
    let m := needN x s 256
    if m < 256 ∧ m ≤ p.2 then (s, m) else p
theorem needN_le (x : Int → Bool) (s : Int) : ∀ n : Nat, 0 ≤ needN x s n ∧ needN x s n ≤ n
  | 0 => by simp [needN]
  | n + 1 => by
    have := needN_le x s n
    rw [needN]; split <;> omega
/-- What is needed: the last mark that is in, and none behind it. -/
theorem needN_eq {x : Int → Bool} {s : Int} {m : Nat} (hm : x ((s + (m : Int)) % 256) = true) : ∀ n : Nat, m < n → (∀ i : Nat, m < i → i < n → x ((s + i) % 256) = false) → needN x s n = m + 1
  | 0, h, _ => by omega
  | n + 1, h, k => by
    rw [needN]
    rcases Nat.lt_or_ge m n with h1 | h1
    · rw [k n h1 (by omega)]
      exact needN_eq hm n h1 fun i a b => k i a (by omega)
    · obtain rfl : n = m := by omega
      rw [hm]; rfl
def uniB (f c f' c' m : Int) : Bool := decide ((m - f) % 256 < c) || decide ((m - f') % 256 < c')
theorem uni_iff {f c f' c' m : Int} : uniB f c f' c' m = true ↔ (m - f) % 256 < c ∨ (m - f') % 256 < c' := by unfold uniB; simp
theorem uni_not {f c f' c' m : Int} : uniB f c f' c' m = false ↔ c ≤ (m - f) % 256 ∧ c' ≤ (m - f') % 256 := by
  unfold uniB; simp
theorem need_uni {f c f' c' : Int} (h : arcB f c = true) (h' : arcB f' c' = true) {s : Int} (hs : 0 ≤ s ∧ s ≤ 255) : needN (uniB f c f' c') s 256 = min 256 (max (covI s f c) (covI s f' c')) := by
  rw [arcB_iff] at h h'
  obtain ⟨M, hM⟩ : ∃ M : Int, M = max (covI s f c) (covI s f' c') := ⟨_, rfl⟩
  rw [← hM]
  unfold covI at hM
  rcases (by omega : M ≤ 256 ∨ 256 < M) with hle | hgt
  · have hpos : 1 ≤ M := by omega
    have e := needN_eq (x := uniB f c f' c') (s := s) (m := (M - 1).toNat) (by rw [uni_iff]; omega) 256 (by omega) fun i a b => by rw [uni_not]; omega
    rw [e]; omega
  · have e := needN_eq (x := uniB f c f' c') (s := s) (m := 255) (by rw [uni_iff]; omega) 256 (by omega) fun i a b => by omega
    rw [e]; omega
theorem best_spec {x : Int → Bool} : ∀ n : Nat, n ≤ 256 → ((bestN x n = (0, 256) ∧ ∀ s : Int, 256 - (n : Int) ≤ s → s ≤ 255 → needN x s 256 = 256) ∨
    ((bestN x n).2 < 256 ∧ (256 - (n : Int) ≤ (bestN x n).1 ∧ (bestN x n).1 ≤ 255) ∧ needN x (bestN x n).1 256 = (bestN x n).2 ∧ ∀ s : Int, 256 - (n : Int) ≤ s → s ≤ 255 → (bestN x n).2 ≤ needN x s 256 ∧ (needN x s 256 = (bestN x n).2 → (bestN x n).1 ≤ s)))
  | 0, _ => .inl ⟨rfl, fun s a b => by omega⟩
  | n + 1, hn => by
    have ih := best_spec (x := x) n (by omega)
    have hb := needN_le x (255 - (n : Int)) 256
    have eb : bestN x (n + 1) = if needN x (255 - (n : Int)) 256 < 256 ∧ needN x (255 - (n : Int)) 256 ≤ (bestN x n).2 then (255 - (n : Int), needN x (255 - (n : Int)) 256) else bestN x n := rfl
    rw [eb]
    split
    · rename_i hc
      right
      try dsimp only
      refine ⟨hc.1, by omega, rfl, fun s a b => ?_⟩
      rcases (by omega : s = 255 - (n : Int) ∨ 256 - (n : Int) ≤ s) with rfl | h2
      · exact ⟨Int.le_refl _, fun _ => Int.le_refl _⟩
      · rcases ih with ⟨e, ih⟩ | ⟨e1, e2, e3, ih⟩
        · have := ih s h2 b; rw [this]; omega
        · have := ih s h2 b; omega
    · rename_i hc
      rcases ih with ⟨e, ih⟩ | ⟨e1, e2, e3, ih⟩
      · left
        refine ⟨e, fun s a b => ?_⟩
        rcases (by omega : s = 255 - (n : Int) ∨ 256 - (n : Int) ≤ s) with rfl | h2
        · rw [e] at hc; simp only at hc; omega
        · exact ih s h2 b
      · right
        refine ⟨e1, by omega, e3, fun s a b => ?_⟩
        rcases (by omega : s = 255 - (n : Int) ∨ 256 - (n : Int) ≤ s) with rfl | h2
        · omega
        · exact ih s h2 b
/-- The hull by trying all begins is that by trying two. -/
theorem hull_eq {f c f' c' : Int} (h : arcB f c = true) (h' : arcB f' c' = true) : bestN (uniB f c f' c') 256 = hullA f c f' c' := by
  have hs := best_spec (x := uniB f c f' c') 256 (Nat.le_refl _)
  have hu := fun s hs => need_uni h h' (s := s) hs
  rw [arcB_iff] at h h'
  have hf := hu f (by omega)
  have hf' := hu f' (by omega)
  generalize bestN (uniB f c f' c') 256 = p at hs ⊢
  obtain ⟨p1, p2⟩ := p
  unfold hullA
  simp only at hs ⊢
  obtain ⟨n1, hn1⟩ : ∃ n, n = max (covI f f c) (covI f f' c') := ⟨_, rfl⟩
  obtain ⟨n2, hn2⟩ : ∃ n, n = max (covI f' f c) (covI f' f' c') := ⟨_, rfl⟩
  rw [← hn1, ← hn2]
  rw [← hn1] at hf
  rw [← hn2] at hf'
  rcases hs with ⟨e, k⟩ | ⟨e1, e2, e3, k⟩
  · rw [Prod.mk.injEq] at e
    have k1 := k f (by omega) (by omega)
    have k2 := k f' (by omega) (by omega)
    have q1 : hullP f n1 0 256 = (0, 256) := if_neg (by omega)
    rw [q1]
    have q2 : hullP f' n2 0 256 = (0, 256) := if_neg (by omega)
    dsimp only
    rw [q2]
    exact Prod.ext e.1 e.2
  · have k1 := k f (by omega) (by omega)
    have k2 := k f' (by omega) (by omega)
    have k3 := hu p1 (by omega)
    have hp : p1 = f ∨ p1 = f' := by
      by_cases hne : p1 = f ∨ p1 = f'
      · exact hne
      exfalso
      unfold covI at k3 hn1 hn2
      obtain ⟨d1, hd1⟩ : ∃ d, d = (f - p1) % 256 := ⟨_, rfl⟩
      obtain ⟨d2, hd2⟩ : ∃ d, d = (f' - p1) % 256 := ⟨_, rfl⟩
      rw [← hd1, ← hd2] at k3
      have b1 : 1 ≤ d1 ∧ d1 ≤ 255 := by omega
      have b2 : 1 ≤ d2 ∧ d2 ≤ 255 := by omega
      have a1 : (f - f) % 256 = 0 := by omega
      have a2 : (f' - f') % 256 = 0 := by omega
      rw [a1] at hn1
      rw [a2] at hn2
      rcases (by omega : d1 ≤ d2 ∨ d2 ≤ d1) with hd | hd
      · have a3 : (f' - f) % 256 = d2 - d1 := by omega
        rw [a3] at hn1
        clear hn2 hd1 hd2 a1 a2 a3 hf' k2 e2 hu
        omega
      · have a3 : (f - f') % 256 = d1 - d2 := by omega
        rw [a3] at hn2
        clear hn1 hd1 hd2 a1 a2 a3 hf k1 e2 hu
        omega
    rcases hp with rfl | rfl
    · have q1 : hullP p1 n1 0 256 = (p1, n1) := if_pos (by omega)
      rw [q1]
      dsimp only
      have q2 : hullP f' n2 p1 n1 = (p1, n1) := if_neg (by omega)
      rw [q2]
      exact Prod.ext rfl (by simp only; omega)
    · by_cases hq : n1 < 256
      · have q1 : hullP f n1 0 256 = (f, n1) := if_pos (by omega)
        rw [q1]
        dsimp only
        unfold hullP
        split
        · exact Prod.ext rfl (by simp only; omega)
        · exact Prod.ext (by simp only; omega) (by simp only; omega)
      · have q1 : hullP f n1 0 256 = (0, 256) := if_neg (by omega)
        rw [q1]
        dsimp only
        have q2 : hullP p1 n2 0 256 = (p1, n2) := if_pos (by omega)
        rw [q2]
        exact Prod.ext rfl (by simp only; omega)
open Go.RowKit
def offB (n : Int) : Bool := decide (n < -1048576) || decide (1048576 < n)
def bxB (x0 y0 x1 y1 f c : Int) : Bool := decide (x0 ≤ x1) && (decide (y0 ≤ y1) && ((!([x0, y0, x1, y1].any offB)) && arcB f c))
theorem bxB_iff {x0 y0 x1 y1 f c : Int} : bxB x0 y0 x1 y1 f c = true ↔ (-1048576 ≤ x0 ∧ x0 ≤ x1 ∧ x1 ≤ 1048576) ∧ (-1048576 ≤ y0 ∧ y0 ≤ y1 ∧ y1 ≤ 1048576) ∧ arcB f c = true := by
  unfold bxB offB
  simp only [Bool.and_eq_true, decide_eq_true_eq, List.any_cons, List.any_nil, Bool.or_false, Bool.not_eq_true', Bool.or_eq_false_iff, decide_eq_false_iff_not]
  constructor
  · rintro ⟨a, b, c, d⟩; exact ⟨by omega, by omega, d⟩
  · rintro ⟨a, b, d⟩; exact ⟨by omega, by omega, by omega, d⟩
/-- As the reference asks it. -/
def arcR (f c : Int) : Bool := decide (0 ≤ f) && (decide (f < 256) && (decide (1 ≤ c) && (decide (c ≤ 256) && (decide (c < 256) || f == 0))))
theorem arcR_eq (f c : Int) : arcR f c = arcB f c := by
  rw [Bool.eq_iff_iff, arcB_iff]; unfold arcR; simp only [Bool.and_eq_true, Bool.or_eq_true, decide_eq_true_eq, beq_iff_eq]; omega
def bxR (x0 y0 x1 y1 f c : Int) : Bool := decide (-1048576 ≤ x0) && (decide (x0 ≤ x1) && (decide (x1 ≤ 1048576) && (decide (-1048576 ≤ y0) && (decide (y0 ≤ y1) && (decide (y1 ≤ 1048576) && arcB f c)))))
theorem bxR_eq (x0 y0 x1 y1 f c : Int) : bxR x0 y0 x1 y1 f c = bxB x0 y0 x1 y1 f c := by
  rw [Bool.eq_iff_iff, bxB_iff]; unfold bxR; simp only [Bool.and_eq_true, decide_eq_true_eq]
  constructor
  · rintro ⟨a, b, c, d, e, f, g⟩; exact ⟨by omega, by omega, g⟩
  · rintro ⟨a, b, g⟩; exact ⟨by omega, by omega, by omega, by omega, by omega, by omega, g⟩
def boxB (b : T6) : Bool := bxB b.1 b.2.1 b.2.2.1 b.2.2.2.1 b.2.2.2.2.1 b.2.2.2.2.2
def setB (l : List T6) : Bool := decide (((l.length : Nat) : Int) ≤ 16) && !(l.any fun b => !boxB b)
theorem setB_iff {l : List T6} : setB l = true ↔ l.length ≤ 16 ∧ ∀ b ∈ l, boxB b = true := by
  unfold setB
  rw [Bool.and_eq_true, decide_eq_true_eq, Bool.not_eq_true', List.any_eq_false]
  constructor
  · rintro ⟨a, b⟩; exact ⟨by omega, fun x hx => by have := b x hx; simpa using this⟩
  · rintro ⟨a, b⟩; exact ⟨by omega, fun x hx => by simp [b x hx]⟩
def mnI (a b : Int) : Int := if b < a then b else a
def mxI (a b : Int) : Int := if a < b then b else a
/-- The hull of two boxes. -/
def hulB (a b : T6) : T6 := (mnI a.1 b.1, mnI a.2.1 b.2.1, mxI a.2.2.1 b.2.2.1, mxI a.2.2.2.1 b.2.2.2.1, (hullA a.2.2.2.2.1 a.2.2.2.2.2 b.2.2.2.2.1 b.2.2.2.2.2).1, (hullA a.2.2.2.2.1 a.2.2.2.2.2 b.2.2.2.2.1 b.2.2.2.2.2).2)
theorem hullP_ok {s n bf bn : Int} (hs : 0 ≤ s ∧ s < 256) (hn : 1 ≤ n) (hb : arcB bf bn = true) : arcB (hullP s n bf bn).1 (hullP s n bf bn).2 = true := by
  rw [arcB_iff] at hb ⊢
  unfold hullP
  split <;> simp only <;> omega
theorem hullA_ok {f c f' c' : Int} (h : arcB f c = true) (h' : arcB f' c' = true) : arcB (hullA f c f' c').1 (hullA f c f' c').2 = true := by
  have k := arcB_iff.1 h
  have k' := arcB_iff.1 h'
  unfold hullA
  refine hullP_ok k'.1 (by unfold covI; omega) (hullP_ok k.1 (by unfold covI; omega) (by decide))
theorem hulB_ok {a b : T6} (ha : boxB a = true) (hb : boxB b = true) : boxB (hulB a b) = true := by
  unfold boxB at *
  rw [bxB_iff] at *
  unfold hulB mnI mxI
  simp only
  refine ⟨by omega, by omega, hullA_ok ha.2.2 hb.2.2⟩
def hlS (f c f2 c2 : Int) : Nat → Int × Int
  | 0 => (0, 256)
  | 1 => hullP f (max (covI f f c) (covI f f2 c2)) 0 256
  | _ + 2 => hullA f c f2 c2
theorem hlS_2 (f c f2 c2 : Int) : hlS f c f2 c2 2 = hullP f2 (max (covI f2 f c) (covI f2 f2 c2)) (hlS f c f2 c2 1).1 (hlS f c f2 c2 1).2 := rfl
theorem max_i (a b : Int) : (if a < b then b else a) = max a b := by split <;> omega
/-- The hull of the first boxes of a list, and one more. -/
def estH (l : List T6) : Nat → T6
  | 0 => g6 l 0
  | n + 1 => hulB (estH l n) (g6 l (n + 1))
theorem g6_mem {l : List T6} {j : Nat} (h : j < l.length) : g6 l j ∈ l := by
  unfold g6; rw [List.getD_eq_getElem?_getD]; simp [h]
theorem estH_ok {l : List T6} (h : ∀ b ∈ l, boxB b = true) : ∀ n : Nat, n < l.length → boxB (estH l n) = true
  | 0, hn => h _ (g6_mem hn)
  | n + 1, hn => hulB_ok (estH_ok h n (by omega)) (h _ (g6_mem hn))
/-- The marks of an arc, one by one. -/
def stM (L : List Int) : Nat → List Bool
  | 0 => List.replicate 256 false
  | n + 1 => (stM L n).set (gi L n).toNat true
theorem stM_len (L : List Int) : ∀ n : Nat, (stM L n).length = 256
  | 0 => List.length_replicate
  | n + 1 => by rw [stM, List.length_set, stM_len L n]
theorem stM_get (L : List Int) (hL : ∀ j : Nat, j < L.length → 0 ≤ gi L j ∧ gi L j ≤ 255) (m : Nat) (hm : m < 256) : ∀ n : Nat, n ≤ L.length → (bget (stM L n) m = true ↔ ∃ j : Nat, j < n ∧ gi L j = (m : Int))
  | 0, _ => by
    have e : bget (stM L 0) m = false := by
      show (List.replicate 256 false).getD m false = false
      rw [List.getD_eq_getElem?_getD, List.getElem?_replicate]; split <;> rfl
    rw [e]
    exact ⟨fun h => (by cases h), fun ⟨j, hj, _⟩ => absurd hj (Nat.not_lt_zero j)⟩
  | n + 1, hn => by
    have ih := stM_get L hL m hm n (by omega)
    have hb := hL n (by omega)
    have e : bget (stM L (n + 1)) m = if (gi L n).toNat = m then true else bget (stM L n) m := by
      simp only [stM, bget, List.getD_eq_getElem?_getD, List.getElem?_set, stM_len]
      split
      · simp [show (gi L n).toNat < 256 by omega]
      · rfl
    rw [e]
    split
    · rename_i h
      exact ⟨fun _ => ⟨n, by omega, by omega⟩, fun _ => rfl⟩
    · rename_i h
      rw [ih]
      constructor
      · rintro ⟨j, a, b⟩; exact ⟨j, by omega, b⟩
      · rintro ⟨j, a, b⟩
        rcases (by omega : j < n ∨ j = n) with k | rfl
        · exact ⟨j, k, b⟩
        · omega
theorem gi_mrk {f : Int} {n j : Nat} (h : j < n) : gi (mrkL f n) j = (f + (j : Int)) % 256 := by
  simp [gi, mrkL, h, List.getD_eq_getElem?_getD]
def setL (f c : Int) : List Bool := stM (mrkL f c.toNat) c.toNat
theorem setL_len (f c : Int) : (setL f c).length = 256 := stM_len _ _
theorem setL_get {f c : Int} (h : arcB f c = true) {m : Int} (hm : 0 ≤ m ∧ m < 256) : bget (setL f c) m.toNat = decide ((m - f) % 256 < c) := by
  rw [arcB_iff] at h
  have hs := stM_get (mrkL f c.toNat) (fun j hj => by rw [mrkL_len] at hj; rw [gi_mrk hj]; omega) m.toNat (by omega) c.toNat (by rw [mrkL_len]; exact Nat.le_refl _)
  rw [Bool.eq_iff_iff, decide_eq_true_eq]
  unfold setL
  rw [hs]
  constructor
  · rintro ⟨j, hj, e⟩; rw [gi_mrk hj] at e; omega
  · intro k
    refine ⟨((m - f) % 256).toNat, by omega, ?_⟩
    rw [gi_mrk (by omega)]; omega
def xorB (A B : List Bool) (m : Int) : Bool := bget A m.toNat || bget B m.toNat
theorem need_ext {x y : Int → Bool} (h : ∀ m : Int, 0 ≤ m → m < 256 → x m = y m) (s : Int) : ∀ n : Nat, needN x s n = needN y s n
  | 0 => rfl
  | n + 1 => by rw [needN, needN, need_ext h s n, h _ (by omega) (by omega)]
theorem best_ext {x y : Int → Bool} (h : ∀ m : Int, 0 ≤ m → m < 256 → x m = y m) : ∀ n : Nat, bestN x n = bestN y n
  | 0 => rfl
  | n + 1 => by simp only [bestN]; rw [best_ext h n, need_ext h]
theorem best_hull {f c f' c' : Int} (h : arcB f c = true) (h' : arcB f' c' = true) : bestN (xorB (setL f c) (setL f' c')) 256 = hullA f c f' c' := by
  rw [← hull_eq h h']
  refine best_ext (fun m a b => ?_) 256
  unfold xorB uniB
  rw [setL_get h ⟨a, b⟩, setL_get h' ⟨a, b⟩]
theorem bestN_s (x : Int → Bool) (n : Nat) : bestN x (n + 1) = if needN x (255 - (n : Int)) 256 < 256 ∧ needN x (255 - (n : Int)) 256 ≤ (bestN x n).2 then (255 - (n : Int), needN x (255 - (n : Int)) 256) else bestN x n := rfl
theorem needN_s (x : Int → Bool) (s : Int) (n : Nat) : needN x s (n + 1) = if x ((s + (n : Int)) % 256) = true then (n : Int) + 1 else needN x s n := rfl
open Go.RowKit
def swX (x0 y0 x1 y1 h t f tu le sl ra : Int) : Int := mkX (sweE x0 y0 x1 y1 h t f tu le sl ra) (sweX x0 x1 h f le)
def swY (x0 y0 x1 y1 h t f tu le sl ra : Int) : Int := mkX (sweE x0 y0 x1 y1 h t f tu le sl ra) (sweY y0 y1 h f le)
def swL (x0 y0 x1 y1 h t f tu le sl ra : Int) : List Pt := mkL (sweE x0 y0 x1 y1 h t f tu le sl ra) (sweL x0 y0 x1 y1 h f le sl)
theorem swL_len {x0 y0 x1 y1 h t f tu le sl ra : Int} : (swL x0 y0 x1 y1 h t f tu le sl ra).length ≤ 40 := Nat.le_trans (mkL_le _ _) (sweL_len _ _ _ _ _ _ _ _)
theorem swL_le {x0 y0 x1 y1 h t f tu le sl ra : Int} : (swL x0 y0 x1 y1 h t f tu le sl ra).length ≤ 1000000 := Nat.le_trans swL_len (by decide)
def stE (x0 y0 x1 y1 h t f tu le sl ra : Int) : Int := touE (swX x0 y0 x1 y1 h t f tu le sl ra) (swY x0 y0 x1 y1 h t f tu le sl ra) (swL x0 y0 x1 y1 h t f tu le sl ra)
def stL (x0 y0 x1 y1 h t f tu le sl ra : Int) : List Pt := touL (swX x0 y0 x1 y1 h t f tu le sl ra) (swY x0 y0 x1 y1 h t f tu le sl ra) (swL x0 y0 x1 y1 h t f tu le sl ra)
theorem stL_len {x0 y0 x1 y1 h t f tu le sl ra : Int} : (stL x0 y0 x1 y1 h t f tu le sl ra).length ≤ 8192 := touL_len _ _ _
/-- The way of a command from a rectangle with a heading is free. -/
def unhB (W Hh : Int) (xs : List Int) (x0 y0 x1 y1 h t f tu le sl ra : Int) : Bool := decide (sweE x0 y0 x1 y1 h t f tu le sl ra = 0) && (decide (stE x0 y0 x1 y1 h t f tu le sl ra = 0) && !((stL x0 y0 x1 y1 h t f tu le sl ra).any fun c => atI W Hh xs c.1 c.2 != 1))
def shF (bf bc t : Int) : Int := arcF (bf + (((t % 256).toNat : Nat) : Int)) bc
def grF (F C n : Int) : Int := arcF (F - n) (C + 2 * n)
def grC (C n : Int) : Int := arcC (C + 2 * n)
/-- The headings that a box may have after a turn. -/
def mrkA (bf bc t tu : Int) : List Int := mrkL (grF (shF bf bc t) (arcC bc) tu) (grC (arcC bc) tu).toNat
def boxOK (W Hh : Int) (xs : List Int) (t f tu le sl ra : Int) (b : T6) : Bool := (mrkA b.2.2.2.2.1 b.2.2.2.2.2 t tu).all fun h => unhB W Hh xs b.1 b.2.1 b.2.2.1 b.2.2.2.1 h t f tu le sl ra
def saE (W Hh : Int) (xs : List Int) (l : List T6) (t f tu le sl ra : Int) : Int := if (vldB W Hh xs && (setB l && (cmdB t f && bndB tu le sl ra))) = true then 0 else 1
def saB (W Hh : Int) (xs : List Int) (l : List T6) (t f tu le sl ra : Int) : Bool := decide (saE W Hh xs l t f tu le sl ra = 0) && (decide (f = 0) || l.all fun b => boxOK W Hh xs t f tu le sl ra b)
theorem saE_1 {W Hh : Int} {xs : List Int} {l : List T6} {t f tu le sl ra : Int} (h : ¬ (vldB W Hh xs = true ∧ setB l = true ∧ cmdB t f = true ∧ bndB tu le sl ra = true)) : saE W Hh xs l t f tu le sl ra = 1 ∧ saB W Hh xs l t f tu le sl ra = false := by
  have e : saE W Hh xs l t f tu le sl ra = 1 := if_neg (by simp only [Bool.and_eq_true]; exact h)
  exact ⟨e, by unfold saB; rw [e]; rfl⟩
theorem saE_0 {W Hh : Int} {xs : List Int} {l : List T6} {t f tu le sl ra : Int} (h1 : vldB W Hh xs = true) (h2 : setB l = true) (h3 : cmdB t f = true) (h4 : bndB tu le sl ra = true) : saE W Hh xs l t f tu le sl ra = 0 := if_pos (by rw [h1, h2, h3, h4]; rfl)
theorem saB_z {W Hh : Int} {xs : List Int} {l : List T6} {t f tu le sl ra : Int} (he : saE W Hh xs l t f tu le sl ra = 0) (hf : f = 0) : saB W Hh xs l t f tu le sl ra = true := by
  unfold saB; rw [he, decide_eq_true hf]; rfl
theorem boxOK_t {W Hh : Int} {xs : List Int} {t f tu le sl ra : Int} {b : T6} (h : ∀ m : Nat, m < (mrkA b.2.2.2.2.1 b.2.2.2.2.2 t tu).length → unhB W Hh xs b.1 b.2.1 b.2.2.1 b.2.2.2.1 (gi (mrkA b.2.2.2.2.1 b.2.2.2.2.2 t tu) m) t f tu le sl ra = true) : boxOK W Hh xs t f tu le sl ra b = true := by
  unfold boxOK
  rw [List.all_eq_true]
  intro e he
  obtain ⟨m, hm, rfl⟩ := List.mem_iff_getElem.1 he
  rw [← gi_eq hm]; exact h m hm
theorem boxOK_f {W Hh : Int} {xs : List Int} {t f tu le sl ra : Int} {b : T6} {m : Nat} (hm : m < (mrkA b.2.2.2.2.1 b.2.2.2.2.2 t tu).length) (h : unhB W Hh xs b.1 b.2.1 b.2.2.1 b.2.2.2.1 (gi (mrkA b.2.2.2.2.1 b.2.2.2.2.2 t tu) m) t f tu le sl ra = false) : boxOK W Hh xs t f tu le sl ra b = false := by
  rw [← Bool.not_eq_true]
  intro hh
  unfold boxOK at hh
  rw [List.all_eq_true] at hh
  have := hh _ (List.getElem_mem hm)
  rw [← gi_eq hm, h] at this; cases this
theorem saB_t {W Hh : Int} {xs : List Int} {l : List T6} {t f tu le sl ra : Int} (he : saE W Hh xs l t f tu le sl ra = 0) (h : ∀ j : Nat, j < l.length → boxOK W Hh xs t f tu le sl ra (g6 l j) = true) : saB W Hh xs l t f tu le sl ra = true := by
  unfold saB
  rw [he]
  have e : (l.all fun b => boxOK W Hh xs t f tu le sl ra b) = true := by
    rw [List.all_eq_true]
    intro b hb
    obtain ⟨j, hj, rfl⟩ := List.mem_iff_getElem.1 hb
    have := h j hj
    rw [show g6 l j = l[j] from g6_eq hj] at this; exact this
  rw [e]; simp
theorem saB_f {W Hh : Int} {xs : List Int} {l : List T6} {t f tu le sl ra : Int} {j : Nat} (hf : ¬ f = 0) (hj : j < l.length) (h : boxOK W Hh xs t f tu le sl ra (g6 l j) = false) : saB W Hh xs l t f tu le sl ra = false := by
  unfold saB
  have e : (l.all fun b => boxOK W Hh xs t f tu le sl ra b) = false := by
    rw [← Bool.not_eq_true]; intro hh
    rw [List.all_eq_true] at hh
    have := hh _ (g6_mem hj)
    rw [h] at this; cases this
  rw [e, decide_eq_false hf]; simp
theorem mrkA_len {bf bc t tu : Int} (h : arcB bf bc = true) (ht : 0 ≤ tu ∧ tu ≤ 8) : (mrkA bf bc t tu).length ≤ 256 := by
  have := arcB_iff.1 h
  unfold mrkA; rw [mrkL_len]; unfold grC arcC; split <;> split <;> omega
/-- The longest safe step. -/
def choN (p : Int → Bool) : Nat → Nat
  | 0 => 0
  | n + 1 => if p ((n + 1 : Nat) : Int) = true then n + 1 else choN p n
theorem choN_le (p : Int → Bool) : ∀ n : Nat, choN p n ≤ n
  | 0 => Nat.le_refl _
  | n + 1 => by
    rw [choN]; split
    · exact Nat.le_refl _
    · have := choN_le p n; omega
theorem choN_ok {p : Int → Bool} (h0 : p 0 = true) : ∀ n : Nat, p ((choN p n : Nat) : Int) = true
  | 0 => h0
  | n + 1 => by
    rw [choN]; split
    · assumption
    · exact choN_ok h0 n
theorem choN_t {p : Int → Bool} {n : Nat} (h : p (n : Int) = true) : choN p n = n := by
  cases n with
  | zero => rfl
  | succ n => rw [choN, if_pos h]
theorem choN_f {p : Int → Bool} {n : Nat} (hn : 0 < n) (h : p (n : Int) = false) : choN p n = choN p (n - 1) := by
  cases n with
  | zero => omega
  | succ n => rw [choN, if_neg (by rw [h]; decide), Nat.add_sub_cancel]
open Go.RowKit
set_option maxRecDepth 100000 in
theorem idx_int (H : AHeap) (s : AV) (l : List Int) (hs : Sl H 1 s l.length (ints .i64 l)) (hl : l.length ≤ 1000000000) (g : FuncId) (caps : List AV) (hok : okFn Tryz.prog g = true) (hc : AV.bels H.length caps = true) (p : Int → Bool) (hf : ∀ j, j < l.length → ACalls Tryz.prog g (.int .i64 (gi l j) :: caps) H (fun v H' => v = .bool (p (gi l j)) ∧ H' = H)) :
    ACalls Tryz.prog 174 [s, .fn g caps] H (fun v H' => v = .int .i64 (idxI p l) ∧ H' = H) := by
  obtain ⟨b, own, cap, rfl, hb⟩ := hs
  have hbl := getElem?_lt hb
  have hmv := fun m sel => mvs_caps (n := H.length) (m := m) (sel := sel) hc
  (refine ACalls_run try_mixed Tryz.func174 true _ rfl (Nat.le_of_ble_eq_true (by kernel_rfl)) (by kernel_rfl) ?_; intro hbel Q hQ hQ' c hc; unfold Tryz.f174 at hc; simp only [Option.some.injEq] at hc; subst hc; clear hQ')
  simp -implicitDefEqProofs (disch := omega) only [simprocAttr, amset, tyset, Function.comp_apply, one1, lenV, calleeOf, lateOk, belowV, aop, AV.ofValue, AV.ofCell, AV.cells, AV.flat, AV.one, arep, aBin, aAppend, aConv]
  refine go_loop try_mixed (by kernel_rfl) (fun k F Hx => ∃ i : Nat, i + k = l.length ∧ (l.take i).any p = false ∧ F = [(0, .sl (some (b, 0)) l.length none), (1, .fn g caps), (7, .int .i64 l.length), (8, .int .i64 (i : Nat))] ∧ Hx = H) l.length ?_ ?_
  · refine ⟨_, _, _, ⟨0, by omega, rfl, rfl, rfl⟩, Abs.by0 hbel ?_⟩
    exact absWf @hmv
  · rintro k F Hx ⟨i, hik, ht, rfl, rfl⟩ J hJ
    by_cases hi : i < l.length
    · have hii : (i : Int) < (l.length : Int) := by omega
      have q1 := ints_get (k := .i64) hi
      have hg := gi_eq hi
      simp -implicitDefEqProofs (disch := omega) only [hii, hb, q1, ints_len, ints_ones, simprocAttr, amset, tyset, Function.comp_apply, one1, lenV, calleeOf, lateOk, belowV, aop, AV.ofValue, AV.ofCell, AV.cells, AV.flat, AV.one, arep, aBin, aAppend, aConv]
      refine And.intro (by omega) ?_
      refine call_v hok (hf i hi) ?_
      have hst := any_step (p := p) hi
      rw [ht, Bool.false_or, ← hg] at hst
      cases h1 : p (gi l i)
      · rw [h1] at hst
        simp -implicitDefEqProofs (disch := omega) only [h1, simprocAttr, amset, tyset, Function.comp_apply, one1, lenV, calleeOf, lateOk, belowV, aop, AV.ofValue, AV.ofCell, AV.cells, AV.flat, AV.one, arep, aBin, aAppend, aConv]
        refine hJ _ _ ⟨k - 1, by omega, _, _, _, ⟨i + 1, by omega, hst, rfl, rfl⟩, Abs.by0 hbel ?_⟩
        exact absWf @hmv
      · simp -implicitDefEqProofs (disch := omega) only [h1, simprocAttr, amset, tyset, Function.comp_apply, one1, lenV, calleeOf, lateOk, belowV, aop, AV.ofValue, AV.ofCell, AV.cells, AV.flat, AV.one, arep, aBin, aAppend, aConv]
        exact hQ _ _ (end_plain0 (.inl rfl) hbel (x := .int .i64 (i : Nat)) (resT Tryz.results174) rfl ⟨by rw [idxI_at hi ht (by rw [← hg]; exact h1)], rfl⟩)
    · have hnn : ¬ ((i : Int) < (l.length : Int)) := by omega
      simp -implicitDefEqProofs (disch := omega) only [hnn, simprocAttr, amset, tyset, Function.comp_apply, one1, lenV, calleeOf, lateOk, belowV, aop, AV.ofValue, AV.ofCell, AV.cells, AV.flat, AV.one, arep, aBin, aAppend, aConv]
      rw [List.take_of_length_le (by omega)] at ht
      exact hQ _ _ (end_plain0 (.inl rfl) hbel (x := .int .i64 (-1)) (resT Tryz.results174) rfl ⟨by rw [idxI_none ht], rfl⟩)
theorem has_int (H : AHeap) (s : AV) (l : List Int) (hs : Sl H 1 s l.length (ints .i64 l)) (hl : l.length ≤ 1000000000) (g : FuncId) (caps : List AV) (hok : okFn Tryz.prog g = true) (hc : AV.bels H.length caps = true) (p : Int → Bool) (hf : ∀ j, j < l.length → ACalls Tryz.prog g (.int .i64 (gi l j) :: caps) H (fun v H' => v = .bool (p (gi l j)) ∧ H' = H)) :
    ACalls Tryz.prog 155 [s, .fn g caps] H (fun v H' => v = .bool (l.any p) ∧ H' = H) := by
  have key := idx_int H s l hs hl g caps hok hc p hf
  obtain ⟨b, own, cap, rfl, hb⟩ := hs
  have hbl := getElem?_lt hb
  (refine ACalls_run try_mixed Tryz.func155 true _ rfl (Nat.le_of_ble_eq_true (by kernel_rfl)) (by kernel_rfl) ?_; intro hbel Q hQ hQ' c hc; unfold Tryz.f155 at hc; simp only [Option.some.injEq] at hc; subst hc; clear hQ')
  simp -implicitDefEqProofs (disch := omega) only [simprocAttr, amset, tyset, Function.comp_apply, one1, lenV, calleeOf, lateOk, belowV, aop, AV.ofValue, AV.ofCell, AV.cells, AV.flat, AV.one, arep, aBin, aAppend, aConv]
  refine call_v (by kernel_rfl) key ?_
  simp -implicitDefEqProofs (disch := omega) only [simprocAttr, amset, tyset, Function.comp_apply, one1, lenV, calleeOf, lateOk, belowV, aop, AV.ofValue, AV.ofCell, AV.cells, AV.flat, AV.one, arep, aBin, aAppend, aConv]
  exact hQ _ _ (end_plain0 (.inl rfl) hbel (x := .bool (decide (0 ≤ idxI p l))) (resT Tryz.results155) rfl ⟨by rw [idxI_any], rfl⟩)
open Go.RowKit
set_option maxRecDepth 100000 in
theorem idx_box (H : AHeap) (s : AV) (l : List T6) (hs : Sl H 6 s l.length (r6 l)) (hl : l.length ≤ 1000000000) (g : FuncId) (caps : List AV) (hok : okFn Tryz.prog g = true) (hc : AV.bels H.length caps = true) (p : T6 → Bool) (hf : ∀ j, j < l.length → ACalls Tryz.prog g (.agg [.int .i64 (g61 l j), .int .i64 (g62 l j), .int .i64 (g63 l j), .int .i64 (g64 l j), .int .i64 (g65 l j), .int .i64 (g66 l j)] :: caps) H (fun v H' => v = .bool (p (g61 l j, g62 l j, g63 l j, g64 l j, g65 l j, g66 l j)) ∧ H' = H)) :
    ACalls Tryz.prog 168 [s, .fn g caps] H (fun v H' => v = .int .i64 (idxI p l) ∧ H' = H) := by
  obtain ⟨b, own, cap, rfl, hb⟩ := hs
  have hbl := getElem?_lt hb
  have hmv := fun m sel => mvs_caps (n := H.length) (m := m) (sel := sel) hc
  (refine ACalls_run try_mixed Tryz.func168 true _ rfl (Nat.le_of_ble_eq_true (by kernel_rfl)) (by kernel_rfl) ?_; intro hbel Q hQ hQ' c hc; unfold Tryz.f168 at hc; simp only [Option.some.injEq] at hc; subst hc; clear hQ')
  simp -implicitDefEqProofs (disch := omega) only [simprocAttr, amset, tyset, Function.comp_apply, one1, lenV, calleeOf, lateOk, belowV, aop, AV.ofValue, AV.ofCell, AV.cells, AV.flat, AV.one, arep, aBin, aAppend, aConv]
  refine go_loop try_mixed (by kernel_rfl) (fun k F Hx => ∃ i : Nat, i + k = l.length ∧ (l.take i).any p = false ∧ F = [(0, .sl (some (b, 0)) l.length none), (1, .fn g caps), (7, .int .i64 l.length), (8, .int .i64 (i : Nat))] ∧ Hx = H) l.length ?_ ?_
  · refine ⟨_, _, _, ⟨0, by omega, rfl, rfl, rfl⟩, Abs.by0 hbel ?_⟩
    exact absWf @hmv
  · rintro k F Hx ⟨i, hik, ht, rfl, rfl⟩ J hJ
    by_cases hi : i < l.length
    · have hii : (i : Int) < (l.length : Int) := by omega
      have q1 := r6_load hi
      have hg := g6_eq hi
      simp -implicitDefEqProofs (disch := omega) only [hii, hb, q1, r6_len, r6_one, simprocAttr, amset, tyset, Function.comp_apply, one1, lenV, calleeOf, lateOk, belowV, aop, AV.ofValue, AV.ofCell, AV.cells, AV.flat, AV.one, arep, aBin, aAppend, aConv]
      iterate 2 refine And.intro (by omega) ?_
      refine call_v hok (hf i hi) ?_
      have hst := any_step (p := p) hi
      rw [ht, Bool.false_or, ← hg] at hst
      cases h1 : p (g61 l i, g62 l i, g63 l i, g64 l i, g65 l i, g66 l i)
      · rw [h1] at hst
        simp -implicitDefEqProofs (disch := omega) only [h1, simprocAttr, amset, tyset, Function.comp_apply, one1, lenV, calleeOf, lateOk, belowV, aop, AV.ofValue, AV.ofCell, AV.cells, AV.flat, AV.one, arep, aBin, aAppend, aConv]
        refine hJ _ _ ⟨k - 1, by omega, _, _, _, ⟨i + 1, by omega, hst, rfl, rfl⟩, Abs.by0 hbel ?_⟩
        exact absWf @hmv
      · simp -implicitDefEqProofs (disch := omega) only [h1, simprocAttr, amset, tyset, Function.comp_apply, one1, lenV, calleeOf, lateOk, belowV, aop, AV.ofValue, AV.ofCell, AV.cells, AV.flat, AV.one, arep, aBin, aAppend, aConv]
        exact hQ _ _ (end_plain0 (.inl rfl) hbel (x := .int .i64 (i : Nat)) (resT Tryz.results168) rfl ⟨by rw [idxI_at hi ht (by rw [← hg]; exact h1)], rfl⟩)
    · have hnn : ¬ ((i : Int) < (l.length : Int)) := by omega
      simp -implicitDefEqProofs (disch := omega) only [hnn, simprocAttr, amset, tyset, Function.comp_apply, one1, lenV, calleeOf, lateOk, belowV, aop, AV.ofValue, AV.ofCell, AV.cells, AV.flat, AV.one, arep, aBin, aAppend, aConv]
      rw [List.take_of_length_le (by omega)] at ht
      exact hQ _ _ (end_plain0 (.inl rfl) hbel (x := .int .i64 (-1)) (resT Tryz.results168) rfl ⟨by rw [idxI_none ht], rfl⟩)
theorem has_box (H : AHeap) (s : AV) (l : List T6) (hs : Sl H 6 s l.length (r6 l)) (hl : l.length ≤ 1000000000) (g : FuncId) (caps : List AV) (hok : okFn Tryz.prog g = true) (hc : AV.bels H.length caps = true) (p : T6 → Bool) (hf : ∀ j, j < l.length → ACalls Tryz.prog g (.agg [.int .i64 (g61 l j), .int .i64 (g62 l j), .int .i64 (g63 l j), .int .i64 (g64 l j), .int .i64 (g65 l j), .int .i64 (g66 l j)] :: caps) H (fun v H' => v = .bool (p (g61 l j, g62 l j, g63 l j, g64 l j, g65 l j, g66 l j)) ∧ H' = H)) :
    ACalls Tryz.prog 135 [s, .fn g caps] H (fun v H' => v = .bool (l.any p) ∧ H' = H) := by
  have key := idx_box H s l hs hl g caps hok hc p hf
  obtain ⟨b, own, cap, rfl, hb⟩ := hs
  have hbl := getElem?_lt hb
  (refine ACalls_run try_mixed Tryz.func135 true _ rfl (Nat.le_of_ble_eq_true (by kernel_rfl)) (by kernel_rfl) ?_; intro hbel Q hQ hQ' c hc; unfold Tryz.f135 at hc; simp only [Option.some.injEq] at hc; subst hc; clear hQ')
  simp -implicitDefEqProofs (disch := omega) only [simprocAttr, amset, tyset, Function.comp_apply, one1, lenV, calleeOf, lateOk, belowV, aop, AV.ofValue, AV.ofCell, AV.cells, AV.flat, AV.one, arep, aBin, aAppend, aConv]
  refine call_v (by kernel_rfl) key ?_
  simp -implicitDefEqProofs (disch := omega) only [simprocAttr, amset, tyset, Function.comp_apply, one1, lenV, calleeOf, lateOk, belowV, aop, AV.ofValue, AV.ofCell, AV.cells, AV.flat, AV.one, arep, aBin, aAppend, aConv]
  exact hQ _ _ (end_plain0 (.inl rfl) hbel (x := .bool (decide (0 ≤ idxI p l))) (resT Tryz.results135) rfl ⟨by rw [idxI_any], rfl⟩)
open Go.RowKit
set_option maxHeartbeats 4000000
set_option maxRecDepth 100000
theorem small1_c (H : AHeap) (n : Int) : ACalls Tryz.prog 180 [.int .i64 n] H (fun v H' => v = .bool (offB n) ∧ H' = H) := by
  refine AcT true Tryz.func180 ?_; intro hbel Q hQ
  refine runT ?_
  refine gd_split (fun h1 => ?_) (fun h1 => ?_)
  · have h1d := bsT h1
    have g'1 := (jn @h1 @h1d)
    refine runTf g'1 ?_
    exact hQ _ _ (end_plain0 (.inl rfl) hbel (x := .bool (decide (1048576 < n))) (resT Tryz.results180) rfl ⟨by simp [offB, h1d], rfl⟩)
  · have h1d := bsT h1
    have g'2 := (jn @h1 @h1d)
    refine runTf g'2 ?_
    exact hQ _ _ (end_plain0 (.inl rfl) hbel (x := .bool true) (resT Tryz.results180) rfl ⟨by simp [offB, h1d], rfl⟩)
theorem small_c (H : AHeap) (s : AV) (l : List Int) (hs : Sl H 1 s l.length (ints .i64 l)) (hl : l.length ≤ 1000000) : ACalls Tryz.prog 169 [s] H (fun v H' => v = .bool (!(l.any offB)) ∧ H' = H) := by
  obtain ⟨bs, os, cs, rfl, hbs⟩ := hs
  have hbls := getElem?_lt hbs
  have hb0s := fun l => get_app (l := l) hbs
  refine AcT true Tryz.func169 ?_; intro hbel Q hQ
  have g'3 := (jn @hbs @hb0s)
  refine runTf g'3 ?_
  refine call_v (by kernel_rfl) (has_int _ _ l ⟨_, _, _, rfl, by first | exact hb0s _ | exact hbs⟩ (by omega) _ [] (by kernel_rfl) rfl offB (fun j hj => small1_c _ _)) ?_
  refine runTf g'3 ?_
  exact hQ _ _ (end_plain0 (.inl rfl) hbel (x := .bool (!(l.any offB))) (resT Tryz.results169) rfl ⟨rfl, rfl⟩)
theorem varc_c (H : AHeap) (f : Int) (c : Int) : ACalls Tryz.prog 138 [.agg [.int .i64 f, .int .i64 c]] H (fun v H' => v = .bool (arcB f c) ∧ H' = H) := by
  refine AcT true Tryz.func138 ?_; intro hbel Q hQ
  refine runT ?_
  refine gd_split (fun h1 => ?_) (fun h1 => ?_)
  · have h1d := bsT h1
    have g'4 := (jn @h1 @h1d)
    refine runTf g'4 ?_
    refine gd_split (fun h2 => ?_) (fun h2 => ?_)
    · have h2d := bsT h2
      have g'5 := (jn @h2 (jn @h2d g'4))
      refine runTf g'5 ?_
      refine gd_split (fun h3 => ?_) (fun h3 => ?_)
      · have h3d := bsT h3
        have g'6 := (jn @h3 (jn @h3d g'5))
        refine runTf g'6 ?_
        refine gd_split (fun h4 => ?_) (fun h4 => ?_)
        · have h4d := bsT h4
          have g'7 := (jn @h4 (jn @h4d g'6))
          refine runTf g'7 ?_
          refine gd_split (fun h5 => ?_) (fun h5 => ?_)
          · have h5d := bsT h5
            have h5n := bnT h5
            have g'8 := (jn @h5 (jn @h5n (jn @int_bne (jn @int_beq g'7))))
            refine runTf g'8 ?_
            exact hQ _ _ (end_plain (.inl rfl) hbel (x := .bool (decide (c < 256))) (resT Tryz.results138) rfl ⟨by first | (simp [arcB, h1d, h2d, h3d, h4d, h5d]; done) | (simp [arcB, h1d, h2d, h3d, h4d, h5d]; omega), rfl⟩)
          · have h5d := bsT h5
            have h5n := bnT h5
            have g'9 := (jn @h5 (jn @h5n (jn @int_bne (jn @int_beq g'7))))
            refine runTf g'9 ?_
            exact hQ _ _ (end_plain (.inl rfl) hbel (x := .bool true) (resT Tryz.results138) rfl ⟨by first | (simp [arcB, h1d, h2d, h3d, h4d, h5d]; done) | (simp [arcB, h1d, h2d, h3d, h4d, h5d]; omega), rfl⟩)
        · have h4d := bsT h4
          have g'10 := (jn @h4 (jn @h4d g'6))
          refine runTf g'10 ?_
          exact hQ _ _ (end_plain (.inl rfl) hbel (x := .bool false) (resT Tryz.results138) rfl ⟨by first | (simp [arcB, h1d, h2d, h3d, h4d]; done) | (simp [arcB, h1d, h2d, h3d, h4d]; omega), rfl⟩)
      · have h3d := bsT h3
        have g'11 := (jn @h3 (jn @h3d g'5))
        refine runTf g'11 ?_
        exact hQ _ _ (end_plain (.inl rfl) hbel (x := .bool false) (resT Tryz.results138) rfl ⟨by first | (simp [arcB, h1d, h2d, h3d]; done) | (simp [arcB, h1d, h2d, h3d]; omega), rfl⟩)
    · have h2d := bsT h2
      have g'12 := (jn @h2 (jn @h2d g'4))
      refine runTf g'12 ?_
      exact hQ _ _ (end_plain (.inl rfl) hbel (x := .bool false) (resT Tryz.results138) rfl ⟨by first | (simp [arcB, h1d, h2d]; done) | (simp [arcB, h1d, h2d]; omega), rfl⟩)
  · have h1d := bsT h1
    have g'13 := (jn @h1 @h1d)
    refine runTf g'13 ?_
    exact hQ _ _ (end_plain (.inl rfl) hbel (x := .bool false) (resT Tryz.results138) rfl ⟨by first | (simp [arcB, h1d]; done) | (simp [arcB, h1d]; omega), rfl⟩)
theorem barc_c (H : AHeap) (f : Int) (c : Int) : ACalls Tryz.prog 132 [.agg [.int .i64 f, .int .i64 c]] H (fun v H' => v = .bool (arcB f c) ∧ H' = H) := by
  refine AcT true Tryz.func132 ?_; intro hbel Q hQ
  refine runT ?_
  refine gd_split (fun h1 => ?_) (fun h1 => ?_)
  · have h1d := bsT h1
    have g'14 := (jn @h1 @h1d)
    refine runTf g'14 ?_
    refine gd_split (fun h2 => ?_) (fun h2 => ?_)
    · have h2d := bsT h2
      have g'15 := (jn @h2 (jn @h2d g'14))
      refine runTf g'15 ?_
      refine gd_split (fun h3 => ?_) (fun h3 => ?_)
      · have h3d := bsT h3
        have g'16 := (jn @h3 (jn @h3d g'15))
        refine runTf g'16 ?_
        refine gd_split (fun h4 => ?_) (fun h4 => ?_)
        · have h4d := bsT h4
          have g'17 := (jn @h4 (jn @h4d g'16))
          refine runTf g'17 ?_
          refine gd_split (fun h5 => ?_) (fun h5 => ?_)
          · have h5d := bsT h5
            have g'18 := (jn @h5 (jn @h5d g'17))
            refine runTf g'18 ?_
            exact hQ _ _ (end_plain (.inl rfl) hbel (x := .bool (f == 0)) (resT Tryz.results132) rfl ⟨by rw [← arcR_eq]; first | (simp [arcR, h1d, h2d, h3d, h4d, h5d]; done) | (simp [arcR, h1d, h2d, h3d, h4d, h5d]; omega), rfl⟩)
          · have h5d := bsT h5
            have g'19 := (jn @h5 (jn @h5d g'17))
            refine runTf g'19 ?_
            exact hQ _ _ (end_plain (.inl rfl) hbel (x := .bool true) (resT Tryz.results132) rfl ⟨by rw [← arcR_eq]; first | (simp [arcR, h1d, h2d, h3d, h4d, h5d]; done) | (simp [arcR, h1d, h2d, h3d, h4d, h5d]; omega), rfl⟩)
        · have h4d := bsT h4
          have g'20 := (jn @h4 (jn @h4d g'16))
          refine runTf g'20 ?_
          exact hQ _ _ (end_plain (.inl rfl) hbel (x := .bool false) (resT Tryz.results132) rfl ⟨by rw [← arcR_eq]; first | (simp [arcR, h1d, h2d, h3d, h4d]; done) | (simp [arcR, h1d, h2d, h3d, h4d]; omega), rfl⟩)
      · have h3d := bsT h3
        have g'21 := (jn @h3 (jn @h3d g'15))
        refine runTf g'21 ?_
        exact hQ _ _ (end_plain (.inl rfl) hbel (x := .bool false) (resT Tryz.results132) rfl ⟨by rw [← arcR_eq]; first | (simp [arcR, h1d, h2d, h3d]; done) | (simp [arcR, h1d, h2d, h3d]; omega), rfl⟩)
    · have h2d := bsT h2
      have g'22 := (jn @h2 (jn @h2d g'14))
      refine runTf g'22 ?_
      exact hQ _ _ (end_plain (.inl rfl) hbel (x := .bool false) (resT Tryz.results132) rfl ⟨by rw [← arcR_eq]; first | (simp [arcR, h1d, h2d]; done) | (simp [arcR, h1d, h2d]; omega), rfl⟩)
  · have h1d := bsT h1
    have g'23 := (jn @h1 @h1d)
    refine runTf g'23 ?_
    exact hQ _ _ (end_plain (.inl rfl) hbel (x := .bool false) (resT Tryz.results132) rfl ⟨by rw [← arcR_eq]; first | (simp [arcR, h1d]; done) | (simp [arcR, h1d]; omega), rfl⟩)
theorem r4varc_c (H : AHeap) (f : Int) (c : Int) : ACalls Tryz.prog 143 [.agg [.int .i64 f, .int .i64 c]] H (fun v H' => v = .bool (arcB f c) ∧ H' = H) := by
  refine AcT true Tryz.func143 ?_; intro hbel Q hQ
  refine runT ?_
  refine call_v (by kernel_rfl) (barc_c _ f c) ?_
  refine runT ?_
  exact hQ _ _ (end_plain (.inl rfl) hbel (x := .bool (arcB f c)) (resT Tryz.results143) rfl ⟨rfl, rfl⟩)
theorem xarc_c (H : AHeap) (x0 : Int) (y0 : Int) (x1 : Int) (y1 : Int) (f : Int) (c : Int) : ACalls Tryz.prog 151 [.agg [.int .i64 x0, .int .i64 y0, .int .i64 x1, .int .i64 y1, .int .i64 f, .int .i64 c]] H (fun v H' => v = .agg [.int .i64 f, .int .i64 c] ∧ H' = H) := by
  refine AcT true Tryz.func151 ?_; intro hbel Q hQ
  refine runT ?_
  exact hQ _ _ (end_plain (.inl rfl) hbel (x := .agg [.int .i64 f, .int .i64 c]) (resT Tryz.results151) rfl ⟨rfl, rfl⟩)
theorem r6arc_c (H : AHeap) (x0 : Int) (y0 : Int) (x1 : Int) (y1 : Int) (f : Int) (c : Int) : ACalls Tryz.prog 154 [.agg [.int .i64 x0, .int .i64 y0, .int .i64 x1, .int .i64 y1, .int .i64 f, .int .i64 c]] H (fun v H' => v = .agg [.int .i64 f, .int .i64 c] ∧ H' = H) := by
  refine AcT true Tryz.func154 ?_; intro hbel Q hQ
  refine runT ?_
  exact hQ _ _ (end_plain (.inl rfl) hbel (x := .agg [.int .i64 f, .int .i64 c]) (resT Tryz.results154) rfl ⟨rfl, rfl⟩)
theorem bxv_c (H : AHeap) (x0 : Int) (y0 : Int) (x1 : Int) (y1 : Int) (f : Int) (c : Int) : ACalls Tryz.prog 137 [.agg [.int .i64 x0, .int .i64 y0, .int .i64 x1, .int .i64 y1, .int .i64 f, .int .i64 c]] H (fun v H' => v = .bool (bxB x0 y0 x1 y1 f c) ∧ H' = H) := by
  refine AcT true Tryz.func137 ?_; intro hbel Q hQ
  refine runT ?_
  refine gd_split (fun h1 => ?_) (fun h1 => ?_)
  · have h1d := bsT h1
    have g'24 := (jn @h1 @h1d)
    refine runTf g'24 ?_
    refine gd_split (fun h2 => ?_) (fun h2 => ?_)
    · have h2d := bsT h2
      have g'25 := (jn @h2 (jn @h2d g'24))
      refine runTf g'25 ?_
      refine call_v (by kernel_rfl) (small_c _ _ [x0, y0, x1, y1] ⟨_, _, _, by first | rfl | (rw [List.length_append]; done) | (rw [List.length_append]; rfl), by first | rfl | (rw [get_newk]; rfl) | (rw [get_new0]; rfl) | (rw [get_newk, prs_append]; rfl) | (rw [get_new0, prs_append]; rfl)⟩ (by first | decide | omega | simp)) ?_
      refine runTf g'25 ?_
      refine gd_split (fun h3 => ?_) (fun h3 => ?_)
      · have h3d := bsT h3
        have g'26 := (jn @h3 (jn @h3d g'25))
        refine runTf g'26 ?_
        refine call_v (by kernel_rfl) (xarc_c _ x0 y0 x1 y1 f c) ?_
        refine runTf g'26 ?_
        refine call_v (by kernel_rfl) (varc_c _ f c) ?_
        refine runTf g'26 ?_
        exact hQ _ _ (end_plain (.inl rfl) hbel (x := .bool (arcB f c)) (resT Tryz.results137) rfl ⟨by first | (simp [bxB, h1d, h2d, h3d]; done) | (unfold bxB; simp only [h1d, h2d, h3d]; rfl), rfl⟩)
      · have h3d := bsT h3
        have g'27 := (jn @h3 (jn @h3d g'25))
        refine runTf g'27 ?_
        exact hQ _ _ (end_plain (.inl rfl) hbel (x := .bool false) (resT Tryz.results137) rfl ⟨by first | (simp [bxB, h1d, h2d, h3d]; done) | (unfold bxB; simp only [h1d, h2d, h3d]; rfl), rfl⟩)
    · have h2d := bsT h2
      have g'28 := (jn @h2 (jn @h2d g'24))
      refine runTf g'28 ?_
      exact hQ _ _ (end_plain (.inl rfl) hbel (x := .bool false) (resT Tryz.results137) rfl ⟨by first | (simp [bxB, h1d, h2d]; done) | (unfold bxB; simp only [h1d, h2d]; rfl), rfl⟩)
  · have h1d := bsT h1
    have g'29 := (jn @h1 @h1d)
    refine runTf g'29 ?_
    exact hQ _ _ (end_plain (.inl rfl) hbel (x := .bool false) (resT Tryz.results137) rfl ⟨by first | (simp [bxB, h1d]; done) | (unfold bxB; simp only [h1d]; rfl), rfl⟩)
theorem bbx_c (H : AHeap) (x0 : Int) (y0 : Int) (x1 : Int) (y1 : Int) (f : Int) (c : Int) : ACalls Tryz.prog 71 [.agg [.int .i64 x0, .int .i64 y0, .int .i64 x1, .int .i64 y1, .int .i64 f, .int .i64 c]] H (fun v H' => v = .bool (bxB x0 y0 x1 y1 f c) ∧ H' = H) := by
  refine AcT true Tryz.func71 ?_; intro hbel Q hQ
  refine runT ?_
  refine gd_split (fun h1 => ?_) (fun h1 => ?_)
  · have h1d := bsT h1
    have g'30 := (jn @h1 @h1d)
    refine runTf g'30 ?_
    refine gd_split (fun h2 => ?_) (fun h2 => ?_)
    · have h2d := bsT h2
      have g'31 := (jn @h2 (jn @h2d g'30))
      refine runTf g'31 ?_
      refine gd_split (fun h3 => ?_) (fun h3 => ?_)
      · have h3d := bsT h3
        have g'32 := (jn @h3 (jn @h3d g'31))
        refine runTf g'32 ?_
        refine gd_split (fun h4 => ?_) (fun h4 => ?_)
        · have h4d := bsT h4
          have g'33 := (jn @h4 (jn @h4d g'32))
          refine runTf g'33 ?_
          refine gd_split (fun h5 => ?_) (fun h5 => ?_)
          · have h5d := bsT h5
            have g'34 := (jn @h5 (jn @h5d g'33))
            refine runTf g'34 ?_
            refine gd_split (fun h6 => ?_) (fun h6 => ?_)
            · have h6d := bsT h6
              have g'35 := (jn @h6 (jn @h6d g'34))
              refine runTf g'35 ?_
              refine call_v (by kernel_rfl) (barc_c _ f c) ?_
              refine runTf g'35 ?_
              exact hQ _ _ (end_plain (.inl rfl) hbel (x := .bool (arcB f c)) (resT Tryz.results71) rfl ⟨by rw [← bxR_eq]; simp [bxR, h1d, h2d, h3d, h4d, h5d, h6d], rfl⟩)
            · have h6d := bsT h6
              have g'36 := (jn @h6 (jn @h6d g'34))
              refine runTf g'36 ?_
              exact hQ _ _ (end_plain (.inl rfl) hbel (x := .bool false) (resT Tryz.results71) rfl ⟨by rw [← bxR_eq]; simp [bxR, h1d, h2d, h3d, h4d, h5d, h6d], rfl⟩)
          · have h5d := bsT h5
            have g'37 := (jn @h5 (jn @h5d g'33))
            refine runTf g'37 ?_
            exact hQ _ _ (end_plain (.inl rfl) hbel (x := .bool false) (resT Tryz.results71) rfl ⟨by rw [← bxR_eq]; simp [bxR, h1d, h2d, h3d, h4d, h5d], rfl⟩)
        · have h4d := bsT h4
          have g'38 := (jn @h4 (jn @h4d g'32))
          refine runTf g'38 ?_
          exact hQ _ _ (end_plain (.inl rfl) hbel (x := .bool false) (resT Tryz.results71) rfl ⟨by rw [← bxR_eq]; simp [bxR, h1d, h2d, h3d, h4d], rfl⟩)
      · have h3d := bsT h3
        have g'39 := (jn @h3 (jn @h3d g'31))
        refine runTf g'39 ?_
        exact hQ _ _ (end_plain (.inl rfl) hbel (x := .bool false) (resT Tryz.results71) rfl ⟨by rw [← bxR_eq]; simp [bxR, h1d, h2d, h3d], rfl⟩)
    · have h2d := bsT h2
      have g'40 := (jn @h2 (jn @h2d g'30))
      refine runTf g'40 ?_
      exact hQ _ _ (end_plain (.inl rfl) hbel (x := .bool false) (resT Tryz.results71) rfl ⟨by rw [← bxR_eq]; simp [bxR, h1d, h2d], rfl⟩)
  · have h1d := bsT h1
    have g'41 := (jn @h1 @h1d)
    refine runTf g'41 ?_
    exact hQ _ _ (end_plain (.inl rfl) hbel (x := .bool false) (resT Tryz.results71) rfl ⟨by rw [← bxR_eq]; simp [bxR, h1d], rfl⟩)
theorem vset1_c (H : AHeap) (x0 : Int) (y0 : Int) (x1 : Int) (y1 : Int) (f : Int) (c : Int) : ACalls Tryz.prog 136 [.agg [.int .i64 x0, .int .i64 y0, .int .i64 x1, .int .i64 y1, .int .i64 f, .int .i64 c]] H (fun v H' => v = .bool (!(bxB x0 y0 x1 y1 f c)) ∧ H' = H) := by
  refine AcT true Tryz.func136 ?_; intro hbel Q hQ
  refine runT ?_
  refine call_v (by kernel_rfl) (bxv_c _ x0 y0 x1 y1 f c) ?_
  refine runT ?_
  exact hQ _ _ (end_plain (.inl rfl) hbel (x := .bool (!(bxB x0 y0 x1 y1 f c))) (resT Tryz.results136) rfl ⟨rfl, rfl⟩)
theorem vset_c (H : AHeap) (s : AV) (l : List T6) (hs : Sl H 6 s l.length (r6 l)) (hl : l.length ≤ 1000000000) : ACalls Tryz.prog 74 [s] H (fun v H' => v = .bool (setB l) ∧ H' = H) := by
  obtain ⟨bs, os, cs, rfl, hbs⟩ := hs
  have hbls := getElem?_lt hbs
  have hb0s := fun l => get_app (l := l) hbs
  refine AcT true Tryz.func74 ?_; intro hbel Q hQ
  have g'42 := (jn @hbs @hb0s)
  refine runTf g'42 ?_
  refine gd_split (fun h1 => ?_) (fun h1 => ?_)
  · have h1d := bsT h1
    have g'43 := (jn @h1 (jn @h1d g'42))
    refine runTf g'43 ?_
    refine call_v (by kernel_rfl) (has_box _ _ l ⟨_, _, _, rfl, by first | exact hb0s _ | exact hbs⟩ (by omega) _ [] (by kernel_rfl) rfl (fun b => !boxB b) (fun j hj => vset1_c _ _ _ _ _ _ _)) ?_
    refine runTf g'43 ?_
    exact hQ _ _ (end_plain0 (.inl rfl) hbel (x := .bool (!(l.any (fun b => !boxB b)))) (resT Tryz.results74) rfl ⟨by first | (simp [setB, h1d]; done) | (unfold setB; simp only [h1]; rfl), rfl⟩)
  · have h1d := bsT h1
    have g'44 := (jn @h1 (jn @h1d g'42))
    refine runTf g'44 ?_
    exact hQ _ _ (end_plain0 (.inl rfl) hbel (x := .bool false) (resT Tryz.results74) rfl ⟨by first | (simp [setB, h1d]; done) | (unfold setB; simp only [h1]; rfl), rfl⟩)
theorem bset_c (H : AHeap) (s : AV) (l : List T6) (hs : Sl H 6 s l.length (r6 l)) (hl : l.length ≤ 1000000000) : ACalls Tryz.prog 72 [s] H (fun v H' => v = .bool (setB l) ∧ H' = H) := by
  obtain ⟨bs, os, cs, rfl, hbs⟩ := hs
  have hbls := getElem?_lt hbs
  have hb0s := fun l => get_app (l := l) hbs
  refine AcT true Tryz.func72 ?_; intro hbel Q hQ
  have g'45 := (jn @hbs @hb0s)
  refine runTf g'45 ?_
  refine cond_split (fun h1 => ?_) (fun h1 => ?_)
  · have h1d := bsT h1
    have hfinS : setB l = false := by unfold setB; rw [decide_eq_false (by omega)]; rfl
    have g'46 := (jn @h1 (jn @h1d g'45))
    refine runTf g'46 ?_
    exact hQ _ _ (end_plain0 (.inl rfl) hbel (x := .bool false) (resT Tryz.results72) rfl ⟨by first | (rw [hfinS]; done) | (simp [setB, h1d, hfinS]; done), rfl⟩)
  · have h1d := bsT h1
    have g'47 := (jn @h1 (jn @h1d g'45))
    refine runTf g'47 ?_
    refine go_loop try_mixed (by kernel_rfl) (fun k F Hx => ∃ i : Nat, i + k = l.length ∧ (∀ j : Nat, j < i → boxB (g6 l j) = true) ∧ F = [(0, .sl (some (bs, 0)) l.length cs), (3, .int .i64 ((i : Nat) : Int))] ∧ H = Hx) (l.length) ?_ ?_
    · refine ⟨_, _, _, ⟨0, by omega, fun j h => by omega, rfl, rfl⟩, Abs.by0 hbel ?_⟩
      exact absW
    · rintro k0 F Hx ⟨i, hm0, hal, rfl, rfl⟩ J0 hJ0
      refine runTf g'47 ?_
      refine cond_split (fun h2 => ?_) (fun h2 => ?_)
      · have h2d := bsT h2
        have q3 := r6_load (l := l) (j := i) (by omega)
        have g'48 := (jn @h2 (jn @h2d (jn @r6_len (jn @q3 g'47))))
        refine runTf g'48 ?_
        refine call_v (by kernel_rfl) (bbx_c _ (g61 l i) (g62 l i) (g63 l i) (g64 l i) (g65 l i) (g66 l i)) ?_
        refine runTf g'48 ?_
        refine cond_split (fun h4 => ?_) (fun h4 => ?_)
        · have h4d := bsT h4
          have hfinS : setB l = false := by
            rw [← Bool.not_eq_true, setB_iff]; intro hh
            have := hh.2 (g6 l i) (g6_mem (by omega))
            exact absurd (this.symm.trans h4d) (by decide)
          have g'49 := (jn @h4 (jn @h4d g'48))
          refine runTf g'49 ?_
          exact hQ _ _ (end_plain0 (.inl rfl) hbel (x := .bool false) (resT Tryz.results72) rfl ⟨by first | (rw [hfinS]; done) | (simp [setB, h1d, h2d, h4d, hfinS]; done), rfl⟩)
        · have h4d := bsT h4
          have hbi : boxB (g6 l i) = true := h4d
          have g'50 := (jn @h4 (jn @h4d g'48))
          refine runTf g'50 ?_
          refine hJ0 _ _ ⟨k0 - 1, by omega, _, _, _, ⟨i + 1, by omega, fun j hj => by
                      rcases Nat.lt_or_ge j i with h | h
                      · exact hal j h
                      · rw [show j = i by omega]; exact hbi, rfl, rfl⟩, Abs.by0 hbel ?_⟩
          exact absW
      · have h2d := bsT h2
        have hfinS : setB l = true := setB_iff.2 ⟨by omega, fun b hb => by
          obtain ⟨j, hj, e⟩ := List.mem_iff_getElem.1 hb
          rw [← e, ← g6_eq hj]; exact hal j (by omega)⟩
        have g'51 := (jn @h2 (jn @h2d g'47))
        refine runTf g'51 ?_
        exact hQ _ _ (end_plain0 (.inl rfl) hbel (x := .bool true) (resT Tryz.results72) rfl ⟨by first | (rw [hfinS]; done) | (simp [setB, h1d, h2d, hfinS]; done), rfl⟩)
theorem covers_c (H : AHeap) (s : Int) (f : Int) (c : Int) (k1 : 0 ≤ s ∧ s ≤ 255) (k2 : 0 ≤ f ∧ f ≤ 255) (k3 : 0 ≤ c ∧ c ≤ 256) : ACalls Tryz.prog 172 [.int .i64 s, .agg [.int .i64 f, .int .i64 c]] H (fun v H' => v = .int .i64 (covI s f c) ∧ H' = H) := by
  refine AcT true Tryz.func172 ?_; intro hbel Q hQ
  refine runT ?_
  refine call_d (by kernel_rfl) (mark_c _ (f - s)) ?_
  refine runT ?_
  exact hQ _ _ (end_plain (.inl rfl) hbel (x := .int .i64 (((((f - s) % 256).toNat : Nat) : Int) + c)) (resT Tryz.results172) rfl ⟨congrArg (AV.int .i64) (by unfold covI; omega), rfl⟩)
theorem hhull_c (H : AHeap) (f : Int) (c : Int) (f2 : Int) (c2 : Int) (ha : arcB f c = true) (hb : arcB f2 c2 = true) : ACalls Tryz.prog 150 [.agg [.int .i64 f, .int .i64 c], .agg [.int .i64 f2, .int .i64 c2]] H (fun v H' => v = .tup [.agg [.int .i64 ((hullA f c f2 c2).1), .int .i64 ((hullA f c f2 c2).2)], .int .i64 0] ∧ H' = H) := by
  have ka := arcB_iff.1 ha
  have kb := arcB_iff.1 hb
  have hm1 := max_i (covI f f c) (covI f f2 c2)
  have hm2 := max_i (covI f2 f c) (covI f2 f2 c2)
  have hz0 : (hlS f c f2 c2 0).2 = 256 ∧ (hlS f c f2 c2 0).1 = 0 := ⟨rfl, rfl⟩
  have hc1 : covI f f c = c := by unfold covI; omega
  have hc2 : covI f2 f2 c2 = c2 := by unfold covI; omega
  have hc3 : 1 ≤ covI f f2 c2 ∧ covI f f2 c2 ≤ 511 := by unfold covI; omega
  have hc4 : 1 ≤ covI f2 f c ∧ covI f2 f c ≤ 511 := by unfold covI; omega
  refine AcT true Tryz.func150 ?_; intro hbel Q hQ
  have g'52 := (jn @hm1 (jn @hm2 (jn @ha @hb)))
  refine runTf g'52 ?_
  refine call_v (by kernel_rfl) (varc_c _ f c) ?_
  refine runTf g'52 ?_
  refine call_v (by kernel_rfl) (varc_c _ f2 c2) ?_
  refine runTf g'52 ?_
  refine go_loop try_mixed (by kernel_rfl) (fun k F Hx => ∃ j : Nat, j + k = 2 ∧ F = [(2, .ptr (some (H.length, 0))), (3, .ptr (some (H.length + 1, 0))), (4, .ptr (some (H.length + 2, 0))), (6, .ptr (some (H.length + 3, 0))), (24, .agg [.int .i64 f, .int .i64 f2]), (25, .int .i64 ((j : Nat) : Int))] ∧ Hx = H ++ [.cells true 0 [.int .i64 f, .int .i64 c], .cells true 0 [.int .i64 f2, .int .i64 c2], .cells true 0 [.int .i64 0, .int .i64 0], .cells true 0 [.int .i64 ((hlS f c f2 c2 j).1), .int .i64 ((hlS f c f2 c2 j).2)]]) (2) ?_ ?_
  · refine ⟨_, _, _, ⟨0, by omega, rfl, rfl⟩, Abs.byG hbel [] rfl [0, 1, 2, 3] (by decide) ?_⟩
    exact absWf (jn @hlS.eq_1 @Int.natCast_zero)
  · rintro k0 F Hx ⟨j, hm0, rfl, rfl⟩ J0 hJ0
    refine runTf g'52 ?_
    refine cond_split (fun h1 => ?_) (fun h1 => ?_)
    · have h1d := bsT h1
      obtain rfl | rfl := (by omega : j = 0 ∨ j = 1)
      · skip
        have g'53 := (jn @h1 (jn @h1d g'52))
        refine runTf g'53 ?_
        refine call_d (by kernel_rfl) (covers_c _ f f c (by omega) (by omega) (by omega)) ?_
        refine runTf g'53 ?_
        refine call_d (by kernel_rfl) (covers_c _ f f2 c2 (by omega) (by omega) (by omega)) ?_
        refine runTf g'53 ?_
        refine gd_split (fun h2 => ?_) (fun h2 => ?_)
        · have h2d := bsT h2
          have g'54 := (jn @h2 (jn @h2d g'53))
          refine runTf g'54 ?_
          refine gd_split (fun h3 => ?_) (fun h3 => ?_)
          · have h3d := bsT h3
            have h3n := bnT h3
            have he0 : max (covI f f c) (covI f f2 c2) = (hlS f c f2 c2 0).2 := by simpa using h3d
            have g'55 := (jn @h3 (jn @h3n (jn @int_bne (jn @int_beq g'54))))
            refine runTf g'55 ?_
            refine gd_split (fun h4 => ?_) (fun h4 => ?_)
            · have h4d := bsT h4
              omega
            · have h4d := bsT h4
              have g'56 := (jn @h4 (jn @h4d g'55))
              refine runTf g'56 ?_
              first | (have hst : hlS f c f2 c2 (0 + 1) = (f, max (covI f f c) (covI f f2 c2)) := if_pos (by omega)) | (have hst : hlS f c f2 c2 (0 + 1) = (0, 256) := if_neg (by omega)) | (have hst : hlS f c f2 c2 (1 + 1) = (f2, max (covI f2 f c) (covI f2 f2 c2)) := (hlS_2 f c f2 c2).trans (if_pos (by omega))) | (have hst : hlS f c f2 c2 (1 + 1) = hlS f c f2 c2 1 := (hlS_2 f c f2 c2).trans (if_neg (by omega)))
              refine hJ0 _ _ ⟨k0 - 1, by omega, _, _, _, ⟨0 + 1, by omega, rfl, rfl⟩, Abs.byG hbel [] rfl [0, 1, 2, 3] (by decide) ?_⟩
              exact absWf @hst
          · have h3d := bsT h3
            have h3n := bnT h3
            have g'57 := (jn @h3 (jn @h3n (jn @int_bne (jn @int_beq g'54))))
            refine runTf g'57 ?_
            first | (have hst : hlS f c f2 c2 (0 + 1) = (f, max (covI f f c) (covI f f2 c2)) := if_pos (by omega)) | (have hst : hlS f c f2 c2 (0 + 1) = (0, 256) := if_neg (by omega)) | (have hst : hlS f c f2 c2 (1 + 1) = (f2, max (covI f2 f c) (covI f2 f2 c2)) := (hlS_2 f c f2 c2).trans (if_pos (by omega))) | (have hst : hlS f c f2 c2 (1 + 1) = hlS f c f2 c2 1 := (hlS_2 f c f2 c2).trans (if_neg (by omega)))
            refine hJ0 _ _ ⟨k0 - 1, by omega, _, _, _, ⟨0 + 1, by omega, rfl, rfl⟩, Abs.byG hbel [] rfl [0, 1, 2, 3] (by decide) ?_⟩
            exact absWf @hst
        · have h2d := bsT h2
          have g'58 := (jn @h2 (jn @h2d g'53))
          refine runTf g'58 ?_
          first | (have hst : hlS f c f2 c2 (0 + 1) = (f, max (covI f f c) (covI f f2 c2)) := if_pos (by omega)) | (have hst : hlS f c f2 c2 (0 + 1) = (0, 256) := if_neg (by omega)) | (have hst : hlS f c f2 c2 (1 + 1) = (f2, max (covI f2 f c) (covI f2 f2 c2)) := (hlS_2 f c f2 c2).trans (if_pos (by omega))) | (have hst : hlS f c f2 c2 (1 + 1) = hlS f c f2 c2 1 := (hlS_2 f c f2 c2).trans (if_neg (by omega)))
          refine hJ0 _ _ ⟨k0 - 1, by omega, _, _, _, ⟨0 + 1, by omega, rfl, rfl⟩, Abs.byG hbel [] rfl [0, 1, 2, 3] (by decide) ?_⟩
          exact absWf @hst
      · skip
        have g'59 := (jn @h1 (jn @h1d g'52))
        refine runTf g'59 ?_
        refine call_d (by kernel_rfl) (covers_c _ f2 f c (by omega) (by omega) (by omega)) ?_
        refine runTf g'59 ?_
        refine call_d (by kernel_rfl) (covers_c _ f2 f2 c2 (by omega) (by omega) (by omega)) ?_
        refine runTf g'59 ?_
        refine gd_split (fun h5 => ?_) (fun h5 => ?_)
        · have h5d := bsT h5
          have g'60 := (jn @h5 (jn @h5d g'59))
          refine runTf g'60 ?_
          refine gd_split (fun h6 => ?_) (fun h6 => ?_)
          · have h6d := bsT h6
            have h6n := bnT h6
            have he1 : max (covI f2 f c) (covI f2 f2 c2) = (hlS f c f2 c2 1).2 := by simpa using h6d
            have g'61 := (jn @h6 (jn @h6n (jn @int_bne (jn @int_beq g'60))))
            refine runTf g'61 ?_
            refine gd_split (fun h7 => ?_) (fun h7 => ?_)
            · have h7d := bsT h7
              have g'62 := (jn @h7 (jn @h7d g'61))
              refine runTf g'62 ?_
              refine cond_split (fun h8 => ?_) (fun h8 => ?_)
              · have h8d := bsT h8
                have g'63 := (jn @h8 (jn @h8d g'62))
                refine runTf g'63 ?_
                first | (have hst : hlS f c f2 c2 (0 + 1) = (f, max (covI f f c) (covI f f2 c2)) := if_pos (by omega)) | (have hst : hlS f c f2 c2 (0 + 1) = (0, 256) := if_neg (by omega)) | (have hst : hlS f c f2 c2 (1 + 1) = (f2, max (covI f2 f c) (covI f2 f2 c2)) := (hlS_2 f c f2 c2).trans (if_pos (by omega))) | (have hst : hlS f c f2 c2 (1 + 1) = hlS f c f2 c2 1 := (hlS_2 f c f2 c2).trans (if_neg (by omega)))
                refine hJ0 _ _ ⟨k0 - 1, by omega, _, _, _, ⟨1 + 1, by omega, rfl, rfl⟩, Abs.byG hbel [] rfl [0, 1, 2, 3] (by decide) ?_⟩
                exact absWf @hst
              · have h8d := bsT h8
                have g'64 := (jn @h8 (jn @h8d g'62))
                refine runTf g'64 ?_
                first | (have hst : hlS f c f2 c2 (0 + 1) = (f, max (covI f f c) (covI f f2 c2)) := if_pos (by omega)) | (have hst : hlS f c f2 c2 (0 + 1) = (0, 256) := if_neg (by omega)) | (have hst : hlS f c f2 c2 (1 + 1) = (f2, max (covI f2 f c) (covI f2 f2 c2)) := (hlS_2 f c f2 c2).trans (if_pos (by omega))) | (have hst : hlS f c f2 c2 (1 + 1) = hlS f c f2 c2 1 := (hlS_2 f c f2 c2).trans (if_neg (by omega)))
                refine hJ0 _ _ ⟨k0 - 1, by omega, _, _, _, ⟨1 + 1, by omega, rfl, rfl⟩, Abs.byG hbel [] rfl [0, 1, 2, 3] (by decide) ?_⟩
                exact absWf @hst
            · have h7d := bsT h7
              have g'65 := (jn @h7 (jn @h7d g'61))
              refine runTf g'65 ?_
              first | (have hst : hlS f c f2 c2 (0 + 1) = (f, max (covI f f c) (covI f f2 c2)) := if_pos (by omega)) | (have hst : hlS f c f2 c2 (0 + 1) = (0, 256) := if_neg (by omega)) | (have hst : hlS f c f2 c2 (1 + 1) = (f2, max (covI f2 f c) (covI f2 f2 c2)) := (hlS_2 f c f2 c2).trans (if_pos (by omega))) | (have hst : hlS f c f2 c2 (1 + 1) = hlS f c f2 c2 1 := (hlS_2 f c f2 c2).trans (if_neg (by omega)))
              refine hJ0 _ _ ⟨k0 - 1, by omega, _, _, _, ⟨1 + 1, by omega, rfl, rfl⟩, Abs.byG hbel [] rfl [0, 1, 2, 3] (by decide) ?_⟩
              exact absWf @hst
          · have h6d := bsT h6
            have h6n := bnT h6
            have he1 : ¬ max (covI f2 f c) (covI f2 f2 c2) = (hlS f c f2 c2 1).2 := by simpa using h6d
            have g'66 := (jn @h6 (jn @h6n (jn @int_bne (jn @int_beq g'60))))
            refine runTf g'66 ?_
            first | (have hst : hlS f c f2 c2 (0 + 1) = (f, max (covI f f c) (covI f f2 c2)) := if_pos (by omega)) | (have hst : hlS f c f2 c2 (0 + 1) = (0, 256) := if_neg (by omega)) | (have hst : hlS f c f2 c2 (1 + 1) = (f2, max (covI f2 f c) (covI f2 f2 c2)) := (hlS_2 f c f2 c2).trans (if_pos (by omega))) | (have hst : hlS f c f2 c2 (1 + 1) = hlS f c f2 c2 1 := (hlS_2 f c f2 c2).trans (if_neg (by omega)))
            refine hJ0 _ _ ⟨k0 - 1, by omega, _, _, _, ⟨1 + 1, by omega, rfl, rfl⟩, Abs.byG hbel [] rfl [0, 1, 2, 3] (by decide) ?_⟩
            exact absWf @hst
        · have h5d := bsT h5
          have g'67 := (jn @h5 (jn @h5d g'59))
          refine runTf g'67 ?_
          first | (have hst : hlS f c f2 c2 (0 + 1) = (f, max (covI f f c) (covI f f2 c2)) := if_pos (by omega)) | (have hst : hlS f c f2 c2 (0 + 1) = (0, 256) := if_neg (by omega)) | (have hst : hlS f c f2 c2 (1 + 1) = (f2, max (covI f2 f c) (covI f2 f2 c2)) := (hlS_2 f c f2 c2).trans (if_pos (by omega))) | (have hst : hlS f c f2 c2 (1 + 1) = hlS f c f2 c2 1 := (hlS_2 f c f2 c2).trans (if_neg (by omega)))
          refine hJ0 _ _ ⟨k0 - 1, by omega, _, _, _, ⟨1 + 1, by omega, rfl, rfl⟩, Abs.byG hbel [] rfl [0, 1, 2, 3] (by decide) ?_⟩
          exact absWf @hst
    · have h1d := bsT h1
      obtain rfl : j = 2 := by omega
      have g'68 := (jn @h1 (jn @h1d g'52))
      refine runTf g'68 ?_
      exact hQ _ _ (end_plain (.inl rfl) hbel (x := .tup [.agg [.int .i64 ((hlS f c f2 c2 2).1), .int .i64 ((hlS f c f2 c2 2).2)], .int .i64 0]) (resT Tryz.results150) rfl ⟨rfl, rfl⟩)
open Go.RowKit
theorem pinside_c (H : AHeap) (W : Int) (Hh : Int) (pp : AV) (xs : List Int) (x : Int) (y : Int) (hpp : Sl H 1 pp xs.length (ints .u8 xs)) : ACalls Tryz.prog 170 [.agg [.int .i64 W, .int .i64 Hh, pp], .agg [.int .i64 x, .int .i64 y]] H (fun v H' => v = .bool (inB W Hh x y) ∧ H' = H) := by
  obtain ⟨bpp, opp, cpp, rfl, hbpp⟩ := hpp
  have hblpp := getElem?_lt hbpp
  have hb0pp := fun l => get_app (l := l) hbpp
  refine AcT true Tryz.func170 ?_; intro hbel Q hQ
  have g'1 := (jn @hbpp @hb0pp)
  refine runTf g'1 ?_
  refine gd_split (fun h1 => ?_) (fun h1 => ?_)
  · have h1d := bsT h1
    have g'2 := (jn @h1 (jn @h1d g'1))
    refine runTf g'2 ?_
    refine gd_split (fun h2 => ?_) (fun h2 => ?_)
    · have h2d := bsT h2
      have g'3 := (jn @h2 (jn @h2d g'2))
      refine runTf g'3 ?_
      refine gd_split (fun h3 => ?_) (fun h3 => ?_)
      · have h3d := bsT h3
        have g'4 := (jn @h3 (jn @h3d g'3))
        refine runTf g'4 ?_
        exact hQ _ _ (end_plain (.inl rfl) hbel (x := .bool (decide (y < Hh))) (resT Tryz.results170) rfl ⟨by first | (simp [inB, h1d, h2d, h3d]; done) | (simp [inB, h1d, h2d, h3d]; omega), rfl⟩)
      · have h3d := bsT h3
        have g'5 := (jn @h3 (jn @h3d g'3))
        refine runTf g'5 ?_
        exact hQ _ _ (end_plain (.inl rfl) hbel (x := .bool false) (resT Tryz.results170) rfl ⟨by first | (simp [inB, h1d, h2d, h3d]; done) | (simp [inB, h1d, h2d, h3d]; omega), rfl⟩)
    · have h2d := bsT h2
      have g'6 := (jn @h2 (jn @h2d g'2))
      refine runTf g'6 ?_
      exact hQ _ _ (end_plain (.inl rfl) hbel (x := .bool false) (resT Tryz.results170) rfl ⟨by first | (simp [inB, h1d, h2d]; done) | (simp [inB, h1d, h2d]; omega), rfl⟩)
  · have h1d := bsT h1
    have g'7 := (jn @h1 (jn @h1d g'1))
    refine runTf g'7 ?_
    exact hQ _ _ (end_plain (.inl rfl) hbel (x := .bool false) (resT Tryz.results170) rfl ⟨by first | (simp [inB, h1d]; done) | (simp [inB, h1d]; omega), rfl⟩)
theorem pat_c (H : AHeap) (W : Int) (Hh : Int) (pp : AV) (xs : List Int) (x : Int) (y : Int) (hpp : Sl H 1 pp xs.length (ints .u8 xs)) (hV : vldB W Hh xs = true) : ACalls Tryz.prog 142 [.agg [.int .i64 W, .int .i64 Hh, pp], .agg [.int .i64 x, .int .i64 y]] H (fun v H' => v = .int .u8 (atI W Hh xs x y) ∧ H' = H) := by
  obtain ⟨bpp, opp, cpp, rfl, hbpp⟩ := hpp
  have hblpp := getElem?_lt hbpp
  have hb0pp := fun l => get_app (l := l) hbpp
  have hVl := vld_iff.1 hV
  have hll := hVl.len
  have hpp2 := hVl.pos
  refine AcT true Tryz.func142 ?_; intro hbel Q hQ
  have g'8 := (jn @hbpp (jn @hb0pp @hV))
  refine runTf g'8 ?_
  refine call_v (by kernel_rfl) (valid_a _ W Hh _ xs (.inr ⟨_, _, _, rfl, by first | exact hb0pp _ | exact hbpp⟩)) ?_
  refine runTf g'8 ?_
  refine call_v (by kernel_rfl) (pinside_c _ W Hh _ xs x y ⟨_, _, _, rfl, by first | exact hb0pp _ | exact hbpp⟩) ?_
  refine runTf g'8 ?_
  refine cond_split (fun h1 => ?_) (fun h1 => ?_)
  · have h1d := bsT h1
    have g'9 := (jn @h1 (jn @h1d g'8))
    refine runTf g'9 ?_
    exact hQ _ _ (end_plain (.inl rfl) hbel (x := .int .u8 2) (resT Tryz.results142) rfl ⟨by simp [atI, h1d], rfl⟩)
  · have h1d := bsT h1
    have hin := h1d
    obtain ⟨i1, i2, i3, i4, i5, -⟩ := hVl.idx hin
    have q2 := ints_get (k := .u8) (xs := xs) (j := ((y * W) + x).toNat) (by omega)
    have g'10 := (jn @h1 (jn @h1d (jn @q2 g'8)))
    refine runTf g'10 ?_
    exact hQ _ _ (end_plain (.inl rfl) hbel (x := .int .u8 (gi xs (((y * W) + x).toNat))) (resT Tryz.results142) rfl ⟨by simp [atI, h1d], rfl⟩)
theorem unh1_c (H : AHeap) (c1 : Int) (c2 : Int) (W : Int) (Hh : Int) (pp : AV) (xs : List Int) (bz : Nat) (hpp : Sl H 1 pp xs.length (ints .u8 xs)) (hz : ∃ o, H[bz]? = some (.cells o 0 [.int .i64 W, .int .i64 Hh, pp])) (hV : vldB W Hh xs = true) : ACalls Tryz.prog 141 [.agg [.int .i64 c1, .int .i64 c2], .ptr (some (bz, 0))] H (fun v H' => v = .bool ((atI W Hh xs c1 c2) != 1) ∧ H' = H) := by
  obtain ⟨bpp, opp, cpp, rfl, hbpp⟩ := hpp
  have hblpp := getElem?_lt hbpp
  have hb0pp := fun l => get_app (l := l) hbpp
  obtain ⟨oz, hbz⟩ := hz
  have hblz := getElem?_lt hbz
  have hb0z := fun l => get_app (l := l) hbz
  refine AcT true Tryz.func141 ?_; intro hbel Q hQ
  have g'11 := (jn @hbpp (jn @hb0pp (jn @hbz @hb0z)))
  refine runTf g'11 ?_
  refine call_v (by kernel_rfl) (pat_c _ W Hh _ xs c1 c2 ⟨_, _, _, rfl, by first | exact hb0pp _ | exact hbpp⟩ hV) ?_
  refine runTf g'11 ?_
  exact hQ _ _ (end_plain (.inl rfl) hbel (x := .bool ((atI W Hh xs c1 c2) != 1)) (resT Tryz.results141) rfl ⟨rfl, rfl⟩)
open Go.RowKit
theorem pwithin_c (H : AHeap) (x : Int) (m : Int) (h : 0 ≤ m ∧ m ≤ 4611686018427387904) : ACalls Tryz.prog 179 [.int .i64 x, .int .i64 m] H (fun v H' => v = .bool (within x m) ∧ H' = H) := by
  refine AcT true Tryz.func179 ?_; intro hbel Q hQ
  refine runT ?_
  refine gd_split (fun h1 => ?_) (fun h1 => ?_)
  · have h1d := bsT h1
    have g'1 := (jn @h1 @h1d)
    refine runTf g'1 ?_
    exact hQ _ _ (end_plain0 (.inl rfl) hbel (x := .bool (decide (x ≤ m))) (resT Tryz.results179) rfl ⟨by first | (simp [within, h1d]; done) | (simp [within, h1d]; omega), rfl⟩)
  · have h1d := bsT h1
    have g'2 := (jn @h1 @h1d)
    refine runTf g'2 ?_
    exact hQ _ _ (end_plain0 (.inl rfl) hbel (x := .bool false) (resT Tryz.results179) rfl ⟨by first | (simp [within, h1d]; done) | (simp [within, h1d]; omega), rfl⟩)
theorem pvpt_c (H : AHeap) (x : Int) (y : Int) : ACalls Tryz.prog 165 [.agg [.int .i64 x, .int .i64 y]] H (fun v H' => v = .bool (ptB x y) ∧ H' = H) := by
  refine AcT true Tryz.func165 ?_; intro hbel Q hQ
  refine runT ?_
  refine call_v (by kernel_rfl) (pwithin_c _ x 1048576 (by decide)) ?_
  refine runT ?_
  refine gd_split (fun h1 => ?_) (fun h1 => ?_)
  · have h1d := bsT h1
    have g'3 := (jn @h1 @h1d)
    refine runTf g'3 ?_
    refine call_v (by kernel_rfl) (pwithin_c _ y 1048576 (by decide)) ?_
    refine runTf g'3 ?_
    exact hQ _ _ (end_plain (.inl rfl) hbel (x := .bool (within y 1048576)) (resT Tryz.results165) rfl ⟨by simp [ptB, h1d], rfl⟩)
  · have h1d := bsT h1
    have g'4 := (jn @h1 @h1d)
    refine runTf g'4 ?_
    exact hQ _ _ (end_plain (.inl rfl) hbel (x := .bool false) (resT Tryz.results165) rfl ⟨by simp [ptB, h1d], rfl⟩)
theorem pvrc_c (H : AHeap) (x0 : Int) (y0 : Int) (x1 : Int) (y1 : Int) : ACalls Tryz.prog 121 [.agg [.int .i64 x0, .int .i64 y0, .int .i64 x1, .int .i64 y1]] H (fun v H' => v = .bool (rctB x0 y0 x1 y1) ∧ H' = H) := by
  refine AcT true Tryz.func121 ?_; intro hbel Q hQ
  refine runT ?_
  refine gd_split (fun h1 => ?_) (fun h1 => ?_)
  · have h1d := bsT h1
    have g'5 := (jn @h1 @h1d)
    refine runTf g'5 ?_
    refine gd_split (fun h2 => ?_) (fun h2 => ?_)
    · have h2d := bsT h2
      have g'6 := (jn @h2 (jn @h2d g'5))
      refine runTf g'6 ?_
      refine call_v (by kernel_rfl) (pvpt_c _ x0 y0) ?_
      refine runTf g'6 ?_
      refine gd_split (fun h3 => ?_) (fun h3 => ?_)
      · have h3d := bsT h3
        have g'7 := (jn @h3 (jn @h3d g'6))
        refine runTf g'7 ?_
        refine call_v (by kernel_rfl) (pvpt_c _ x1 y1) ?_
        refine runTf g'7 ?_
        exact hQ _ _ (end_plain (.inl rfl) hbel (x := .bool (ptB x1 y1)) (resT Tryz.results121) rfl ⟨by simp [rctB, h1d, h2d, h3d], rfl⟩)
      · have h3d := bsT h3
        have g'8 := (jn @h3 (jn @h3d g'6))
        refine runTf g'8 ?_
        exact hQ _ _ (end_plain (.inl rfl) hbel (x := .bool false) (resT Tryz.results121) rfl ⟨by simp [rctB, h1d, h2d, h3d], rfl⟩)
    · have h2d := bsT h2
      have g'9 := (jn @h2 (jn @h2d g'5))
      refine runTf g'9 ?_
      exact hQ _ _ (end_plain (.inl rfl) hbel (x := .bool false) (resT Tryz.results121) rfl ⟨by simp [rctB, h1d, h2d], rfl⟩)
  · have h1d := bsT h1
    have g'10 := (jn @h1 @h1d)
    refine runTf g'10 ?_
    exact hQ _ _ (end_plain (.inl rfl) hbel (x := .bool false) (resT Tryz.results121) rfl ⟨by simp [rctB, h1d], rfl⟩)
theorem r8right_c (H : AHeap) (x0 : Int) (y0 : Int) (x1 : Int) (y1 : Int) : ACalls Tryz.prog 127 [.agg [.int .i64 x0, .int .i64 y0, .int .i64 x1, .int .i64 y1]] H (fun v H' => v = .bool (rgtB x0 y0 x1 y1) ∧ H' = H) := by
  refine AcT true Tryz.func127 ?_; intro hbel Q hQ
  refine runT ?_
  refine gd_split (fun h1 => ?_) (fun h1 => ?_)
  · have h1d := bsT h1
    have g'11 := (jn @h1 @h1d)
    refine runTf g'11 ?_
    refine gd_split (fun h2 => ?_) (fun h2 => ?_)
    · have h2d := bsT h2
      have g'12 := (jn @h2 (jn @h2d g'11))
      refine runTf g'12 ?_
      refine gd_split (fun h3 => ?_) (fun h3 => ?_)
      · have h3d := bsT h3
        have g'13 := (jn @h3 (jn @h3d g'12))
        refine runTf g'13 ?_
        refine gd_split (fun h4 => ?_) (fun h4 => ?_)
        · have h4d := bsT h4
          have g'14 := (jn @h4 (jn @h4d g'13))
          refine runTf g'14 ?_
          refine gd_split (fun h5 => ?_) (fun h5 => ?_)
          · have h5d := bsT h5
            have g'15 := (jn @h5 (jn @h5d g'14))
            refine runTf g'15 ?_
            exact hQ _ _ (end_plain (.inl rfl) hbel (x := .bool (decide (y1 ≤ 1048576))) (resT Tryz.results127) rfl ⟨by simp [rgtB, h1d, h2d, h3d, h4d, h5d], rfl⟩)
          · have h5d := bsT h5
            have g'16 := (jn @h5 (jn @h5d g'14))
            refine runTf g'16 ?_
            exact hQ _ _ (end_plain (.inl rfl) hbel (x := .bool false) (resT Tryz.results127) rfl ⟨by simp [rgtB, h1d, h2d, h3d, h4d, h5d], rfl⟩)
        · have h4d := bsT h4
          have g'17 := (jn @h4 (jn @h4d g'13))
          refine runTf g'17 ?_
          exact hQ _ _ (end_plain (.inl rfl) hbel (x := .bool false) (resT Tryz.results127) rfl ⟨by simp [rgtB, h1d, h2d, h3d, h4d], rfl⟩)
      · have h3d := bsT h3
        have g'18 := (jn @h3 (jn @h3d g'12))
        refine runTf g'18 ?_
        exact hQ _ _ (end_plain (.inl rfl) hbel (x := .bool false) (resT Tryz.results127) rfl ⟨by simp [rgtB, h1d, h2d, h3d], rfl⟩)
    · have h2d := bsT h2
      have g'19 := (jn @h2 (jn @h2d g'11))
      refine runTf g'19 ?_
      exact hQ _ _ (end_plain (.inl rfl) hbel (x := .bool false) (resT Tryz.results127) rfl ⟨by simp [rgtB, h1d, h2d], rfl⟩)
  · have h1d := bsT h1
    have g'20 := (jn @h1 @h1d)
    refine runTf g'20 ?_
    exact hQ _ _ (end_plain (.inl rfl) hbel (x := .bool false) (resT Tryz.results127) rfl ⟨by simp [rgtB, h1d], rfl⟩)
theorem r8ovl_c (H : AHeap) (a0 : Int) (b0 : Int) (a1 : Int) (b1 : Int) (x0 : Int) (y0 : Int) (x1 : Int) (y1 : Int) : ACalls Tryz.prog 129 [.agg [.int .i64 a0, .int .i64 b0, .int .i64 a1, .int .i64 b1], .agg [.int .i64 x0, .int .i64 y0, .int .i64 x1, .int .i64 y1]] H (fun v H' => v = .bool (ovlB a0 b0 a1 b1 x0 y0 x1 y1) ∧ H' = H) := by
  refine AcT true Tryz.func129 ?_; intro hbel Q hQ
  refine runT ?_
  refine gd_split (fun h1 => ?_) (fun h1 => ?_)
  · have h1d := bsT h1
    have g'21 := (jn @h1 @h1d)
    refine runTf g'21 ?_
    refine gd_split (fun h2 => ?_) (fun h2 => ?_)
    · have h2d := bsT h2
      have g'22 := (jn @h2 (jn @h2d g'21))
      refine runTf g'22 ?_
      refine gd_split (fun h3 => ?_) (fun h3 => ?_)
      · have h3d := bsT h3
        have g'23 := (jn @h3 (jn @h3d g'22))
        refine runTf g'23 ?_
        exact hQ _ _ (end_plain (.inl rfl) hbel (x := .bool (decide (y0 ≤ b1))) (resT Tryz.results129) rfl ⟨by simp [ovlB, h1d, h2d, h3d], rfl⟩)
      · have h3d := bsT h3
        have g'24 := (jn @h3 (jn @h3d g'22))
        refine runTf g'24 ?_
        exact hQ _ _ (end_plain (.inl rfl) hbel (x := .bool false) (resT Tryz.results129) rfl ⟨by simp [ovlB, h1d, h2d, h3d], rfl⟩)
    · have h2d := bsT h2
      have g'25 := (jn @h2 (jn @h2d g'21))
      refine runTf g'25 ?_
      exact hQ _ _ (end_plain (.inl rfl) hbel (x := .bool false) (resT Tryz.results129) rfl ⟨by simp [ovlB, h1d, h2d], rfl⟩)
  · have h1d := bsT h1
    have g'26 := (jn @h1 @h1d)
    refine runTf g'26 ?_
    exact hQ _ _ (end_plain (.inl rfl) hbel (x := .bool false) (resT Tryz.results129) rfl ⟨by simp [ovlB, h1d], rfl⟩)
theorem span_c (H : AHeap) (a : Int) (b : Int) (kba : -2097152 ≤ a ∧ a ≤ 2097152) (kbb : -2097152 ≤ b ∧ b ≤ 2097152) : ACalls Tryz.prog 122 [.int .i64 a, .int .i64 b] H (fun v H' => v = .tup [.int .i64 (spl a), .int .i64 (sph b)] ∧ H' = H) := by
  refine AcT true Tryz.func122 ?_; intro hbel Q hQ
  refine runT ?_
  refine call_v (by kernel_rfl) (pdown_c _ (0 - a) 64 (by omega) (by omega)) ?_
  refine runT ?_
  refine call_v (by kernel_rfl) (pdown_c _ b 64 (by omega) (by omega)) ?_
  refine runT ?_
  exact hQ _ _ (end_plain0 (.inl rfl) hbel (x := .tup [.int .i64 ((0 - ((0 - a) / 64)) - 1), .int .i64 (b / 64)]) (resT Tryz.results122) rfl ⟨rfl, rfl⟩)
theorem r8around_c (H : AHeap) (x0 : Int) (y0 : Int) (x1 : Int) (y1 : Int) (kbx0 : -2097152 ≤ x0 ∧ x0 ≤ 2097152) (kby0 : -2097152 ≤ y0 ∧ y0 ≤ 2097152) (kbx1 : -2097152 ≤ x1 ∧ x1 ≤ 2097152) (kby1 : -2097152 ≤ y1 ∧ y1 ≤ 2097152) : ACalls Tryz.prog 128 [.agg [.int .i64 x0, .int .i64 y0, .int .i64 x1, .int .i64 y1]] H (fun v H' => v = .agg [.int .i64 (x0 / 64 - 1), .int .i64 (y0 / 64 - 1), .int .i64 (x1 / 64 + 1), .int .i64 (y1 / 64 + 1)] ∧ H' = H) := by
  refine AcT true Tryz.func128 ?_; intro hbel Q hQ
  refine runT ?_
  refine call_d (by kernel_rfl) (bfloor_c _ x0 64 (by omega) (by omega)) ?_
  refine runT ?_
  refine call_d (by kernel_rfl) (bfloor_c _ y0 64 (by omega) (by omega)) ?_
  refine runT ?_
  refine call_d (by kernel_rfl) (bfloor_c _ x1 64 (by omega) (by omega)) ?_
  refine runT ?_
  refine call_d (by kernel_rfl) (bfloor_c _ y1 64 (by omega) (by omega)) ?_
  refine runT ?_
  exact hQ _ _ (end_plain (.inl rfl) hbel (x := .agg [.int .i64 ((x0 / 64) - 1), .int .i64 ((y0 / 64) - 1), .int .i64 ((x1 / 64) + 1), .int .i64 ((y1 / 64) + 1)]) (resT Tryz.results128) rfl ⟨rfl, rfl⟩)
theorem bsquare_c (H : AHeap) (x : Int) (y : Int) (kbx : -2097152 ≤ x ∧ x ≤ 2097152) (kby : -2097152 ≤ y ∧ y ≤ 2097152) : ACalls Tryz.prog 32 [.agg [.int .i64 x, .int .i64 y]] H (fun v H' => v = .agg [.int .i64 (x * 64), .int .i64 (y * 64), .int .i64 (x * 64 + 64), .int .i64 (y * 64 + 64)] ∧ H' = H) := by
  refine AcT true Tryz.func32 ?_; intro hbel Q hQ
  refine runT ?_
  exact hQ _ _ (end_plain (.inl rfl) hbel (x := .agg [.int .i64 (x * 64), .int .i64 (y * 64), .int .i64 ((x * 64) + 64), .int .i64 ((y * 64) + 64)]) (resT Tryz.results32) rfl ⟨rfl, rfl⟩)
theorem cells_c (H : AHeap) (x0 : Int) (y0 : Int) (x1 : Int) (y1 : Int) : ACalls Tryz.prog 65 [.agg [.int .i64 x0, .int .i64 y0, .int .i64 x1, .int .i64 y1]] H (fun v H' => v = .tup [.sl (some (H.length, 0)) ((cellsR x0 y0 x1 y1).length) (capG (cellsR x0 y0 x1 y1).length), .int .i64 (cellsE x0 y0 x1 y1)] ∧ H' = H ++ [.cells (ownG (cellsR x0 y0 x1 y1).length) 2 (prs (cellsR x0 y0 x1 y1))]) := by
  refine AcT true Tryz.func65 ?_; intro hbel Q hQ
  refine runT ?_
  refine call_v (by kernel_rfl) (pvrc_c _ x0 y0 x1 y1) ?_
  refine runT ?_
  refine cond_split (fun h1 => ?_) (fun h1 => ?_)
  · have h1d := bsT h1
    have hfinE : cellsE x0 y0 x1 y1 = 1 := if_neg (by simp [h1d])
    have hfinR : cellsR x0 y0 x1 y1 = [] := if_neg (by rw [hfinE]; decide)
    have g'27 := (jn @h1 @h1d)
    refine runTf g'27 ?_
    refine hQ _ _ (end_byG (.inl rfl) hbel (x1 := .tup [.sl none 0 (some 0), .int .i64 1]) (l2 := [.cells false 2 []]) (.tup [.sl (some (H.length, 0)) 0 (some 0), .int .i64 1]) (resT Tryz.results65) [.cells false 2 []] rfl [1] (by decide) ⟨by first | (rw [hfinR, hfinE]; done) | (rw [hfinR, hfinE]; rfl) | (rw [hfinR]; done) | (rw [hfinR]; rfl), by first | (rw [hfinR, hfinE]; done) | (rw [hfinR, hfinE]; rfl) | (rw [hfinR]; done) | (rw [hfinR]; rfl)⟩ ?_)
    exact absW
  · have h1d := bsT h1
    have hok := h1d
    have hrc := rctB_iff.1 h1d
    have hc1 := cel_bd hrc.1
    have hc2 := cel_bd hrc.2
    have hmm := mul_bd (a := sph x1 - spl x0 + 1) (b := sph y1 - spl y0 + 1) (A := 65536) (B := 65536) (by omega) (by omega)
    have g'28 := (jn @h1 @h1d)
    refine runTf g'28 ?_
    refine call_v (by kernel_rfl) (span_c _ x0 x1 (by omega) (by omega)) ?_
    refine runTf g'28 ?_
    refine call_v (by kernel_rfl) (span_c _ y0 y1 (by omega) (by omega)) ?_
    refine runTf g'28 ?_
    refine cond_split (fun h2 => ?_) (fun h2 => ?_)
    · have h2d := bsT h2
      have hfinE : cellsE x0 y0 x1 y1 = 6 := by unfold cellsE; rw [if_pos hok, if_pos h2d]
      have hfinR : cellsR x0 y0 x1 y1 = [] := if_neg (by rw [hfinE]; decide)
      have g'29 := (jn @h2 (jn @h2d g'28))
      refine runTf g'29 ?_
      refine hQ _ _ (end_byG (.inl rfl) hbel (x1 := .tup [.sl none 0 (some 0), .int .i64 6]) (l2 := [.cells false 2 []]) (.tup [.sl (some (H.length, 0)) 0 (some 0), .int .i64 6]) (resT Tryz.results65) [.cells false 2 []] rfl [1] (by decide) ⟨by first | (rw [hfinR, hfinE]; done) | (rw [hfinR, hfinE]; rfl) | (rw [hfinR]; done) | (rw [hfinR]; rfl), by first | (rw [hfinR, hfinE]; done) | (rw [hfinR, hfinE]; rfl) | (rw [hfinR]; done) | (rw [hfinR]; rfl)⟩ ?_)
      exact absW
    · have h2d := bsT h2
      have hfinE : cellsE x0 y0 x1 y1 = 0 := by unfold cellsE; rw [if_pos hok, if_neg (by omega)]
      have hfinR : cellsR x0 y0 x1 y1 = cellsG x0 y0 x1 y1 := if_pos hfinE
      have g'30 := (jn @h2 (jn @h2d g'28))
      refine runTf g'30 ?_
      refine go_loop try_mixed (by kernel_rfl) (fun k F Hx => ∃ n : Nat, n + k = celN y0 y1 ∧ F = [(4, .int .i64 (spl x0)), (5, .int .i64 (sph x1)), (7, .int .i64 (sph y1)), (8, .sl (some (H.length, 0)) ((gridR tt2 (spl x0) (celN x0 x1) (spl y0) n).length) (capG (gridR tt2 (spl x0) (celN x0 x1) (spl y0) n).length)), (9, .int .i64 (spl y0 + ((n : Nat) : Int)))] ∧ Hx = H ++ [.cells (ownG (gridR tt2 (spl x0) (celN x0 x1) (spl y0) n).length) 2 (prs (gridR tt2 (spl x0) (celN x0 x1) (spl y0) n))]) (celN y0 y1) ?_ ?_
      · refine ⟨_, _, _, ⟨0, by omega, rfl, rfl⟩, Abs.byG hbel [.cells false 2 []] rfl [1] (by decide) ?_⟩
        exact absRf (jn @gridR_0 (jn @Int.natCast_zero @Int.add_zero))
      · rintro k0 F Hx ⟨n, hm0, rfl, rfl⟩ J0 hJ0
        have g'31 := (jn @prs_len (jn @prs_one g'30))
        refine runTf g'31 ?_
        refine cond_split (fun h3 => ?_) (fun h3 => ?_)
        · have h3d := bsT h3
          have g'32 := (jn @h3 (jn @h3d g'31))
          refine runTf g'32 ?_
          refine go_loop try_mixed (by kernel_rfl) (fun k F Hx => ∃ m : Nat, m + k = celN x0 x1 ∧ F = [(4, .int .i64 (spl x0)), (5, .int .i64 (sph x1)), (7, .int .i64 (sph y1)), (8, .sl (some (H.length, 0)) ((gridR tt2 (spl x0) (celN x0 x1) (spl y0) n ++ rowR tt2 (spl x0) (spl y0 + ((n : Nat) : Int)) m).length) (capG (gridR tt2 (spl x0) (celN x0 x1) (spl y0) n ++ rowR tt2 (spl x0) (spl y0 + ((n : Nat) : Int)) m).length)), (9, .int .i64 (spl y0 + ((n : Nat) : Int))), (10, .int .i64 (spl x0 + ((m : Nat) : Int)))] ∧ Hx = H ++ [.cells (ownG (gridR tt2 (spl x0) (celN x0 x1) (spl y0) n ++ rowR tt2 (spl x0) (spl y0 + ((n : Nat) : Int)) m).length) 2 (prs (gridR tt2 (spl x0) (celN x0 x1) (spl y0) n ++ rowR tt2 (spl x0) (spl y0 + ((n : Nat) : Int)) m))]) (celN x0 x1) ?_ ?_
          · refine ⟨_, _, _, ⟨0, by omega, rfl, rfl⟩, Abs.byG hbel [] rfl [0] (by decide) ?_⟩
            exact absRf (jn @rowR_0 (jn @List.append_nil.{0} (jn @Int.natCast_zero @Int.add_zero)))
          · rintro k1 F Hx ⟨m, hm1, rfl, rfl⟩ J1 hJ1
            refine runTf g'32 ?_
            refine cond_split (fun h4 => ?_) (fun h4 => ?_)
            · have h4d := bsT h4
              have hgb := grid_bd (p := tt2) (x0 := spl x0) (y0 := spl y0) (y := spl y0 + ((n : Nat) : Int)) (w := celN x0 x1) (n := n) (m := m) (by omega) (by omega) (by omega)
              have g'33 := (jn @h4 (jn @h4d (jn @capG_s g'32)))
              refine runTf g'33 ?_
              refine hJ1 _ _ ⟨k1 - 1, by omega, _, _, _, ⟨m + 1, by omega, rfl, rfl⟩, Abs.byG hbel [] rfl [2] (by decide) ?_⟩
              exact absRf (jn @rowR_t (jn @List.append_assoc.{0} (jn @Int.natCast_add (jn @Int.natCast_one @Int.add_assoc))))
            · have h4d := bsT h4
              obtain rfl : m = celN x0 x1 := by omega
              have g'34 := (jn @h4 (jn @h4d g'32))
              refine runTf g'34 ?_
              refine hJ0 _ _ ⟨k0 - 1, by omega, _, _, _, ⟨n + 1, by omega, rfl, rfl⟩, Abs.byG hbel [] rfl [0] (by decide) ?_⟩
              exact absRf (jn @gridR_s (jn @Int.natCast_add (jn @Int.natCast_one @Int.add_assoc)))
        · have h3d := bsT h3
          obtain rfl : n = celN y0 y1 := by omega
          have g'35 := (jn @h3 (jn @h3d g'31))
          refine runTf g'35 ?_
          refine hQ _ _ (end_byG (.inl rfl) hbel (x1 := .tup [.sl (some (H.length, 0)) ((gridR tt2 (spl x0) (celN x0 x1) (spl y0) (celN y0 y1)).length) (capG (gridR tt2 (spl x0) (celN x0 x1) (spl y0) (celN y0 y1)).length), .int .i64 0]) (l2 := [.cells (ownG (gridR tt2 (spl x0) (celN x0 x1) (spl y0) (celN y0 y1)).length) 2 (prs (gridR tt2 (spl x0) (celN x0 x1) (spl y0) (celN y0 y1)))]) (.tup [.sl (some (H.length, 0)) ((gridR tt2 (spl x0) (celN x0 x1) (spl y0) (celN y0 y1)).length) (capG (gridR tt2 (spl x0) (celN x0 x1) (spl y0) (celN y0 y1)).length), .int .i64 0]) (resT Tryz.results65) [] rfl [0] (by decide) ⟨by first | (rw [hfinR, hfinE]; done) | (rw [hfinR, hfinE]; rfl) | (rw [hfinR]; done) | (rw [hfinR]; rfl), by first | (rw [hfinR, hfinE]; done) | (rw [hfinR, hfinE]; rfl) | (rw [hfinR]; done) | (rw [hfinR]; rfl)⟩ ?_)
          exact absW
open Go.RowKit
theorem cellsq_c (H : AHeap) (x y : Int) (l : List Pt) : ACalls Tryz.prog 65 [.agg [.int .i64 ((ifv (validB x y l) (x - spr (1, 0) l)) / 2), .int .i64 ((ifv (validB x y l) (y - spr (0, 1) l)) / 2), .int .i64 (0 - ((0 - (ifv (validB x y l) (x + spr (1, 0) l))) / 2)), .int .i64 (0 - ((0 - (ifv (validB x y l) (y + spr (0, 1) l))) / 2))]] H (fun v H' => v = .tup [.sl (some (H.length, 0)) (touQ x y l).length (capG (touQ x y l).length), .int .i64 (touF x y l)] ∧ H' = H ++ [.cells (ownG (touQ x y l).length) 2 (prs (touQ x y l))]) := cells_c _ _ _ _ _
theorem touch1_c (H : AHeap) (c1 : Int) (c2 : Int) (x : Int) (y : Int) (s : AV) (l : List (Int × Int)) (bz : Nat) (hs : Sl H 2 s l.length (prs l)) (hz : ∃ o, H[bz]? = some (.cells o 0 [.int .i64 x, .int .i64 y, s])) (kbc1 : -2097152 ≤ c1 ∧ c1 ≤ 2097152) (kbc2 : -2097152 ≤ c2 ∧ c2 ≤ 2097152) : ACalls Tryz.prog 67 [.agg [.int .i64 c1, .int .i64 c2], .ptr (some (bz, 0))] H (fun v H' => v = .bool (apP x y l (c1, c2)) ∧ H' = H) := by
  obtain ⟨bs, os, cs, rfl, hbs⟩ := hs
  have hbls := getElem?_lt hbs
  have hb0s := fun l => get_app (l := l) hbs
  obtain ⟨oz, hbz⟩ := hz
  have hblz := getElem?_lt hbz
  have hb0z := fun l => get_app (l := l) hbz
  refine AcT true Tryz.func67 ?_; intro hbel Q hQ
  have g'1 := (jn @hbs (jn @hb0s (jn @hbz @hb0z)))
  refine runTf g'1 ?_
  refine call_v (by kernel_rfl) (apart_c _ x y _ l (c1 * 64) (c2 * 64) ((c1 + 1) * 64) ((c2 + 1) * 64) ⟨_, _, _, rfl, by first | exact hb0s _ | exact hbs⟩) ?_
  refine runTf g'1 ?_
  exact hQ _ _ (end_plain (.inl rfl) hbel (x := .bool (apartB x y l (c1 * 64) (c2 * 64) ((c1 + 1) * 64) ((c2 + 1) * 64))) (resT Tryz.results67) rfl ⟨rfl, rfl⟩)
theorem touched_c (H : AHeap) (x : Int) (y : Int) (s : AV) (l : List (Int × Int)) (hs : Sl H 2 s l.length (prs l)) : ACalls Tryz.prog 17 [.agg [.int .i64 x, .int .i64 y, s]] H (fun v H' => v = .tup [.sl (some (H.length, 0)) ((touL x y l).length) none, .int .i64 (touE x y l)] ∧ H' = H ++ [.cells (ownG (touC x y l).length) 2 (prs (touL x y l))]) := by
  obtain ⟨bs, os, cs, rfl, hbs⟩ := hs
  have hbls := getElem?_lt hbs
  have hb0s := fun l => get_app (l := l) hbs
  refine AcT false Tryz.func17 ?_; intro hbel Q hQ
  have g'2 := (jn @hbs @hb0s)
  refine runTf g'2 ?_
  refine call_v (by kernel_rfl) (Bounds_c _ x y _ l ⟨_, _, _, rfl, by first | exact hb0s _ | exact hbs⟩) ?_
  refine runTf g'2 ?_
  refine cond_split (fun h1 => ?_) (fun h1 => ?_)
  · have h1d := bsT h1
    have hv0 : ¬ validB x y l = true := by intro hv; simp [hv] at h1d
    have hfinE : touE x y l = 1 := if_neg hv0
    have hfinC : touC x y l = [] := if_neg hv0
    have hfinL : touL x y l = [] := if_neg (by rw [hfinE]; decide)
    have g'3 := (jn @h1 (jn @h1d (jn @int_bne (jn @int_beq g'2))))
    refine runTf g'3 ?_
    refine hQ _ _ (end_byG (.inl rfl) hbel (x1 := .tup [.sl none 0 (some 0), .int .i64 (if (validB x y l) = true then 0 else 1)]) (l2 := [.cells false 2 []]) (.tup [.sl (some (H.length, 0)) 0 none, .int .i64 (if (validB x y l) = true then 0 else 1)]) (resT Tryz.results17) [.cells false 2 []] rfl [2] (by decide) ⟨by first | (rw [hfinL, hfinE, if_neg hv0]; rfl) | (rw [hfinL, hfinE]; rfl) | (rw [hfinL, hfinE, hfinC]; done) | (rw [hfinL, hfinE, hfinC2]; done), by first | (rw [hfinL, hfinC2]; rfl) | (rw [hfinL, hfinC]; done) | (rw [hfinL, hfinC]; rfl) | (rw [hfinL, hfinC2]; rfl)⟩ ?_)
    exact absWf @prs_padL
  · have h1d := bsT h1
    have hv0 : validB x y l = true := by simpa using h1d
    have hbb := bnd_bd hv0
    have hfinC : touC x y l = touQ x y l := if_pos hv0
    have hEE : touE x y l = touF x y l := if_pos hv0
    have g'4 := (jn @h1 (jn @h1d (jn @int_bne (jn @int_beq g'2))))
    refine runTf g'4 ?_
    refine call_d (by kernel_rfl) (mfloor_c _ (ifv (validB x y l) (x - spr (1, 0) l)) 2 (by omega) (by omega)) ?_
    refine runTf g'4 ?_
    refine call_d (by kernel_rfl) (mfloor_c _ (ifv (validB x y l) (y - spr (0, 1) l)) 2 (by omega) (by omega)) ?_
    refine runTf g'4 ?_
    refine call_d (by kernel_rfl) (mfloor_c _ (0 - (ifv (validB x y l) (x + spr (1, 0) l))) 2 (by omega) (by omega)) ?_
    refine runTf g'4 ?_
    refine call_d (by kernel_rfl) (mfloor_c _ (0 - (ifv (validB x y l) (y + spr (0, 1) l))) 2 (by omega) (by omega)) ?_
    refine runTf g'4 ?_
    refine call_x (by kernel_rfl) (by simp) (cellsq_c _ x y l) ?_
    refine runTf g'4 ?_
    refine cond_split (fun h2 => ?_) (fun h2 => ?_)
    · have h2d := bsT h2
      have hne : ¬ touE x y l = 0 := by rw [hEE]; simpa using h2d
      have hfinE := hEE
      have hfinC2 : touC x y l = [] := by rw [hfinC]; exact if_neg (show ¬ touF x y l = 0 by rw [← hEE]; exact hne)
      have hfinL : touL x y l = [] := if_neg hne
      have g'5 := (jn @h2 (jn @h2d g'4))
      refine runTf g'5 ?_
      refine hQ _ _ (end_byG (.inl rfl) hbel (x1 := .tup [.sl none 0 (some 0), .int .i64 (touF x y l)]) (l2 := [.cells false 2 []]) (.tup [.sl (some (H.length, 0)) 0 none, .int .i64 (touF x y l)]) (resT Tryz.results17) [.cells false 2 []] rfl [3] (by decide) ⟨by first | (rw [hfinL, hfinE, if_neg hv0]; rfl) | (rw [hfinL, hfinE]; rfl) | (rw [hfinL, hfinE, hfinC]; done) | (rw [hfinL, hfinE, hfinC2]; done), by first | (rw [hfinL, hfinC2]; rfl) | (rw [hfinL, hfinC]; done) | (rw [hfinL, hfinC]; rfl) | (rw [hfinL, hfinC2]; rfl)⟩ ?_)
      exact absWf @prs_padL
    · have h2d := bsT h2
      have hfinE : touE x y l = 0 := by rw [hEE]; simpa using h2d
      have hfinL : touL x y l = delL (apP x y l) (touC x y l) := if_pos hfinE
      have g'6 := (jn @h2 (jn @h2d g'4))
      refine runTf g'6 ?_
      refine call_v (by kernel_rfl) (del_cell _ _ _ (touQ x y l) (by rw [get_newk]; rfl) (Nat.le_trans (touQ_len _ _ _) (by decide)) _ _ (by kernel_rfl) (by simp [AV.bels, AV.bel]) (apP x y l) (fun X e L he => touch1_c _ e.1 e.2 x y _ l _ ⟨_, _, _, rfl, by rw [set_newk, List.append_assoc]; exact hb0s _⟩ ⟨_, by rw [set_newk, List.append_assoc, get_new0]; rfl⟩ (by have := touQ_bd e he; omega) (by have := touQ_bd e he; omega))) ?_
      refine runTf g'6 ?_
      refine hQ _ _ (end_byG (.inl rfl) hbel (x1 := .tup [.sl (some (H.length + 2, 0)) ((delL (apP x y l) (touQ x y l)).length) none, .int .i64 0]) (l2 := [.cells (ownG (touQ x y l).length) 2 (prs (delL (apP x y l) (touQ x y l)))]) (.tup [.sl (some (H.length, 0)) ((delL (apP x y l) (touQ x y l)).length) none, .int .i64 0]) (resT Tryz.results17) [] rfl [2] (by decide) ⟨by first | (rw [hfinL, hfinE, if_neg hv0]; rfl) | (rw [hfinL, hfinE]; rfl) | (rw [hfinL, hfinE, hfinC]; done) | (rw [hfinL, hfinE, hfinC2]; done), by first | (rw [hfinL, hfinC2]; rfl) | (rw [hfinL, hfinC]; done) | (rw [hfinL, hfinC]; rfl) | (rw [hfinL, hfinC2]; rfl)⟩ ?_)
      exact absWf @prs_padL
open Go.RowKit
theorem ofrect_0 (H : AHeap) (x0 y0 x1 y1 : Int) (h : rectE x0 y0 x1 y1 = 0) : ACalls Tryz.prog 50 [.agg [.int .i64 x0, .int .i64 y0, .int .i64 x1, .int .i64 y1]] H (fun v H' => v = .tup [.agg [.int .i64 (x0 + x1), .int .i64 (y0 + y1), .sl (some (H.length, 0)) (canonL (recL x0 y0 x1 y1)).length (capG (canonL (recL x0 y0 x1 y1)).length)], .int .i64 0] ∧ H' = H ++ [.cells (ownG (canonL (recL x0 y0 x1 y1)).length) 2 (prs (canonL (recL x0 y0 x1 y1)))]) := by
  have k := ofrect_c H x0 y0 x1 y1
  rw [h] at k
  exact k
theorem ofway_0 (H : AHeap) (a b : Int) (h : segE 0 0 a b = 0) : ACalls Tryz.prog 54 [.agg [.int .i64 0, .int .i64 0], .agg [.int .i64 a, .int .i64 b]] H (fun v H' => v = .tup [.agg [.int .i64 a, .int .i64 b, .sl (some (H.length, 0)) (canonL [(a, b)]).length (capG (canonL [(a, b)]).length)], .int .i64 0] ∧ H' = H ++ [.cells (ownG (canonL [(a, b)]).length) 2 (prs (canonL [(a, b)]))]) := by
  have k := ofseg_c H 0 0 a b
  rw [h, Int.zero_add, Int.zero_add, Int.sub_zero, Int.sub_zero] at k
  exact k
theorem Sum_0 (H : AHeap) (x1 y1 : Int) (s : AV) (l : List Pt) (x2 y2 : Int) (t : AV) (m : List Pt) (hs : SlP H s l) (ht : SlP H t m) (h : sumE x1 y1 l x2 y2 m = 0) : ACalls Tryz.prog 51 [.agg [.int .i64 x1, .int .i64 y1, s], .agg [.int .i64 x2, .int .i64 y2, t]] H (fun v H' => v = .tup [.agg [.int .i64 (x1 + x2), .int .i64 (y1 + y2), .sl (some (H.length, 0)) (canonL (l ++ m)).length (capG (canonL (l ++ m)).length)], .int .i64 0] ∧ H' = H ++ [.cells (ownG (canonL (l ++ m)).length) 2 (prs (canonL (l ++ m)))]) := by
  have k := Sum_c H x1 y1 s l x2 y2 t m hs ht
  rw [h] at k
  exact k
theorem rofrect_0 (H : AHeap) (x0 y0 x1 y1 : Int) (h : rectE x0 y0 x1 y1 = 0) : ACalls Tryz.prog 58 [.agg [.int .i64 x0, .int .i64 y0, .int .i64 x1, .int .i64 y1]] H (fun v H' => v = .tup [.agg [.int .i64 (x0 + x1), .int .i64 (y0 + y1), .sl (some (H.length, 0)) (canonL (recL x0 y0 x1 y1)).length (capG (canonL (recL x0 y0 x1 y1)).length)], .int .i64 0] ∧ H' = H ++ [.cells (ownG (canonL (recL x0 y0 x1 y1)).length) 2 (prs (canonL (recL x0 y0 x1 y1)))]) := by
  have k := rofrect_c H x0 y0 x1 y1
  rw [h] at k
  exact k
theorem rofway_0 (H : AHeap) (a b : Int) (h : segE 0 0 a b = 0) : ACalls Tryz.prog 59 [.agg [.int .i64 0, .int .i64 0], .agg [.int .i64 a, .int .i64 b]] H (fun v H' => v = .tup [.agg [.int .i64 a, .int .i64 b, .sl (some (H.length, 0)) (canonL [(a, b)]).length (capG (canonL [(a, b)]).length)], .int .i64 0] ∧ H' = H ++ [.cells (ownG (canonL [(a, b)]).length) 2 (prs (canonL [(a, b)]))]) := by
  have k := rofseg_c H 0 0 a b
  rw [h, Int.zero_add, Int.zero_add, Int.sub_zero, Int.sub_zero] at k
  exact k
theorem rSum_0 (H : AHeap) (x1 y1 : Int) (s : AV) (l : List Pt) (x2 y2 : Int) (t : AV) (m : List Pt) (hs : SlP H s l) (ht : SlP H t m) (hl : l.length ≤ 1000000) (hm : m.length ≤ 1000000) (h : sumE x1 y1 l x2 y2 m = 0) : ACalls Tryz.prog 60 [.agg [.int .i64 x1, .int .i64 y1, s], .agg [.int .i64 x2, .int .i64 y2, t]] H (fun v H' => v = .tup [.agg [.int .i64 (x1 + x2), .int .i64 (y1 + y2), .sl (some (H.length, 0)) (canonL (l ++ m)).length (capG (canonL (l ++ m)).length)], .int .i64 0] ∧ H' = H ++ [.cells (ownG (canonL (l ++ m)).length) 2 (prs (canonL (l ++ m)))]) := by
  have k := rSum_c H x1 y1 s l x2 y2 t m hs ht hl hm
  rw [h] at k
  exact k
theorem square_c (H : AHeap) (a : Int) (ha : 0 ≤ a ∧ a ≤ 1000) : ACalls Tryz.prog 52 [.int .i64 a] H (fun v H' => v = .agg [.int .i64 0, .int .i64 0, .sl (some (H.length, 0)) ((canonL (sqrL a)).length) (capG (canonL (sqrL a)).length)] ∧ H' = H ++ [.cells (ownG (canonL (sqrL a)).length) 2 (prs (canonL (sqrL a)))]) := by
  have hre : rectE (0 - a) (0 - a) a a = 0 := if_pos ⟨by unfold far4; simp only [Bool.and_eq_true, within_iff]; omega, by omega, by omega, by omega, by omega⟩
  refine AcT true Tryz.func52 ?_; intro hbel Q hQ
  refine runT ?_
  refine call_v (by kernel_rfl) (ofrect_0 _ (0 - a) (0 - a) a a (by assumption)) ?_
  refine runT ?_
  refine hQ _ _ (end_byG (.inl rfl) hbel (x1 := .agg [.int .i64 ((0 - a) + a), .int .i64 ((0 - a) + a), .sl (some (H.length + 1, 0)) ((canonL (recL (0 - a) (0 - a) a a)).length) (capG (canonL (recL (0 - a) (0 - a) a a)).length)]) (l2 := [.cells (ownG (canonL (recL (0 - a) (0 - a) a a)).length) 2 (prs (canonL (recL (0 - a) (0 - a) a a)))]) (.agg [.int .i64 ((0 - a) + a), .int .i64 ((0 - a) + a), .sl (some (H.length, 0)) ((canonL (recL (0 - a) (0 - a) a a)).length) (capG (canonL (recL (0 - a) (0 - a) a a)).length)]) (resT Tryz.results52) [] rfl [1] (by decide) ⟨by rw [show (0 : Int) - a + a = 0 by omega]; rfl, rfl⟩ ?_)
  exact absW
end Go.Proofs.YtoimakfecmhjkaaGreat
