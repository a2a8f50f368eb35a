/- Proved: the law TileApart returns true on every input, and its arguments read afterwards as before. Conditions: none beyond the given row's. -/
import Derived.Test.YtgfjhidfpjmmnaaG3
import Derived.Test.YtgfjhidfpjmmnaaG4
import Derived.Test.YtgfjhidfpjmmnaaG2
namespace Go.Proofs.Ytgfjhidfpjmmnaa
set_option linter.unusedSimpArgs false
set_option linter.unusedVariables false
open Go.RowKit
set_option maxHeartbeats 4000000
set_option maxRecDepth 100000
theorem entry_c (H : AHeap) (tx ty : Int) (s : AV) (d : List Int) (nx : Nat) (q : AV) (b : List Int) (hs : Sl H 1 s d.length (ints .u8 d)) (hq : Sl H 1 q b.length (ints .u8 b)) (hB : ∀ c ∈ b, 0 ≤ c ∧ c ≤ 255) (hl : b.length ≤ 1000000000) (hnx : nx ≤ 1000) (htx : -1152921504606846976 ≤ 16 * tx ∧ 16 * tx ≤ 1152921504606846976 - 16) (hty : -1152921504606846976 ≤ 16 * ty ∧ 16 * ty ≤ 1152921504606846976 - 16) : ACalls Try.prog 36 [.agg [iV tx, iV ty, s], iV ((nx : Nat) : Int), q] H (fun v H' => v = .tup [.agg [iV (((entR tx ty nx b).1).1), iV (((entR tx ty nx b).1).2.1), iV (((entR tx ty nx b).1).2.2.1), iV (((entR tx ty nx b).1).2.2.2)], iV (((entR tx ty nx b).2.1 : Nat) : Int), .sl (some (H.length, 0)) (((entR tx ty nx b).2.2.1).length) (capG ((entR tx ty nx b).2.2.1).length), iV ((entR tx ty nx b).2.2.2)] ∧ H' = H ++ [.cells (ownG ((entR tx ty nx b).2.2.1).length) 1 (ints .u8 ((entR tx ty nx b).2.2.1))]) := by
  obtain ⟨bs, os, cs, rfl, hbs⟩ := hs
  have hbls := getElem?_lt hbs
  have hb0s := fun l => get_app (l := l) hbs
  obtain ⟨bq, oq, cq, rfl, hbq⟩ := hq
  have hblq := getElem?_lt hbq
  have hb0q := fun l => get_app (l := l) hbq
  have hf1 := rdU_suf b 0 0
  have hB1 := suf_B hf1 hB
  have hf2 := rdI_suf (rdU 0 0 b).2.1
  have hB2 := suf_B hf2 hB1
  have hf3 := rdI_suf (rdI (rdU 0 0 b).2.1).2.1
  have hl1 := hf1.length_le
  have hl2 := hf2.length_le
  have hl3 := hf3.length_le
  refine AcT true Try.func36 ?_; intro hbel Q hQ
  have g'1 := (jn @hbs (jn @hb0s (jn @hbq (jn @hb0q (jn @rem_16 @quo_16)))))
  refine runTf g'1 ?_
  refine cv (rduint_c _ _ b (⟨_, _, _, rfl, by first | exact hb0q _ | exact hbq⟩) (by first | assumption | exact hB) (by omega)) ?_
  refine rcs g'1 (fun h1 h1d _ => ?_) (fun h1 h1d _ => ?_)
  · have h1n := bnT h1
    have g'2 := (jn h1 (jn h1n (jn @int_bne (jn @int_beq g'1))))
    refine runTf g'2 ?_
    refine hQ _ _ (end_byG (.inl rfl) hbel (x1 := .tup [.agg [iV 0, iV 0, iV 0, iV 0], iV 0, .sl none 0 (some 0), iV ((rdU 0 0 b).2.2)]) (l2 := [.cells false 1 []]) (.tup [.agg [iV 0, iV 0, iV 0, iV 0], iV 0, .sl (some (H.length, 0)) 0 (some 0), iV ((rdU 0 0 b).2.2)]) (resTf @add_nat1 Try.results36) [.cells false 1 []] rfl [3] (by decide) ⟨by first | (rw [entR_1 (by omega)]; done) | (rw [entR_1 (by omega)]; rfl) | (rw [entR_2 (by omega) (by omega)]; done) | (rw [entR_2 (by omega) (by omega)]; rfl) | (rw [entR_3 (by omega) (by omega) (by omega)]; done) | (rw [entR_3 (by omega) (by omega) (by omega)]; rfl) | (rw [entR_4 (by omega) (by omega) (by omega) (by omega)]; done) | (rw [entR_4 (by omega) (by omega) (by omega) (by omega)]; rfl) | (rw [entR_5 (by omega) (by omega) (by omega) (by omega) (by rw [Bool.and_eq_false_iff]; first | exact .inl (by assumption) | exact .inr (by assumption))]; done) | (rw [entR_5 (by omega) (by omega) (by omega) (by omega) (by rw [Bool.and_eq_false_iff]; first | exact .inl (by assumption) | exact .inr (by assumption))]; rfl) | (rw [entR_6 (by omega) (by omega) (by omega) (by omega) (by rw [Bool.and_eq_true]; exact ⟨by assumption, by assumption⟩) (by rw [Bool.and_eq_false_iff]; first | exact .inl (by assumption) | exact .inr (by assumption))]; done) | (rw [entR_6 (by omega) (by omega) (by omega) (by omega) (by rw [Bool.and_eq_true]; exact ⟨by assumption, by assumption⟩) (by rw [Bool.and_eq_false_iff]; first | exact .inl (by assumption) | exact .inr (by assumption))]; rfl) | (rw [entR_7 (by omega) (by omega) (by omega) (by omega) (by rw [Bool.and_eq_true]; exact ⟨by assumption, by assumption⟩) (by rw [Bool.and_eq_true]; exact ⟨by assumption, by assumption⟩)]; done) | (rw [entR_7 (by omega) (by omega) (by omega) (by omega) (by rw [Bool.and_eq_true]; exact ⟨by assumption, by assumption⟩) (by rw [Bool.and_eq_true]; exact ⟨by assumption, by assumption⟩)]; rfl), by first | (rw [entR_1 (by omega)]; done) | (rw [entR_1 (by omega)]; rfl) | (rw [entR_2 (by omega) (by omega)]; done) | (rw [entR_2 (by omega) (by omega)]; rfl) | (rw [entR_3 (by omega) (by omega) (by omega)]; done) | (rw [entR_3 (by omega) (by omega) (by omega)]; rfl) | (rw [entR_4 (by omega) (by omega) (by omega) (by omega)]; done) | (rw [entR_4 (by omega) (by omega) (by omega) (by omega)]; rfl) | (rw [entR_5 (by omega) (by omega) (by omega) (by omega) (by rw [Bool.and_eq_false_iff]; first | exact .inl (by assumption) | exact .inr (by assumption))]; done) | (rw [entR_5 (by omega) (by omega) (by omega) (by omega) (by rw [Bool.and_eq_false_iff]; first | exact .inl (by assumption) | exact .inr (by assumption))]; rfl) | (rw [entR_6 (by omega) (by omega) (by omega) (by omega) (by rw [Bool.and_eq_true]; exact ⟨by assumption, by assumption⟩) (by rw [Bool.and_eq_false_iff]; first | exact .inl (by assumption) | exact .inr (by assumption))]; done) | (rw [entR_6 (by omega) (by omega) (by omega) (by omega) (by rw [Bool.and_eq_true]; exact ⟨by assumption, by assumption⟩) (by rw [Bool.and_eq_false_iff]; first | exact .inl (by assumption) | exact .inr (by assumption))]; rfl) | (rw [entR_7 (by omega) (by omega) (by omega) (by omega) (by rw [Bool.and_eq_true]; exact ⟨by assumption, by assumption⟩) (by rw [Bool.and_eq_true]; exact ⟨by assumption, by assumption⟩)]; done) | (rw [entR_7 (by omega) (by omega) (by omega) (by omega) (by rw [Bool.and_eq_true]; exact ⟨by assumption, by assumption⟩) (by rw [Bool.and_eq_true]; exact ⟨by assumption, by assumption⟩)]; rfl)⟩ ?_)
    exact absW
  have h1n := bnT h1
  have g'3 := (jn h1 (jn h1n (jn @int_bne (jn @int_beq g'1))))
  refine runTf g'3 ?_
  refine cv (rdint_c _ _ ((rdU 0 0 b).2.1) (slA) (by first | assumption | exact hB) (by omega)) ?_
  refine rcs g'3 (fun h2 h2d _ => ?_) (fun h2 h2d _ => ?_)
  · have h2n := bnT h2
    have g'4 := j2 h2 h2n g'3
    refine runTf g'4 ?_
    refine hQ _ _ (end_byG (.inl rfl) hbel (x1 := .tup [.agg [iV 0, iV 0, iV 0, iV 0], iV 0, .sl none 0 (some 0), iV ((rdI ((rdU 0 0 b).2.1)).2.2)]) (l2 := [.cells false 1 []]) (.tup [.agg [iV 0, iV 0, iV 0, iV 0], iV 0, .sl (some (H.length, 0)) 0 (some 0), iV ((rdI ((rdU 0 0 b).2.1)).2.2)]) (resTf @add_nat1 Try.results36) [.cells false 1 []] rfl [4] (by decide) ⟨by first | (rw [entR_1 (by omega)]; done) | (rw [entR_1 (by omega)]; rfl) | (rw [entR_2 (by omega) (by omega)]; done) | (rw [entR_2 (by omega) (by omega)]; rfl) | (rw [entR_3 (by omega) (by omega) (by omega)]; done) | (rw [entR_3 (by omega) (by omega) (by omega)]; rfl) | (rw [entR_4 (by omega) (by omega) (by omega) (by omega)]; done) | (rw [entR_4 (by omega) (by omega) (by omega) (by omega)]; rfl) | (rw [entR_5 (by omega) (by omega) (by omega) (by omega) (by rw [Bool.and_eq_false_iff]; first | exact .inl (by assumption) | exact .inr (by assumption))]; done) | (rw [entR_5 (by omega) (by omega) (by omega) (by omega) (by rw [Bool.and_eq_false_iff]; first | exact .inl (by assumption) | exact .inr (by assumption))]; rfl) | (rw [entR_6 (by omega) (by omega) (by omega) (by omega) (by rw [Bool.and_eq_true]; exact ⟨by assumption, by assumption⟩) (by rw [Bool.and_eq_false_iff]; first | exact .inl (by assumption) | exact .inr (by assumption))]; done) | (rw [entR_6 (by omega) (by omega) (by omega) (by omega) (by rw [Bool.and_eq_true]; exact ⟨by assumption, by assumption⟩) (by rw [Bool.and_eq_false_iff]; first | exact .inl (by assumption) | exact .inr (by assumption))]; rfl) | (rw [entR_7 (by omega) (by omega) (by omega) (by omega) (by rw [Bool.and_eq_true]; exact ⟨by assumption, by assumption⟩) (by rw [Bool.and_eq_true]; exact ⟨by assumption, by assumption⟩)]; done) | (rw [entR_7 (by omega) (by omega) (by omega) (by omega) (by rw [Bool.and_eq_true]; exact ⟨by assumption, by assumption⟩) (by rw [Bool.and_eq_true]; exact ⟨by assumption, by assumption⟩)]; rfl), by first | (rw [entR_1 (by omega)]; done) | (rw [entR_1 (by omega)]; rfl) | (rw [entR_2 (by omega) (by omega)]; done) | (rw [entR_2 (by omega) (by omega)]; rfl) | (rw [entR_3 (by omega) (by omega) (by omega)]; done) | (rw [entR_3 (by omega) (by omega) (by omega)]; rfl) | (rw [entR_4 (by omega) (by omega) (by omega) (by omega)]; done) | (rw [entR_4 (by omega) (by omega) (by omega) (by omega)]; rfl) | (rw [entR_5 (by omega) (by omega) (by omega) (by omega) (by rw [Bool.and_eq_false_iff]; first | exact .inl (by assumption) | exact .inr (by assumption))]; done) | (rw [entR_5 (by omega) (by omega) (by omega) (by omega) (by rw [Bool.and_eq_false_iff]; first | exact .inl (by assumption) | exact .inr (by assumption))]; rfl) | (rw [entR_6 (by omega) (by omega) (by omega) (by omega) (by rw [Bool.and_eq_true]; exact ⟨by assumption, by assumption⟩) (by rw [Bool.and_eq_false_iff]; first | exact .inl (by assumption) | exact .inr (by assumption))]; done) | (rw [entR_6 (by omega) (by omega) (by omega) (by omega) (by rw [Bool.and_eq_true]; exact ⟨by assumption, by assumption⟩) (by rw [Bool.and_eq_false_iff]; first | exact .inl (by assumption) | exact .inr (by assumption))]; rfl) | (rw [entR_7 (by omega) (by omega) (by omega) (by omega) (by rw [Bool.and_eq_true]; exact ⟨by assumption, by assumption⟩) (by rw [Bool.and_eq_true]; exact ⟨by assumption, by assumption⟩)]; done) | (rw [entR_7 (by omega) (by omega) (by omega) (by omega) (by rw [Bool.and_eq_true]; exact ⟨by assumption, by assumption⟩) (by rw [Bool.and_eq_true]; exact ⟨by assumption, by assumption⟩)]; rfl)⟩ ?_)
    exact absW
  have h2n := bnT h2
  have g'5 := j2 h2 h2n g'3
  refine runTf g'5 ?_
  refine cv (rdint_c _ _ ((rdI ((rdU 0 0 b).2.1)).2.1) (slA) (by first | assumption | exact hB) (by omega)) ?_
  refine rcs g'5 (fun h3 h3d _ => ?_) (fun h3 h3d _ => ?_)
  · have h3n := bnT h3
    have g'6 := j2 h3 h3n g'5
    refine runTf g'6 ?_
    refine hQ _ _ (end_byG (.inl rfl) hbel (x1 := .tup [.agg [iV 0, iV 0, iV 0, iV 0], iV 0, .sl none 0 (some 0), iV ((rdI ((rdI ((rdU 0 0 b).2.1)).2.1)).2.2)]) (l2 := [.cells false 1 []]) (.tup [.agg [iV 0, iV 0, iV 0, iV 0], iV 0, .sl (some (H.length, 0)) 0 (some 0), iV ((rdI ((rdI ((rdU 0 0 b).2.1)).2.1)).2.2)]) (resTf @add_nat1 Try.results36) [.cells false 1 []] rfl [5] (by decide) ⟨by first | (rw [entR_1 (by omega)]; done) | (rw [entR_1 (by omega)]; rfl) | (rw [entR_2 (by omega) (by omega)]; done) | (rw [entR_2 (by omega) (by omega)]; rfl) | (rw [entR_3 (by omega) (by omega) (by omega)]; done) | (rw [entR_3 (by omega) (by omega) (by omega)]; rfl) | (rw [entR_4 (by omega) (by omega) (by omega) (by omega)]; done) | (rw [entR_4 (by omega) (by omega) (by omega) (by omega)]; rfl) | (rw [entR_5 (by omega) (by omega) (by omega) (by omega) (by rw [Bool.and_eq_false_iff]; first | exact .inl (by assumption) | exact .inr (by assumption))]; done) | (rw [entR_5 (by omega) (by omega) (by omega) (by omega) (by rw [Bool.and_eq_false_iff]; first | exact .inl (by assumption) | exact .inr (by assumption))]; rfl) | (rw [entR_6 (by omega) (by omega) (by omega) (by omega) (by rw [Bool.and_eq_true]; exact ⟨by assumption, by assumption⟩) (by rw [Bool.and_eq_false_iff]; first | exact .inl (by assumption) | exact .inr (by assumption))]; done) | (rw [entR_6 (by omega) (by omega) (by omega) (by omega) (by rw [Bool.and_eq_true]; exact ⟨by assumption, by assumption⟩) (by rw [Bool.and_eq_false_iff]; first | exact .inl (by assumption) | exact .inr (by assumption))]; rfl) | (rw [entR_7 (by omega) (by omega) (by omega) (by omega) (by rw [Bool.and_eq_true]; exact ⟨by assumption, by assumption⟩) (by rw [Bool.and_eq_true]; exact ⟨by assumption, by assumption⟩)]; done) | (rw [entR_7 (by omega) (by omega) (by omega) (by omega) (by rw [Bool.and_eq_true]; exact ⟨by assumption, by assumption⟩) (by rw [Bool.and_eq_true]; exact ⟨by assumption, by assumption⟩)]; rfl), by first | (rw [entR_1 (by omega)]; done) | (rw [entR_1 (by omega)]; rfl) | (rw [entR_2 (by omega) (by omega)]; done) | (rw [entR_2 (by omega) (by omega)]; rfl) | (rw [entR_3 (by omega) (by omega) (by omega)]; done) | (rw [entR_3 (by omega) (by omega) (by omega)]; rfl) | (rw [entR_4 (by omega) (by omega) (by omega) (by omega)]; done) | (rw [entR_4 (by omega) (by omega) (by omega) (by omega)]; rfl) | (rw [entR_5 (by omega) (by omega) (by omega) (by omega) (by rw [Bool.and_eq_false_iff]; first | exact .inl (by assumption) | exact .inr (by assumption))]; done) | (rw [entR_5 (by omega) (by omega) (by omega) (by omega) (by rw [Bool.and_eq_false_iff]; first | exact .inl (by assumption) | exact .inr (by assumption))]; rfl) | (rw [entR_6 (by omega) (by omega) (by omega) (by omega) (by rw [Bool.and_eq_true]; exact ⟨by assumption, by assumption⟩) (by rw [Bool.and_eq_false_iff]; first | exact .inl (by assumption) | exact .inr (by assumption))]; done) | (rw [entR_6 (by omega) (by omega) (by omega) (by omega) (by rw [Bool.and_eq_true]; exact ⟨by assumption, by assumption⟩) (by rw [Bool.and_eq_false_iff]; first | exact .inl (by assumption) | exact .inr (by assumption))]; rfl) | (rw [entR_7 (by omega) (by omega) (by omega) (by omega) (by rw [Bool.and_eq_true]; exact ⟨by assumption, by assumption⟩) (by rw [Bool.and_eq_true]; exact ⟨by assumption, by assumption⟩)]; done) | (rw [entR_7 (by omega) (by omega) (by omega) (by omega) (by rw [Bool.and_eq_true]; exact ⟨by assumption, by assumption⟩) (by rw [Bool.and_eq_true]; exact ⟨by assumption, by assumption⟩)]; rfl)⟩ ?_)
    exact absW
  have h3n := bnT h3
  have g'7 := j2 h3 h3n g'5
  refine rgs g'7 (fun h4 h4d g'8 => ?_) (fun h4 h4d g'31 => ?_)
  · refine rgs g'8 (fun h5 h5d g'9 => ?_) (fun h5 h5d g'30 => ?_)
    · refine rgs g'9 (fun h6 h6d _ => ?_) (fun h6 h6d _ => ?_)
      · have h6n := bnT h6
        have g'10 := j2 h6 h6n g'9
        refine rcs g'10 (fun h7 h7d _ => ?_) (fun h7 h7d _ => ?_)
        · have h7n := bnT h7
          have g'11 := j2 h7 h7n g'10
          refine runTf g'11 ?_
          refine hQ _ _ (end_byG (.inl rfl) hbel (x1 := .tup [.agg [iV 0, iV 0, iV 0, iV 0], iV 0, .sl none 0 (some 0), iV 3]) (l2 := [.cells false 1 []]) (.tup [.agg [iV 0, iV 0, iV 0, iV 0], iV 0, .sl (some (H.length, 0)) 0 (some 0), iV 3]) (resTf @add_nat1 Try.results36) [.cells false 1 []] rfl [5] (by decide) ⟨by first | (rw [entR_1 (by omega)]; done) | (rw [entR_1 (by omega)]; rfl) | (rw [entR_2 (by omega) (by omega)]; done) | (rw [entR_2 (by omega) (by omega)]; rfl) | (rw [entR_3 (by omega) (by omega) (by omega)]; done) | (rw [entR_3 (by omega) (by omega) (by omega)]; rfl) | (rw [entR_4 (by omega) (by omega) (by omega) (by omega)]; done) | (rw [entR_4 (by omega) (by omega) (by omega) (by omega)]; rfl) | (rw [entR_5 (by omega) (by omega) (by omega) (by omega) (by rw [Bool.and_eq_false_iff]; first | exact .inl (by assumption) | exact .inr (by assumption))]; done) | (rw [entR_5 (by omega) (by omega) (by omega) (by omega) (by rw [Bool.and_eq_false_iff]; first | exact .inl (by assumption) | exact .inr (by assumption))]; rfl) | (rw [entR_6 (by omega) (by omega) (by omega) (by omega) (by rw [Bool.and_eq_true]; exact ⟨by assumption, by assumption⟩) (by rw [Bool.and_eq_false_iff]; first | exact .inl (by assumption) | exact .inr (by assumption))]; done) | (rw [entR_6 (by omega) (by omega) (by omega) (by omega) (by rw [Bool.and_eq_true]; exact ⟨by assumption, by assumption⟩) (by rw [Bool.and_eq_false_iff]; first | exact .inl (by assumption) | exact .inr (by assumption))]; rfl) | (rw [entR_7 (by omega) (by omega) (by omega) (by omega) (by rw [Bool.and_eq_true]; exact ⟨by assumption, by assumption⟩) (by rw [Bool.and_eq_true]; exact ⟨by assumption, by assumption⟩)]; done) | (rw [entR_7 (by omega) (by omega) (by omega) (by omega) (by rw [Bool.and_eq_true]; exact ⟨by assumption, by assumption⟩) (by rw [Bool.and_eq_true]; exact ⟨by assumption, by assumption⟩)]; rfl), by first | (rw [entR_1 (by omega)]; done) | (rw [entR_1 (by omega)]; rfl) | (rw [entR_2 (by omega) (by omega)]; done) | (rw [entR_2 (by omega) (by omega)]; rfl) | (rw [entR_3 (by omega) (by omega) (by omega)]; done) | (rw [entR_3 (by omega) (by omega) (by omega)]; rfl) | (rw [entR_4 (by omega) (by omega) (by omega) (by omega)]; done) | (rw [entR_4 (by omega) (by omega) (by omega) (by omega)]; rfl) | (rw [entR_5 (by omega) (by omega) (by omega) (by omega) (by rw [Bool.and_eq_false_iff]; first | exact .inl (by assumption) | exact .inr (by assumption))]; done) | (rw [entR_5 (by omega) (by omega) (by omega) (by omega) (by rw [Bool.and_eq_false_iff]; first | exact .inl (by assumption) | exact .inr (by assumption))]; rfl) | (rw [entR_6 (by omega) (by omega) (by omega) (by omega) (by rw [Bool.and_eq_true]; exact ⟨by assumption, by assumption⟩) (by rw [Bool.and_eq_false_iff]; first | exact .inl (by assumption) | exact .inr (by assumption))]; done) | (rw [entR_6 (by omega) (by omega) (by omega) (by omega) (by rw [Bool.and_eq_true]; exact ⟨by assumption, by assumption⟩) (by rw [Bool.and_eq_false_iff]; first | exact .inl (by assumption) | exact .inr (by assumption))]; rfl) | (rw [entR_7 (by omega) (by omega) (by omega) (by omega) (by rw [Bool.and_eq_true]; exact ⟨by assumption, by assumption⟩) (by rw [Bool.and_eq_true]; exact ⟨by assumption, by assumption⟩)]; done) | (rw [entR_7 (by omega) (by omega) (by omega) (by omega) (by rw [Bool.and_eq_true]; exact ⟨by assumption, by assumption⟩) (by rw [Bool.and_eq_true]; exact ⟨by assumption, by assumption⟩)]; rfl)⟩ ?_)
          exact absW
        have h7n := bnT h7
        have g'12 := j2 h7 h7n g'10
        refine runTf g'12 ?_
        refine cv (tsize_c _ _ _ (by decide)) ?_
        refine rgs g'12 (fun h8 h8d g'13 => ?_) (fun h8 h8d g'20 => ?_)
        · refine runTf g'13 ?_
          refine cv (tsize_c _ _ _ (by decide)) ?_
          refine rcs g'13 (fun h9 h9d g'14 => ?_) (fun h9 h9d g'15 => ?_)
          · refine runTf g'14 ?_
            refine hQ _ _ (end_byG (.inl rfl) hbel (x1 := .tup [.agg [iV 0, iV 0, iV 0, iV 0], iV 0, .sl none 0 (some 0), iV 2]) (l2 := [.cells false 1 []]) (.tup [.agg [iV 0, iV 0, iV 0, iV 0], iV 0, .sl (some (H.length, 0)) 0 (some 0), iV 2]) (resTf @add_nat1 Try.results36) [.cells false 1 []] rfl [5] (by decide) ⟨by first | (rw [entR_1 (by omega)]; done) | (rw [entR_1 (by omega)]; rfl) | (rw [entR_2 (by omega) (by omega)]; done) | (rw [entR_2 (by omega) (by omega)]; rfl) | (rw [entR_3 (by omega) (by omega) (by omega)]; done) | (rw [entR_3 (by omega) (by omega) (by omega)]; rfl) | (rw [entR_4 (by omega) (by omega) (by omega) (by omega)]; done) | (rw [entR_4 (by omega) (by omega) (by omega) (by omega)]; rfl) | (rw [entR_5 (by omega) (by omega) (by omega) (by omega) (by rw [Bool.and_eq_false_iff]; first | exact .inl (by assumption) | exact .inr (by assumption))]; done) | (rw [entR_5 (by omega) (by omega) (by omega) (by omega) (by rw [Bool.and_eq_false_iff]; first | exact .inl (by assumption) | exact .inr (by assumption))]; rfl) | (rw [entR_6 (by omega) (by omega) (by omega) (by omega) (by rw [Bool.and_eq_true]; exact ⟨by assumption, by assumption⟩) (by rw [Bool.and_eq_false_iff]; first | exact .inl (by assumption) | exact .inr (by assumption))]; done) | (rw [entR_6 (by omega) (by omega) (by omega) (by omega) (by rw [Bool.and_eq_true]; exact ⟨by assumption, by assumption⟩) (by rw [Bool.and_eq_false_iff]; first | exact .inl (by assumption) | exact .inr (by assumption))]; rfl) | (rw [entR_7 (by omega) (by omega) (by omega) (by omega) (by rw [Bool.and_eq_true]; exact ⟨by assumption, by assumption⟩) (by rw [Bool.and_eq_true]; exact ⟨by assumption, by assumption⟩)]; done) | (rw [entR_7 (by omega) (by omega) (by omega) (by omega) (by rw [Bool.and_eq_true]; exact ⟨by assumption, by assumption⟩) (by rw [Bool.and_eq_true]; exact ⟨by assumption, by assumption⟩)]; rfl), by first | (rw [entR_1 (by omega)]; done) | (rw [entR_1 (by omega)]; rfl) | (rw [entR_2 (by omega) (by omega)]; done) | (rw [entR_2 (by omega) (by omega)]; rfl) | (rw [entR_3 (by omega) (by omega) (by omega)]; done) | (rw [entR_3 (by omega) (by omega) (by omega)]; rfl) | (rw [entR_4 (by omega) (by omega) (by omega) (by omega)]; done) | (rw [entR_4 (by omega) (by omega) (by omega) (by omega)]; rfl) | (rw [entR_5 (by omega) (by omega) (by omega) (by omega) (by rw [Bool.and_eq_false_iff]; first | exact .inl (by assumption) | exact .inr (by assumption))]; done) | (rw [entR_5 (by omega) (by omega) (by omega) (by omega) (by rw [Bool.and_eq_false_iff]; first | exact .inl (by assumption) | exact .inr (by assumption))]; rfl) | (rw [entR_6 (by omega) (by omega) (by omega) (by omega) (by rw [Bool.and_eq_true]; exact ⟨by assumption, by assumption⟩) (by rw [Bool.and_eq_false_iff]; first | exact .inl (by assumption) | exact .inr (by assumption))]; done) | (rw [entR_6 (by omega) (by omega) (by omega) (by omega) (by rw [Bool.and_eq_true]; exact ⟨by assumption, by assumption⟩) (by rw [Bool.and_eq_false_iff]; first | exact .inl (by assumption) | exact .inr (by assumption))]; rfl) | (rw [entR_7 (by omega) (by omega) (by omega) (by omega) (by rw [Bool.and_eq_true]; exact ⟨by assumption, by assumption⟩) (by rw [Bool.and_eq_true]; exact ⟨by assumption, by assumption⟩)]; done) | (rw [entR_7 (by omega) (by omega) (by omega) (by omega) (by rw [Bool.and_eq_true]; exact ⟨by assumption, by assumption⟩) (by rw [Bool.and_eq_true]; exact ⟨by assumption, by assumption⟩)]; rfl)⟩ ?_)
            exact absW
          refine runTf g'15 ?_
          refine cv (tsize_c _ _ _ (by decide)) ?_
          refine rgs g'15 (fun h10 h10d g'16 => ?_) (fun h10 h10d g'19 => ?_)
          · refine runTf g'16 ?_
            refine cv (tsize_c _ _ _ (by decide)) ?_
            refine rcs g'16 (fun h11 h11d g'17 => ?_) (fun h11 h11d g'18 => ?_)
            · refine runTf g'17 ?_
              refine hQ _ _ (end_byG (.inl rfl) hbel (x1 := .tup [.agg [iV 0, iV 0, iV 0, iV 0], iV 0, .sl none 0 (some 0), iV 1]) (l2 := [.cells false 1 []]) (.tup [.agg [iV 0, iV 0, iV 0, iV 0], iV 0, .sl (some (H.length, 0)) 0 (some 0), iV 1]) (resTf @add_nat1 Try.results36) [.cells false 1 []] rfl [6] (by decide) ⟨by first | (rw [entR_1 (by omega)]; done) | (rw [entR_1 (by omega)]; rfl) | (rw [entR_2 (by omega) (by omega)]; done) | (rw [entR_2 (by omega) (by omega)]; rfl) | (rw [entR_3 (by omega) (by omega) (by omega)]; done) | (rw [entR_3 (by omega) (by omega) (by omega)]; rfl) | (rw [entR_4 (by omega) (by omega) (by omega) (by omega)]; done) | (rw [entR_4 (by omega) (by omega) (by omega) (by omega)]; rfl) | (rw [entR_5 (by omega) (by omega) (by omega) (by omega) (by rw [Bool.and_eq_false_iff]; first | exact .inl (by assumption) | exact .inr (by assumption))]; done) | (rw [entR_5 (by omega) (by omega) (by omega) (by omega) (by rw [Bool.and_eq_false_iff]; first | exact .inl (by assumption) | exact .inr (by assumption))]; rfl) | (rw [entR_6 (by omega) (by omega) (by omega) (by omega) (by rw [Bool.and_eq_true]; exact ⟨by assumption, by assumption⟩) (by rw [Bool.and_eq_false_iff]; first | exact .inl (by assumption) | exact .inr (by assumption))]; done) | (rw [entR_6 (by omega) (by omega) (by omega) (by omega) (by rw [Bool.and_eq_true]; exact ⟨by assumption, by assumption⟩) (by rw [Bool.and_eq_false_iff]; first | exact .inl (by assumption) | exact .inr (by assumption))]; rfl) | (rw [entR_7 (by omega) (by omega) (by omega) (by omega) (by rw [Bool.and_eq_true]; exact ⟨by assumption, by assumption⟩) (by rw [Bool.and_eq_true]; exact ⟨by assumption, by assumption⟩)]; done) | (rw [entR_7 (by omega) (by omega) (by omega) (by omega) (by rw [Bool.and_eq_true]; exact ⟨by assumption, by assumption⟩) (by rw [Bool.and_eq_true]; exact ⟨by assumption, by assumption⟩)]; rfl), by first | (rw [entR_1 (by omega)]; done) | (rw [entR_1 (by omega)]; rfl) | (rw [entR_2 (by omega) (by omega)]; done) | (rw [entR_2 (by omega) (by omega)]; rfl) | (rw [entR_3 (by omega) (by omega) (by omega)]; done) | (rw [entR_3 (by omega) (by omega) (by omega)]; rfl) | (rw [entR_4 (by omega) (by omega) (by omega) (by omega)]; done) | (rw [entR_4 (by omega) (by omega) (by omega) (by omega)]; rfl) | (rw [entR_5 (by omega) (by omega) (by omega) (by omega) (by rw [Bool.and_eq_false_iff]; first | exact .inl (by assumption) | exact .inr (by assumption))]; done) | (rw [entR_5 (by omega) (by omega) (by omega) (by omega) (by rw [Bool.and_eq_false_iff]; first | exact .inl (by assumption) | exact .inr (by assumption))]; rfl) | (rw [entR_6 (by omega) (by omega) (by omega) (by omega) (by rw [Bool.and_eq_true]; exact ⟨by assumption, by assumption⟩) (by rw [Bool.and_eq_false_iff]; first | exact .inl (by assumption) | exact .inr (by assumption))]; done) | (rw [entR_6 (by omega) (by omega) (by omega) (by omega) (by rw [Bool.and_eq_true]; exact ⟨by assumption, by assumption⟩) (by rw [Bool.and_eq_false_iff]; first | exact .inl (by assumption) | exact .inr (by assumption))]; rfl) | (rw [entR_7 (by omega) (by omega) (by omega) (by omega) (by rw [Bool.and_eq_true]; exact ⟨by assumption, by assumption⟩) (by rw [Bool.and_eq_true]; exact ⟨by assumption, by assumption⟩)]; done) | (rw [entR_7 (by omega) (by omega) (by omega) (by omega) (by rw [Bool.and_eq_true]; exact ⟨by assumption, by assumption⟩) (by rw [Bool.and_eq_true]; exact ⟨by assumption, by assumption⟩)]; rfl)⟩ ?_)
              exact absW
            refine runTf g'18 ?_
            refine hQ _ _ (end_byG (.inl rfl) hbel (x1 := .tup [.agg [iV ((16 * tx) + (((nx + (rdU 0 0 b).1) % 16 : Nat) : Int)), iV ((16 * ty) + (((nx + (rdU 0 0 b).1) / 16 : Nat) : Int)), iV ((rdI ((rdU 0 0 b).2.1)).1), iV ((rdI ((rdI ((rdU 0 0 b).2.1)).2.1)).1)], iV ((nx + (rdU 0 0 b).1 + 1 : Nat) : Int), .sl (some (H.length + 4, 0)) (((rdI ((rdI ((rdU 0 0 b).2.1)).2.1)).2.1).length) (capG ((rdI ((rdI ((rdU 0 0 b).2.1)).2.1)).2.1).length), iV 0]) (l2 := [.cells (ownG ((rdI ((rdI ((rdU 0 0 b).2.1)).2.1)).2.1).length) 1 (ints .u8 ((rdI ((rdI ((rdU 0 0 b).2.1)).2.1)).2.1))]) (.tup [.agg [iV ((16 * tx) + (((nx + (rdU 0 0 b).1) % 16 : Nat) : Int)), iV ((16 * ty) + (((nx + (rdU 0 0 b).1) / 16 : Nat) : Int)), iV ((rdI ((rdU 0 0 b).2.1)).1), iV ((rdI ((rdI ((rdU 0 0 b).2.1)).2.1)).1)], iV ((nx + (rdU 0 0 b).1 + 1 : Nat) : Int), .sl (some (H.length, 0)) (((rdI ((rdI ((rdU 0 0 b).2.1)).2.1)).2.1).length) (capG ((rdI ((rdI ((rdU 0 0 b).2.1)).2.1)).2.1).length), iV 0]) (resTf @add_nat1 Try.results36) [] rfl [4] (by decide) ⟨by first | (rw [entR_1 (by omega)]; done) | (rw [entR_1 (by omega)]; rfl) | (rw [entR_2 (by omega) (by omega)]; done) | (rw [entR_2 (by omega) (by omega)]; rfl) | (rw [entR_3 (by omega) (by omega) (by omega)]; done) | (rw [entR_3 (by omega) (by omega) (by omega)]; rfl) | (rw [entR_4 (by omega) (by omega) (by omega) (by omega)]; done) | (rw [entR_4 (by omega) (by omega) (by omega) (by omega)]; rfl) | (rw [entR_5 (by omega) (by omega) (by omega) (by omega) (by rw [Bool.and_eq_false_iff]; first | exact .inl (by assumption) | exact .inr (by assumption))]; done) | (rw [entR_5 (by omega) (by omega) (by omega) (by omega) (by rw [Bool.and_eq_false_iff]; first | exact .inl (by assumption) | exact .inr (by assumption))]; rfl) | (rw [entR_6 (by omega) (by omega) (by omega) (by omega) (by rw [Bool.and_eq_true]; exact ⟨by assumption, by assumption⟩) (by rw [Bool.and_eq_false_iff]; first | exact .inl (by assumption) | exact .inr (by assumption))]; done) | (rw [entR_6 (by omega) (by omega) (by omega) (by omega) (by rw [Bool.and_eq_true]; exact ⟨by assumption, by assumption⟩) (by rw [Bool.and_eq_false_iff]; first | exact .inl (by assumption) | exact .inr (by assumption))]; rfl) | (rw [entR_7 (by omega) (by omega) (by omega) (by omega) (by rw [Bool.and_eq_true]; exact ⟨by assumption, by assumption⟩) (by rw [Bool.and_eq_true]; exact ⟨by assumption, by assumption⟩)]; done) | (rw [entR_7 (by omega) (by omega) (by omega) (by omega) (by rw [Bool.and_eq_true]; exact ⟨by assumption, by assumption⟩) (by rw [Bool.and_eq_true]; exact ⟨by assumption, by assumption⟩)]; rfl), by first | (rw [entR_1 (by omega)]; done) | (rw [entR_1 (by omega)]; rfl) | (rw [entR_2 (by omega) (by omega)]; done) | (rw [entR_2 (by omega) (by omega)]; rfl) | (rw [entR_3 (by omega) (by omega) (by omega)]; done) | (rw [entR_3 (by omega) (by omega) (by omega)]; rfl) | (rw [entR_4 (by omega) (by omega) (by omega) (by omega)]; done) | (rw [entR_4 (by omega) (by omega) (by omega) (by omega)]; rfl) | (rw [entR_5 (by omega) (by omega) (by omega) (by omega) (by rw [Bool.and_eq_false_iff]; first | exact .inl (by assumption) | exact .inr (by assumption))]; done) | (rw [entR_5 (by omega) (by omega) (by omega) (by omega) (by rw [Bool.and_eq_false_iff]; first | exact .inl (by assumption) | exact .inr (by assumption))]; rfl) | (rw [entR_6 (by omega) (by omega) (by omega) (by omega) (by rw [Bool.and_eq_true]; exact ⟨by assumption, by assumption⟩) (by rw [Bool.and_eq_false_iff]; first | exact .inl (by assumption) | exact .inr (by assumption))]; done) | (rw [entR_6 (by omega) (by omega) (by omega) (by omega) (by rw [Bool.and_eq_true]; exact ⟨by assumption, by assumption⟩) (by rw [Bool.and_eq_false_iff]; first | exact .inl (by assumption) | exact .inr (by assumption))]; rfl) | (rw [entR_7 (by omega) (by omega) (by omega) (by omega) (by rw [Bool.and_eq_true]; exact ⟨by assumption, by assumption⟩) (by rw [Bool.and_eq_true]; exact ⟨by assumption, by assumption⟩)]; done) | (rw [entR_7 (by omega) (by omega) (by omega) (by omega) (by rw [Bool.and_eq_true]; exact ⟨by assumption, by assumption⟩) (by rw [Bool.and_eq_true]; exact ⟨by assumption, by assumption⟩)]; rfl)⟩ ?_)
            exact absW
          refine runTf g'19 ?_
          refine hQ _ _ (end_byG (.inl rfl) hbel (x1 := .tup [.agg [iV 0, iV 0, iV 0, iV 0], iV 0, .sl none 0 (some 0), iV 1]) (l2 := [.cells false 1 []]) (.tup [.agg [iV 0, iV 0, iV 0, iV 0], iV 0, .sl (some (H.length, 0)) 0 (some 0), iV 1]) (resTf @add_nat1 Try.results36) [.cells false 1 []] rfl [6] (by decide) ⟨by first | (rw [entR_1 (by omega)]; done) | (rw [entR_1 (by omega)]; rfl) | (rw [entR_2 (by omega) (by omega)]; done) | (rw [entR_2 (by omega) (by omega)]; rfl) | (rw [entR_3 (by omega) (by omega) (by omega)]; done) | (rw [entR_3 (by omega) (by omega) (by omega)]; rfl) | (rw [entR_4 (by omega) (by omega) (by omega) (by omega)]; done) | (rw [entR_4 (by omega) (by omega) (by omega) (by omega)]; rfl) | (rw [entR_5 (by omega) (by omega) (by omega) (by omega) (by rw [Bool.and_eq_false_iff]; first | exact .inl (by assumption) | exact .inr (by assumption))]; done) | (rw [entR_5 (by omega) (by omega) (by omega) (by omega) (by rw [Bool.and_eq_false_iff]; first | exact .inl (by assumption) | exact .inr (by assumption))]; rfl) | (rw [entR_6 (by omega) (by omega) (by omega) (by omega) (by rw [Bool.and_eq_true]; exact ⟨by assumption, by assumption⟩) (by rw [Bool.and_eq_false_iff]; first | exact .inl (by assumption) | exact .inr (by assumption))]; done) | (rw [entR_6 (by omega) (by omega) (by omega) (by omega) (by rw [Bool.and_eq_true]; exact ⟨by assumption, by assumption⟩) (by rw [Bool.and_eq_false_iff]; first | exact .inl (by assumption) | exact .inr (by assumption))]; rfl) | (rw [entR_7 (by omega) (by omega) (by omega) (by omega) (by rw [Bool.and_eq_true]; exact ⟨by assumption, by assumption⟩) (by rw [Bool.and_eq_true]; exact ⟨by assumption, by assumption⟩)]; done) | (rw [entR_7 (by omega) (by omega) (by omega) (by omega) (by rw [Bool.and_eq_true]; exact ⟨by assumption, by assumption⟩) (by rw [Bool.and_eq_true]; exact ⟨by assumption, by assumption⟩)]; rfl), by first | (rw [entR_1 (by omega)]; done) | (rw [entR_1 (by omega)]; rfl) | (rw [entR_2 (by omega) (by omega)]; done) | (rw [entR_2 (by omega) (by omega)]; rfl) | (rw [entR_3 (by omega) (by omega) (by omega)]; done) | (rw [entR_3 (by omega) (by omega) (by omega)]; rfl) | (rw [entR_4 (by omega) (by omega) (by omega) (by omega)]; done) | (rw [entR_4 (by omega) (by omega) (by omega) (by omega)]; rfl) | (rw [entR_5 (by omega) (by omega) (by omega) (by omega) (by rw [Bool.and_eq_false_iff]; first | exact .inl (by assumption) | exact .inr (by assumption))]; done) | (rw [entR_5 (by omega) (by omega) (by omega) (by omega) (by rw [Bool.and_eq_false_iff]; first | exact .inl (by assumption) | exact .inr (by assumption))]; rfl) | (rw [entR_6 (by omega) (by omega) (by omega) (by omega) (by rw [Bool.and_eq_true]; exact ⟨by assumption, by assumption⟩) (by rw [Bool.and_eq_false_iff]; first | exact .inl (by assumption) | exact .inr (by assumption))]; done) | (rw [entR_6 (by omega) (by omega) (by omega) (by omega) (by rw [Bool.and_eq_true]; exact ⟨by assumption, by assumption⟩) (by rw [Bool.and_eq_false_iff]; first | exact .inl (by assumption) | exact .inr (by assumption))]; rfl) | (rw [entR_7 (by omega) (by omega) (by omega) (by omega) (by rw [Bool.and_eq_true]; exact ⟨by assumption, by assumption⟩) (by rw [Bool.and_eq_true]; exact ⟨by assumption, by assumption⟩)]; done) | (rw [entR_7 (by omega) (by omega) (by omega) (by omega) (by rw [Bool.and_eq_true]; exact ⟨by assumption, by assumption⟩) (by rw [Bool.and_eq_true]; exact ⟨by assumption, by assumption⟩)]; rfl)⟩ ?_)
          exact absW
        refine runTf g'20 ?_
        refine hQ _ _ (end_byG (.inl rfl) hbel (x1 := .tup [.agg [iV 0, iV 0, iV 0, iV 0], iV 0, .sl none 0 (some 0), iV 2]) (l2 := [.cells false 1 []]) (.tup [.agg [iV 0, iV 0, iV 0, iV 0], iV 0, .sl (some (H.length, 0)) 0 (some 0), iV 2]) (resTf @add_nat1 Try.results36) [.cells false 1 []] rfl [5] (by decide) ⟨by first | (rw [entR_1 (by omega)]; done) | (rw [entR_1 (by omega)]; rfl) | (rw [entR_2 (by omega) (by omega)]; done) | (rw [entR_2 (by omega) (by omega)]; rfl) | (rw [entR_3 (by omega) (by omega) (by omega)]; done) | (rw [entR_3 (by omega) (by omega) (by omega)]; rfl) | (rw [entR_4 (by omega) (by omega) (by omega) (by omega)]; done) | (rw [entR_4 (by omega) (by omega) (by omega) (by omega)]; rfl) | (rw [entR_5 (by omega) (by omega) (by omega) (by omega) (by rw [Bool.and_eq_false_iff]; first | exact .inl (by assumption) | exact .inr (by assumption))]; done) | (rw [entR_5 (by omega) (by omega) (by omega) (by omega) (by rw [Bool.and_eq_false_iff]; first | exact .inl (by assumption) | exact .inr (by assumption))]; rfl) | (rw [entR_6 (by omega) (by omega) (by omega) (by omega) (by rw [Bool.and_eq_true]; exact ⟨by assumption, by assumption⟩) (by rw [Bool.and_eq_false_iff]; first | exact .inl (by assumption) | exact .inr (by assumption))]; done) | (rw [entR_6 (by omega) (by omega) (by omega) (by omega) (by rw [Bool.and_eq_true]; exact ⟨by assumption, by assumption⟩) (by rw [Bool.and_eq_false_iff]; first | exact .inl (by assumption) | exact .inr (by assumption))]; rfl) | (rw [entR_7 (by omega) (by omega) (by omega) (by omega) (by rw [Bool.and_eq_true]; exact ⟨by assumption, by assumption⟩) (by rw [Bool.and_eq_true]; exact ⟨by assumption, by assumption⟩)]; done) | (rw [entR_7 (by omega) (by omega) (by omega) (by omega) (by rw [Bool.and_eq_true]; exact ⟨by assumption, by assumption⟩) (by rw [Bool.and_eq_true]; exact ⟨by assumption, by assumption⟩)]; rfl), by first | (rw [entR_1 (by omega)]; done) | (rw [entR_1 (by omega)]; rfl) | (rw [entR_2 (by omega) (by omega)]; done) | (rw [entR_2 (by omega) (by omega)]; rfl) | (rw [entR_3 (by omega) (by omega) (by omega)]; done) | (rw [entR_3 (by omega) (by omega) (by omega)]; rfl) | (rw [entR_4 (by omega) (by omega) (by omega) (by omega)]; done) | (rw [entR_4 (by omega) (by omega) (by omega) (by omega)]; rfl) | (rw [entR_5 (by omega) (by omega) (by omega) (by omega) (by rw [Bool.and_eq_false_iff]; first | exact .inl (by assumption) | exact .inr (by assumption))]; done) | (rw [entR_5 (by omega) (by omega) (by omega) (by omega) (by rw [Bool.and_eq_false_iff]; first | exact .inl (by assumption) | exact .inr (by assumption))]; rfl) | (rw [entR_6 (by omega) (by omega) (by omega) (by omega) (by rw [Bool.and_eq_true]; exact ⟨by assumption, by assumption⟩) (by rw [Bool.and_eq_false_iff]; first | exact .inl (by assumption) | exact .inr (by assumption))]; done) | (rw [entR_6 (by omega) (by omega) (by omega) (by omega) (by rw [Bool.and_eq_true]; exact ⟨by assumption, by assumption⟩) (by rw [Bool.and_eq_false_iff]; first | exact .inl (by assumption) | exact .inr (by assumption))]; rfl) | (rw [entR_7 (by omega) (by omega) (by omega) (by omega) (by rw [Bool.and_eq_true]; exact ⟨by assumption, by assumption⟩) (by rw [Bool.and_eq_true]; exact ⟨by assumption, by assumption⟩)]; done) | (rw [entR_7 (by omega) (by omega) (by omega) (by omega) (by rw [Bool.and_eq_true]; exact ⟨by assumption, by assumption⟩) (by rw [Bool.and_eq_true]; exact ⟨by assumption, by assumption⟩)]; rfl)⟩ ?_)
        exact absW
      have h6n := bnT h6
      have g'21 := j2 h6 h6n g'9
      refine runTf g'21 ?_
      refine cv (tsize_c _ _ _ (by decide)) ?_
      refine rgs g'21 (fun h12 h12d g'22 => ?_) (fun h12 h12d g'29 => ?_)
      · refine runTf g'22 ?_
        refine cv (tsize_c _ _ _ (by decide)) ?_
        refine rcs g'22 (fun h13 h13d g'23 => ?_) (fun h13 h13d g'24 => ?_)
        · refine runTf g'23 ?_
          refine hQ _ _ (end_byG (.inl rfl) hbel (x1 := .tup [.agg [iV 0, iV 0, iV 0, iV 0], iV 0, .sl none 0 (some 0), iV 2]) (l2 := [.cells false 1 []]) (.tup [.agg [iV 0, iV 0, iV 0, iV 0], iV 0, .sl (some (H.length, 0)) 0 (some 0), iV 2]) (resTf @add_nat1 Try.results36) [.cells false 1 []] rfl [5] (by decide) ⟨by first | (rw [entR_1 (by omega)]; done) | (rw [entR_1 (by omega)]; rfl) | (rw [entR_2 (by omega) (by omega)]; done) | (rw [entR_2 (by omega) (by omega)]; rfl) | (rw [entR_3 (by omega) (by omega) (by omega)]; done) | (rw [entR_3 (by omega) (by omega) (by omega)]; rfl) | (rw [entR_4 (by omega) (by omega) (by omega) (by omega)]; done) | (rw [entR_4 (by omega) (by omega) (by omega) (by omega)]; rfl) | (rw [entR_5 (by omega) (by omega) (by omega) (by omega) (by rw [Bool.and_eq_false_iff]; first | exact .inl (by assumption) | exact .inr (by assumption))]; done) | (rw [entR_5 (by omega) (by omega) (by omega) (by omega) (by rw [Bool.and_eq_false_iff]; first | exact .inl (by assumption) | exact .inr (by assumption))]; rfl) | (rw [entR_6 (by omega) (by omega) (by omega) (by omega) (by rw [Bool.and_eq_true]; exact ⟨by assumption, by assumption⟩) (by rw [Bool.and_eq_false_iff]; first | exact .inl (by assumption) | exact .inr (by assumption))]; done) | (rw [entR_6 (by omega) (by omega) (by omega) (by omega) (by rw [Bool.and_eq_true]; exact ⟨by assumption, by assumption⟩) (by rw [Bool.and_eq_false_iff]; first | exact .inl (by assumption) | exact .inr (by assumption))]; rfl) | (rw [entR_7 (by omega) (by omega) (by omega) (by omega) (by rw [Bool.and_eq_true]; exact ⟨by assumption, by assumption⟩) (by rw [Bool.and_eq_true]; exact ⟨by assumption, by assumption⟩)]; done) | (rw [entR_7 (by omega) (by omega) (by omega) (by omega) (by rw [Bool.and_eq_true]; exact ⟨by assumption, by assumption⟩) (by rw [Bool.and_eq_true]; exact ⟨by assumption, by assumption⟩)]; rfl), by first | (rw [entR_1 (by omega)]; done) | (rw [entR_1 (by omega)]; rfl) | (rw [entR_2 (by omega) (by omega)]; done) | (rw [entR_2 (by omega) (by omega)]; rfl) | (rw [entR_3 (by omega) (by omega) (by omega)]; done) | (rw [entR_3 (by omega) (by omega) (by omega)]; rfl) | (rw [entR_4 (by omega) (by omega) (by omega) (by omega)]; done) | (rw [entR_4 (by omega) (by omega) (by omega) (by omega)]; rfl) | (rw [entR_5 (by omega) (by omega) (by omega) (by omega) (by rw [Bool.and_eq_false_iff]; first | exact .inl (by assumption) | exact .inr (by assumption))]; done) | (rw [entR_5 (by omega) (by omega) (by omega) (by omega) (by rw [Bool.and_eq_false_iff]; first | exact .inl (by assumption) | exact .inr (by assumption))]; rfl) | (rw [entR_6 (by omega) (by omega) (by omega) (by omega) (by rw [Bool.and_eq_true]; exact ⟨by assumption, by assumption⟩) (by rw [Bool.and_eq_false_iff]; first | exact .inl (by assumption) | exact .inr (by assumption))]; done) | (rw [entR_6 (by omega) (by omega) (by omega) (by omega) (by rw [Bool.and_eq_true]; exact ⟨by assumption, by assumption⟩) (by rw [Bool.and_eq_false_iff]; first | exact .inl (by assumption) | exact .inr (by assumption))]; rfl) | (rw [entR_7 (by omega) (by omega) (by omega) (by omega) (by rw [Bool.and_eq_true]; exact ⟨by assumption, by assumption⟩) (by rw [Bool.and_eq_true]; exact ⟨by assumption, by assumption⟩)]; done) | (rw [entR_7 (by omega) (by omega) (by omega) (by omega) (by rw [Bool.and_eq_true]; exact ⟨by assumption, by assumption⟩) (by rw [Bool.and_eq_true]; exact ⟨by assumption, by assumption⟩)]; rfl)⟩ ?_)
          exact absW
        refine runTf g'24 ?_
        refine cv (tsize_c _ _ _ (by decide)) ?_
        refine rgs g'24 (fun h14 h14d g'25 => ?_) (fun h14 h14d g'28 => ?_)
        · refine runTf g'25 ?_
          refine cv (tsize_c _ _ _ (by decide)) ?_
          refine rcs g'25 (fun h15 h15d g'26 => ?_) (fun h15 h15d g'27 => ?_)
          · refine runTf g'26 ?_
            refine hQ _ _ (end_byG (.inl rfl) hbel (x1 := .tup [.agg [iV 0, iV 0, iV 0, iV 0], iV 0, .sl none 0 (some 0), iV 1]) (l2 := [.cells false 1 []]) (.tup [.agg [iV 0, iV 0, iV 0, iV 0], iV 0, .sl (some (H.length, 0)) 0 (some 0), iV 1]) (resTf @add_nat1 Try.results36) [.cells false 1 []] rfl [6] (by decide) ⟨by first | (rw [entR_1 (by omega)]; done) | (rw [entR_1 (by omega)]; rfl) | (rw [entR_2 (by omega) (by omega)]; done) | (rw [entR_2 (by omega) (by omega)]; rfl) | (rw [entR_3 (by omega) (by omega) (by omega)]; done) | (rw [entR_3 (by omega) (by omega) (by omega)]; rfl) | (rw [entR_4 (by omega) (by omega) (by omega) (by omega)]; done) | (rw [entR_4 (by omega) (by omega) (by omega) (by omega)]; rfl) | (rw [entR_5 (by omega) (by omega) (by omega) (by omega) (by rw [Bool.and_eq_false_iff]; first | exact .inl (by assumption) | exact .inr (by assumption))]; done) | (rw [entR_5 (by omega) (by omega) (by omega) (by omega) (by rw [Bool.and_eq_false_iff]; first | exact .inl (by assumption) | exact .inr (by assumption))]; rfl) | (rw [entR_6 (by omega) (by omega) (by omega) (by omega) (by rw [Bool.and_eq_true]; exact ⟨by assumption, by assumption⟩) (by rw [Bool.and_eq_false_iff]; first | exact .inl (by assumption) | exact .inr (by assumption))]; done) | (rw [entR_6 (by omega) (by omega) (by omega) (by omega) (by rw [Bool.and_eq_true]; exact ⟨by assumption, by assumption⟩) (by rw [Bool.and_eq_false_iff]; first | exact .inl (by assumption) | exact .inr (by assumption))]; rfl) | (rw [entR_7 (by omega) (by omega) (by omega) (by omega) (by rw [Bool.and_eq_true]; exact ⟨by assumption, by assumption⟩) (by rw [Bool.and_eq_true]; exact ⟨by assumption, by assumption⟩)]; done) | (rw [entR_7 (by omega) (by omega) (by omega) (by omega) (by rw [Bool.and_eq_true]; exact ⟨by assumption, by assumption⟩) (by rw [Bool.and_eq_true]; exact ⟨by assumption, by assumption⟩)]; rfl), by first | (rw [entR_1 (by omega)]; done) | (rw [entR_1 (by omega)]; rfl) | (rw [entR_2 (by omega) (by omega)]; done) | (rw [entR_2 (by omega) (by omega)]; rfl) | (rw [entR_3 (by omega) (by omega) (by omega)]; done) | (rw [entR_3 (by omega) (by omega) (by omega)]; rfl) | (rw [entR_4 (by omega) (by omega) (by omega) (by omega)]; done) | (rw [entR_4 (by omega) (by omega) (by omega) (by omega)]; rfl) | (rw [entR_5 (by omega) (by omega) (by omega) (by omega) (by rw [Bool.and_eq_false_iff]; first | exact .inl (by assumption) | exact .inr (by assumption))]; done) | (rw [entR_5 (by omega) (by omega) (by omega) (by omega) (by rw [Bool.and_eq_false_iff]; first | exact .inl (by assumption) | exact .inr (by assumption))]; rfl) | (rw [entR_6 (by omega) (by omega) (by omega) (by omega) (by rw [Bool.and_eq_true]; exact ⟨by assumption, by assumption⟩) (by rw [Bool.and_eq_false_iff]; first | exact .inl (by assumption) | exact .inr (by assumption))]; done) | (rw [entR_6 (by omega) (by omega) (by omega) (by omega) (by rw [Bool.and_eq_true]; exact ⟨by assumption, by assumption⟩) (by rw [Bool.and_eq_false_iff]; first | exact .inl (by assumption) | exact .inr (by assumption))]; rfl) | (rw [entR_7 (by omega) (by omega) (by omega) (by omega) (by rw [Bool.and_eq_true]; exact ⟨by assumption, by assumption⟩) (by rw [Bool.and_eq_true]; exact ⟨by assumption, by assumption⟩)]; done) | (rw [entR_7 (by omega) (by omega) (by omega) (by omega) (by rw [Bool.and_eq_true]; exact ⟨by assumption, by assumption⟩) (by rw [Bool.and_eq_true]; exact ⟨by assumption, by assumption⟩)]; rfl)⟩ ?_)
            exact absW
          refine runTf g'27 ?_
          refine hQ _ _ (end_byG (.inl rfl) hbel (x1 := .tup [.agg [iV ((16 * tx) + (((nx + (rdU 0 0 b).1) % 16 : Nat) : Int)), iV ((16 * ty) + (((nx + (rdU 0 0 b).1) / 16 : Nat) : Int)), iV ((rdI ((rdU 0 0 b).2.1)).1), iV ((rdI ((rdI ((rdU 0 0 b).2.1)).2.1)).1)], iV ((nx + (rdU 0 0 b).1 + 1 : Nat) : Int), .sl (some (H.length + 4, 0)) (((rdI ((rdI ((rdU 0 0 b).2.1)).2.1)).2.1).length) (capG ((rdI ((rdI ((rdU 0 0 b).2.1)).2.1)).2.1).length), iV 0]) (l2 := [.cells (ownG ((rdI ((rdI ((rdU 0 0 b).2.1)).2.1)).2.1).length) 1 (ints .u8 ((rdI ((rdI ((rdU 0 0 b).2.1)).2.1)).2.1))]) (.tup [.agg [iV ((16 * tx) + (((nx + (rdU 0 0 b).1) % 16 : Nat) : Int)), iV ((16 * ty) + (((nx + (rdU 0 0 b).1) / 16 : Nat) : Int)), iV ((rdI ((rdU 0 0 b).2.1)).1), iV ((rdI ((rdI ((rdU 0 0 b).2.1)).2.1)).1)], iV ((nx + (rdU 0 0 b).1 + 1 : Nat) : Int), .sl (some (H.length, 0)) (((rdI ((rdI ((rdU 0 0 b).2.1)).2.1)).2.1).length) (capG ((rdI ((rdI ((rdU 0 0 b).2.1)).2.1)).2.1).length), iV 0]) (resTf @add_nat1 Try.results36) [] rfl [4] (by decide) ⟨by first | (rw [entR_1 (by omega)]; done) | (rw [entR_1 (by omega)]; rfl) | (rw [entR_2 (by omega) (by omega)]; done) | (rw [entR_2 (by omega) (by omega)]; rfl) | (rw [entR_3 (by omega) (by omega) (by omega)]; done) | (rw [entR_3 (by omega) (by omega) (by omega)]; rfl) | (rw [entR_4 (by omega) (by omega) (by omega) (by omega)]; done) | (rw [entR_4 (by omega) (by omega) (by omega) (by omega)]; rfl) | (rw [entR_5 (by omega) (by omega) (by omega) (by omega) (by rw [Bool.and_eq_false_iff]; first | exact .inl (by assumption) | exact .inr (by assumption))]; done) | (rw [entR_5 (by omega) (by omega) (by omega) (by omega) (by rw [Bool.and_eq_false_iff]; first | exact .inl (by assumption) | exact .inr (by assumption))]; rfl) | (rw [entR_6 (by omega) (by omega) (by omega) (by omega) (by rw [Bool.and_eq_true]; exact ⟨by assumption, by assumption⟩) (by rw [Bool.and_eq_false_iff]; first | exact .inl (by assumption) | exact .inr (by assumption))]; done) | (rw [entR_6 (by omega) (by omega) (by omega) (by omega) (by rw [Bool.and_eq_true]; exact ⟨by assumption, by assumption⟩) (by rw [Bool.and_eq_false_iff]; first | exact .inl (by assumption) | exact .inr (by assumption))]; rfl) | (rw [entR_7 (by omega) (by omega) (by omega) (by omega) (by rw [Bool.and_eq_true]; exact ⟨by assumption, by assumption⟩) (by rw [Bool.and_eq_true]; exact ⟨by assumption, by assumption⟩)]; done) | (rw [entR_7 (by omega) (by omega) (by omega) (by omega) (by rw [Bool.and_eq_true]; exact ⟨by assumption, by assumption⟩) (by rw [Bool.and_eq_true]; exact ⟨by assumption, by assumption⟩)]; rfl), by first | (rw [entR_1 (by omega)]; done) | (rw [entR_1 (by omega)]; rfl) | (rw [entR_2 (by omega) (by omega)]; done) | (rw [entR_2 (by omega) (by omega)]; rfl) | (rw [entR_3 (by omega) (by omega) (by omega)]; done) | (rw [entR_3 (by omega) (by omega) (by omega)]; rfl) | (rw [entR_4 (by omega) (by omega) (by omega) (by omega)]; done) | (rw [entR_4 (by omega) (by omega) (by omega) (by omega)]; rfl) | (rw [entR_5 (by omega) (by omega) (by omega) (by omega) (by rw [Bool.and_eq_false_iff]; first | exact .inl (by assumption) | exact .inr (by assumption))]; done) | (rw [entR_5 (by omega) (by omega) (by omega) (by omega) (by rw [Bool.and_eq_false_iff]; first | exact .inl (by assumption) | exact .inr (by assumption))]; rfl) | (rw [entR_6 (by omega) (by omega) (by omega) (by omega) (by rw [Bool.and_eq_true]; exact ⟨by assumption, by assumption⟩) (by rw [Bool.and_eq_false_iff]; first | exact .inl (by assumption) | exact .inr (by assumption))]; done) | (rw [entR_6 (by omega) (by omega) (by omega) (by omega) (by rw [Bool.and_eq_true]; exact ⟨by assumption, by assumption⟩) (by rw [Bool.and_eq_false_iff]; first | exact .inl (by assumption) | exact .inr (by assumption))]; rfl) | (rw [entR_7 (by omega) (by omega) (by omega) (by omega) (by rw [Bool.and_eq_true]; exact ⟨by assumption, by assumption⟩) (by rw [Bool.and_eq_true]; exact ⟨by assumption, by assumption⟩)]; done) | (rw [entR_7 (by omega) (by omega) (by omega) (by omega) (by rw [Bool.and_eq_true]; exact ⟨by assumption, by assumption⟩) (by rw [Bool.and_eq_true]; exact ⟨by assumption, by assumption⟩)]; rfl)⟩ ?_)
          exact absW
        refine runTf g'28 ?_
        refine hQ _ _ (end_byG (.inl rfl) hbel (x1 := .tup [.agg [iV 0, iV 0, iV 0, iV 0], iV 0, .sl none 0 (some 0), iV 1]) (l2 := [.cells false 1 []]) (.tup [.agg [iV 0, iV 0, iV 0, iV 0], iV 0, .sl (some (H.length, 0)) 0 (some 0), iV 1]) (resTf @add_nat1 Try.results36) [.cells false 1 []] rfl [6] (by decide) ⟨by first | (rw [entR_1 (by omega)]; done) | (rw [entR_1 (by omega)]; rfl) | (rw [entR_2 (by omega) (by omega)]; done) | (rw [entR_2 (by omega) (by omega)]; rfl) | (rw [entR_3 (by omega) (by omega) (by omega)]; done) | (rw [entR_3 (by omega) (by omega) (by omega)]; rfl) | (rw [entR_4 (by omega) (by omega) (by omega) (by omega)]; done) | (rw [entR_4 (by omega) (by omega) (by omega) (by omega)]; rfl) | (rw [entR_5 (by omega) (by omega) (by omega) (by omega) (by rw [Bool.and_eq_false_iff]; first | exact .inl (by assumption) | exact .inr (by assumption))]; done) | (rw [entR_5 (by omega) (by omega) (by omega) (by omega) (by rw [Bool.and_eq_false_iff]; first | exact .inl (by assumption) | exact .inr (by assumption))]; rfl) | (rw [entR_6 (by omega) (by omega) (by omega) (by omega) (by rw [Bool.and_eq_true]; exact ⟨by assumption, by assumption⟩) (by rw [Bool.and_eq_false_iff]; first | exact .inl (by assumption) | exact .inr (by assumption))]; done) | (rw [entR_6 (by omega) (by omega) (by omega) (by omega) (by rw [Bool.and_eq_true]; exact ⟨by assumption, by assumption⟩) (by rw [Bool.and_eq_false_iff]; first | exact .inl (by assumption) | exact .inr (by assumption))]; rfl) | (rw [entR_7 (by omega) (by omega) (by omega) (by omega) (by rw [Bool.and_eq_true]; exact ⟨by assumption, by assumption⟩) (by rw [Bool.and_eq_true]; exact ⟨by assumption, by assumption⟩)]; done) | (rw [entR_7 (by omega) (by omega) (by omega) (by omega) (by rw [Bool.and_eq_true]; exact ⟨by assumption, by assumption⟩) (by rw [Bool.and_eq_true]; exact ⟨by assumption, by assumption⟩)]; rfl), by first | (rw [entR_1 (by omega)]; done) | (rw [entR_1 (by omega)]; rfl) | (rw [entR_2 (by omega) (by omega)]; done) | (rw [entR_2 (by omega) (by omega)]; rfl) | (rw [entR_3 (by omega) (by omega) (by omega)]; done) | (rw [entR_3 (by omega) (by omega) (by omega)]; rfl) | (rw [entR_4 (by omega) (by omega) (by omega) (by omega)]; done) | (rw [entR_4 (by omega) (by omega) (by omega) (by omega)]; rfl) | (rw [entR_5 (by omega) (by omega) (by omega) (by omega) (by rw [Bool.and_eq_false_iff]; first | exact .inl (by assumption) | exact .inr (by assumption))]; done) | (rw [entR_5 (by omega) (by omega) (by omega) (by omega) (by rw [Bool.and_eq_false_iff]; first | exact .inl (by assumption) | exact .inr (by assumption))]; rfl) | (rw [entR_6 (by omega) (by omega) (by omega) (by omega) (by rw [Bool.and_eq_true]; exact ⟨by assumption, by assumption⟩) (by rw [Bool.and_eq_false_iff]; first | exact .inl (by assumption) | exact .inr (by assumption))]; done) | (rw [entR_6 (by omega) (by omega) (by omega) (by omega) (by rw [Bool.and_eq_true]; exact ⟨by assumption, by assumption⟩) (by rw [Bool.and_eq_false_iff]; first | exact .inl (by assumption) | exact .inr (by assumption))]; rfl) | (rw [entR_7 (by omega) (by omega) (by omega) (by omega) (by rw [Bool.and_eq_true]; exact ⟨by assumption, by assumption⟩) (by rw [Bool.and_eq_true]; exact ⟨by assumption, by assumption⟩)]; done) | (rw [entR_7 (by omega) (by omega) (by omega) (by omega) (by rw [Bool.and_eq_true]; exact ⟨by assumption, by assumption⟩) (by rw [Bool.and_eq_true]; exact ⟨by assumption, by assumption⟩)]; rfl)⟩ ?_)
        exact absW
      refine runTf g'29 ?_
      refine hQ _ _ (end_byG (.inl rfl) hbel (x1 := .tup [.agg [iV 0, iV 0, iV 0, iV 0], iV 0, .sl none 0 (some 0), iV 2]) (l2 := [.cells false 1 []]) (.tup [.agg [iV 0, iV 0, iV 0, iV 0], iV 0, .sl (some (H.length, 0)) 0 (some 0), iV 2]) (resTf @add_nat1 Try.results36) [.cells false 1 []] rfl [5] (by decide) ⟨by first | (rw [entR_1 (by omega)]; done) | (rw [entR_1 (by omega)]; rfl) | (rw [entR_2 (by omega) (by omega)]; done) | (rw [entR_2 (by omega) (by omega)]; rfl) | (rw [entR_3 (by omega) (by omega) (by omega)]; done) | (rw [entR_3 (by omega) (by omega) (by omega)]; rfl) | (rw [entR_4 (by omega) (by omega) (by omega) (by omega)]; done) | (rw [entR_4 (by omega) (by omega) (by omega) (by omega)]; rfl) | (rw [entR_5 (by omega) (by omega) (by omega) (by omega) (by rw [Bool.and_eq_false_iff]; first | exact .inl (by assumption) | exact .inr (by assumption))]; done) | (rw [entR_5 (by omega) (by omega) (by omega) (by omega) (by rw [Bool.and_eq_false_iff]; first | exact .inl (by assumption) | exact .inr (by assumption))]; rfl) | (rw [entR_6 (by omega) (by omega) (by omega) (by omega) (by rw [Bool.and_eq_true]; exact ⟨by assumption, by assumption⟩) (by rw [Bool.and_eq_false_iff]; first | exact .inl (by assumption) | exact .inr (by assumption))]; done) | (rw [entR_6 (by omega) (by omega) (by omega) (by omega) (by rw [Bool.and_eq_true]; exact ⟨by assumption, by assumption⟩) (by rw [Bool.and_eq_false_iff]; first | exact .inl (by assumption) | exact .inr (by assumption))]; rfl) | (rw [entR_7 (by omega) (by omega) (by omega) (by omega) (by rw [Bool.and_eq_true]; exact ⟨by assumption, by assumption⟩) (by rw [Bool.and_eq_true]; exact ⟨by assumption, by assumption⟩)]; done) | (rw [entR_7 (by omega) (by omega) (by omega) (by omega) (by rw [Bool.and_eq_true]; exact ⟨by assumption, by assumption⟩) (by rw [Bool.and_eq_true]; exact ⟨by assumption, by assumption⟩)]; rfl), by first | (rw [entR_1 (by omega)]; done) | (rw [entR_1 (by omega)]; rfl) | (rw [entR_2 (by omega) (by omega)]; done) | (rw [entR_2 (by omega) (by omega)]; rfl) | (rw [entR_3 (by omega) (by omega) (by omega)]; done) | (rw [entR_3 (by omega) (by omega) (by omega)]; rfl) | (rw [entR_4 (by omega) (by omega) (by omega) (by omega)]; done) | (rw [entR_4 (by omega) (by omega) (by omega) (by omega)]; rfl) | (rw [entR_5 (by omega) (by omega) (by omega) (by omega) (by rw [Bool.and_eq_false_iff]; first | exact .inl (by assumption) | exact .inr (by assumption))]; done) | (rw [entR_5 (by omega) (by omega) (by omega) (by omega) (by rw [Bool.and_eq_false_iff]; first | exact .inl (by assumption) | exact .inr (by assumption))]; rfl) | (rw [entR_6 (by omega) (by omega) (by omega) (by omega) (by rw [Bool.and_eq_true]; exact ⟨by assumption, by assumption⟩) (by rw [Bool.and_eq_false_iff]; first | exact .inl (by assumption) | exact .inr (by assumption))]; done) | (rw [entR_6 (by omega) (by omega) (by omega) (by omega) (by rw [Bool.and_eq_true]; exact ⟨by assumption, by assumption⟩) (by rw [Bool.and_eq_false_iff]; first | exact .inl (by assumption) | exact .inr (by assumption))]; rfl) | (rw [entR_7 (by omega) (by omega) (by omega) (by omega) (by rw [Bool.and_eq_true]; exact ⟨by assumption, by assumption⟩) (by rw [Bool.and_eq_true]; exact ⟨by assumption, by assumption⟩)]; done) | (rw [entR_7 (by omega) (by omega) (by omega) (by omega) (by rw [Bool.and_eq_true]; exact ⟨by assumption, by assumption⟩) (by rw [Bool.and_eq_true]; exact ⟨by assumption, by assumption⟩)]; rfl)⟩ ?_)
      exact absW
    refine runTf g'30 ?_
    refine hQ _ _ (end_byG (.inl rfl) hbel (x1 := .tup [.agg [iV 0, iV 0, iV 0, iV 0], iV 0, .sl none 0 (some 0), iV 3]) (l2 := [.cells false 1 []]) (.tup [.agg [iV 0, iV 0, iV 0, iV 0], iV 0, .sl (some (H.length, 0)) 0 (some 0), iV 3]) (resTf @add_nat1 Try.results36) [.cells false 1 []] rfl [5] (by decide) ⟨by first | (rw [entR_1 (by omega)]; done) | (rw [entR_1 (by omega)]; rfl) | (rw [entR_2 (by omega) (by omega)]; done) | (rw [entR_2 (by omega) (by omega)]; rfl) | (rw [entR_3 (by omega) (by omega) (by omega)]; done) | (rw [entR_3 (by omega) (by omega) (by omega)]; rfl) | (rw [entR_4 (by omega) (by omega) (by omega) (by omega)]; done) | (rw [entR_4 (by omega) (by omega) (by omega) (by omega)]; rfl) | (rw [entR_5 (by omega) (by omega) (by omega) (by omega) (by rw [Bool.and_eq_false_iff]; first | exact .inl (by assumption) | exact .inr (by assumption))]; done) | (rw [entR_5 (by omega) (by omega) (by omega) (by omega) (by rw [Bool.and_eq_false_iff]; first | exact .inl (by assumption) | exact .inr (by assumption))]; rfl) | (rw [entR_6 (by omega) (by omega) (by omega) (by omega) (by rw [Bool.and_eq_true]; exact ⟨by assumption, by assumption⟩) (by rw [Bool.and_eq_false_iff]; first | exact .inl (by assumption) | exact .inr (by assumption))]; done) | (rw [entR_6 (by omega) (by omega) (by omega) (by omega) (by rw [Bool.and_eq_true]; exact ⟨by assumption, by assumption⟩) (by rw [Bool.and_eq_false_iff]; first | exact .inl (by assumption) | exact .inr (by assumption))]; rfl) | (rw [entR_7 (by omega) (by omega) (by omega) (by omega) (by rw [Bool.and_eq_true]; exact ⟨by assumption, by assumption⟩) (by rw [Bool.and_eq_true]; exact ⟨by assumption, by assumption⟩)]; done) | (rw [entR_7 (by omega) (by omega) (by omega) (by omega) (by rw [Bool.and_eq_true]; exact ⟨by assumption, by assumption⟩) (by rw [Bool.and_eq_true]; exact ⟨by assumption, by assumption⟩)]; rfl), by first | (rw [entR_1 (by omega)]; done) | (rw [entR_1 (by omega)]; rfl) | (rw [entR_2 (by omega) (by omega)]; done) | (rw [entR_2 (by omega) (by omega)]; rfl) | (rw [entR_3 (by omega) (by omega) (by omega)]; done) | (rw [entR_3 (by omega) (by omega) (by omega)]; rfl) | (rw [entR_4 (by omega) (by omega) (by omega) (by omega)]; done) | (rw [entR_4 (by omega) (by omega) (by omega) (by omega)]; rfl) | (rw [entR_5 (by omega) (by omega) (by omega) (by omega) (by rw [Bool.and_eq_false_iff]; first | exact .inl (by assumption) | exact .inr (by assumption))]; done) | (rw [entR_5 (by omega) (by omega) (by omega) (by omega) (by rw [Bool.and_eq_false_iff]; first | exact .inl (by assumption) | exact .inr (by assumption))]; rfl) | (rw [entR_6 (by omega) (by omega) (by omega) (by omega) (by rw [Bool.and_eq_true]; exact ⟨by assumption, by assumption⟩) (by rw [Bool.and_eq_false_iff]; first | exact .inl (by assumption) | exact .inr (by assumption))]; done) | (rw [entR_6 (by omega) (by omega) (by omega) (by omega) (by rw [Bool.and_eq_true]; exact ⟨by assumption, by assumption⟩) (by rw [Bool.and_eq_false_iff]; first | exact .inl (by assumption) | exact .inr (by assumption))]; rfl) | (rw [entR_7 (by omega) (by omega) (by omega) (by omega) (by rw [Bool.and_eq_true]; exact ⟨by assumption, by assumption⟩) (by rw [Bool.and_eq_true]; exact ⟨by assumption, by assumption⟩)]; done) | (rw [entR_7 (by omega) (by omega) (by omega) (by omega) (by rw [Bool.and_eq_true]; exact ⟨by assumption, by assumption⟩) (by rw [Bool.and_eq_true]; exact ⟨by assumption, by assumption⟩)]; rfl)⟩ ?_)
    exact absW
  refine runTf g'31 ?_
  refine hQ _ _ (end_byG (.inl rfl) hbel (x1 := .tup [.agg [iV 0, iV 0, iV 0, iV 0], iV 0, .sl none 0 (some 0), iV 3]) (l2 := [.cells false 1 []]) (.tup [.agg [iV 0, iV 0, iV 0, iV 0], iV 0, .sl (some (H.length, 0)) 0 (some 0), iV 3]) (resTf @add_nat1 Try.results36) [.cells false 1 []] rfl [5] (by decide) ⟨by first | (rw [entR_1 (by omega)]; done) | (rw [entR_1 (by omega)]; rfl) | (rw [entR_2 (by omega) (by omega)]; done) | (rw [entR_2 (by omega) (by omega)]; rfl) | (rw [entR_3 (by omega) (by omega) (by omega)]; done) | (rw [entR_3 (by omega) (by omega) (by omega)]; rfl) | (rw [entR_4 (by omega) (by omega) (by omega) (by omega)]; done) | (rw [entR_4 (by omega) (by omega) (by omega) (by omega)]; rfl) | (rw [entR_5 (by omega) (by omega) (by omega) (by omega) (by rw [Bool.and_eq_false_iff]; first | exact .inl (by assumption) | exact .inr (by assumption))]; done) | (rw [entR_5 (by omega) (by omega) (by omega) (by omega) (by rw [Bool.and_eq_false_iff]; first | exact .inl (by assumption) | exact .inr (by assumption))]; rfl) | (rw [entR_6 (by omega) (by omega) (by omega) (by omega) (by rw [Bool.and_eq_true]; exact ⟨by assumption, by assumption⟩) (by rw [Bool.and_eq_false_iff]; first | exact .inl (by assumption) | exact .inr (by assumption))]; done) | (rw [entR_6 (by omega) (by omega) (by omega) (by omega) (by rw [Bool.and_eq_true]; exact ⟨by assumption, by assumption⟩) (by rw [Bool.and_eq_false_iff]; first | exact .inl (by assumption) | exact .inr (by assumption))]; rfl) | (rw [entR_7 (by omega) (by omega) (by omega) (by omega) (by rw [Bool.and_eq_true]; exact ⟨by assumption, by assumption⟩) (by rw [Bool.and_eq_true]; exact ⟨by assumption, by assumption⟩)]; done) | (rw [entR_7 (by omega) (by omega) (by omega) (by omega) (by rw [Bool.and_eq_true]; exact ⟨by assumption, by assumption⟩) (by rw [Bool.and_eq_true]; exact ⟨by assumption, by assumption⟩)]; rfl), by first | (rw [entR_1 (by omega)]; done) | (rw [entR_1 (by omega)]; rfl) | (rw [entR_2 (by omega) (by omega)]; done) | (rw [entR_2 (by omega) (by omega)]; rfl) | (rw [entR_3 (by omega) (by omega) (by omega)]; done) | (rw [entR_3 (by omega) (by omega) (by omega)]; rfl) | (rw [entR_4 (by omega) (by omega) (by omega) (by omega)]; done) | (rw [entR_4 (by omega) (by omega) (by omega) (by omega)]; rfl) | (rw [entR_5 (by omega) (by omega) (by omega) (by omega) (by rw [Bool.and_eq_false_iff]; first | exact .inl (by assumption) | exact .inr (by assumption))]; done) | (rw [entR_5 (by omega) (by omega) (by omega) (by omega) (by rw [Bool.and_eq_false_iff]; first | exact .inl (by assumption) | exact .inr (by assumption))]; rfl) | (rw [entR_6 (by omega) (by omega) (by omega) (by omega) (by rw [Bool.and_eq_true]; exact ⟨by assumption, by assumption⟩) (by rw [Bool.and_eq_false_iff]; first | exact .inl (by assumption) | exact .inr (by assumption))]; done) | (rw [entR_6 (by omega) (by omega) (by omega) (by omega) (by rw [Bool.and_eq_true]; exact ⟨by assumption, by assumption⟩) (by rw [Bool.and_eq_false_iff]; first | exact .inl (by assumption) | exact .inr (by assumption))]; rfl) | (rw [entR_7 (by omega) (by omega) (by omega) (by omega) (by rw [Bool.and_eq_true]; exact ⟨by assumption, by assumption⟩) (by rw [Bool.and_eq_true]; exact ⟨by assumption, by assumption⟩)]; done) | (rw [entR_7 (by omega) (by omega) (by omega) (by omega) (by rw [Bool.and_eq_true]; exact ⟨by assumption, by assumption⟩) (by rw [Bool.and_eq_true]; exact ⟨by assumption, by assumption⟩)]; rfl)⟩ ?_)
  exact absW
theorem unpack_c (H : AHeap) (s : AV) (l : List Tl) (hs : Sl H 3 s l.length (tlR l)) (hl : l.length ≤ 1000) (hok : tlOk H l) : ACalls Try.prog 14 [s] H (fun v H' => v = .tup [.sl (some (H.length, 0)) (((unpR l).1).length) (capG ((unpR l).1).length), iV ((unpR l).2)] ∧ H' = H ++ [.cells (ownG ((unpR l).1).length) 4 (r4 ((unpR l).1))]) := by
  obtain ⟨bs, os, cs, rfl, hbs⟩ := hs
  have hbls := getElem?_lt hbs
  have hb0s := fun l => get_app (l := l) hbs
  refine AcT true Try.func14 ?_; intro hbel Q hQ
  have g'1 := (jn @hbs @hb0s)
  refine runTf g'1 ?_
  refine glp (fun k F Hx => ∃ i : Nat, ∃ acc : List T4, i + k = l.length ∧ unpF adA none l [] = unpF adA (pvT l i) (l.drop i) acc ∧ UnpO l i acc ∧ acc.length ≤ 256 * i ∧ F = [(0, .sl (some (bs, 0)) l.length cs), (4, .sl (some (H.length, 0)) acc.length (capG acc.length)), (11, .sl (some (bs, 0)) l.length cs), (12, iV ((l.length : Nat) : Int)), (13, iV ((i : Nat) : Int))] ∧ Hx = H ++ [.cells (ownG acc.length) 4 (r4 acc)]) (l.length) ?_ ?_
  · refine ⟨_, _, _, ⟨0, [], by omega, rfl, UnpO.nil, Nat.le_refl _, rfl, rfl⟩, Abs.byE hbel [.cells false 4 []] rfl [0] (by decide) ?_⟩
    exact absRf (jn @r4_append (jn @r4_cons (jn @r4_nil @mvs_r4)))
  rintro k0 F Hx ⟨i, acc, hm0, hun, hUI, hac, rfl, rfl⟩ J0 hJ0
  have g'2 := (jn @r4_len (jn @r4_one g'1))
  refine rcs g'2 (fun h1 h1d _ => ?_) (fun h1 h1d g'40 => ?_)
  · have hlt : i < l.length := by omega
    obtain ⟨bq, oq, cq, hsq, hbq⟩ := hok.at hlt
    have hblq := getElem?_lt hbq
    have hb0q := fun l' => get_app (l := l') hbq
    have hdl := (hok _ (tlG_mem hlt)).2.1
    have hdB := (hok _ (tlG_mem hlt)).2.2
    have q2 := tlR_p (l := l) (j := i) (by omega) hsq
    have g'3 := (jn h1 (jn h1d (jn @tlR_len (jn q2 g'2))))
    refine rgs g'3 (fun h3 h3d _ => ?_) (fun h3 h3d g'23 => ?_)
    · have hsfj : ((((i : Nat) : Int) - 1).toNat : Nat) < l.length := by omega
      have q4 := tlR_at0 (l := l) (j := (((i : Nat) : Int) - 1).toNat) (by omega)
      have q5 := tlR_at1 (l := l) (j := (((i : Nat) : Int) - 1).toNat) (by omega)
      have g'4 := (jn h3 (jn h3d (jn @hsfj (jn q4 (jn q5 g'3)))))
      refine runTf g'4 ?_
      refine cd (byrow_c _ _ _ _ _) ?_
      refine rgs g'4 (fun h6 h6d g'5 => ?_) (fun h6 h6d g'22 => ?_)
      · have hpo : okP l i := okP_of (j := (((i : Nat) : Int) - 1).toNat) (by omega) h6d
        refine runTf g'5 ?_
        refine cd (tsize_c _ _ _ (by decide)) ?_
        refine rgs g'5 (fun h7 h7d g'6 => ?_) (fun h7 h7d g'21 => ?_)
        · have hwx := within_iff.1 h7d
          have hwxb := h7d
          refine runTf g'6 ?_
          refine cd (tsize_c _ _ _ (by decide)) ?_
          refine rcs g'6 (fun h8 h8d g'7 => ?_) (fun h8 h8d g'8 => ?_)
          · have hfin : unpR l = ([], 1) := by unfold unpR; rw [unp_1 hun hlt (okT_3 h8d)]; rfl
            refine runTf g'7 ?_
            refine hQ _ _ (end_byG (.inl rfl) hbel (x1 := .tup [.sl none 0 (some 0), iV 1]) (l2 := [.cells false 4 []]) (.tup [.sl (some (H.length, 0)) 0 (some 0), iV 1]) (resT Try.results14) [.cells false 4 []] rfl [2] (by decide) ⟨by first | (rw [hfin]; done) | (rw [hfin]; rfl) | (rw [hfin]; simp only [srtE_len]; done) | (rw [hfin]; simp only [srtE_len]; rfl), by first | (rw [hfin]; done) | (rw [hfin]; rfl) | (rw [hfin]; simp only [srtE_len]; done) | (rw [hfin]; simp only [srtE_len]; rfl)⟩ ?_)
            exact absWf @mvs_r4
          have hwy := within_iff.1 h8d
          have hok2 := okT_4 hpo hwxb h8d
          have hU0 := hUI.inn hpo
          refine rcs g'8 (fun h9 h9d _ => ?_) (fun h9 h9d _ => ?_)
          · have h9n := bnT h9
            have hfin : unpR l = ([], 3) := by unfold unpR; rw [unp_3 hun hlt hok2 (List.eq_nil_of_length_eq_zero (by omega))]; rfl
            have g'9 := (jn h9 (jn h9n (jn @int_bne (jn @int_beq g'8))))
            refine runTf g'9 ?_
            refine hQ _ _ (end_byG (.inl rfl) hbel (x1 := .tup [.sl none 0 (some 0), iV 3]) (l2 := [.cells false 4 []]) (.tup [.sl (some (H.length, 0)) 0 (some 0), iV 3]) (resT Try.results14) [.cells false 4 []] rfl [2] (by decide) ⟨by first | (rw [hfin]; done) | (rw [hfin]; rfl) | (rw [hfin]; simp only [srtE_len]; done) | (rw [hfin]; simp only [srtE_len]; rfl), by first | (rw [hfin]; done) | (rw [hfin]; rfl) | (rw [hfin]; simp only [srtE_len]; done) | (rw [hfin]; simp only [srtE_len]; rfl)⟩ ?_)
            exact absWf @mvs_r4
          have h9n := bnT h9
          have hdn : (tlG l i).d ≠ [] := fun e => by rw [e] at h9d; exact h9d rfl
          have g'10 := (jn h9 (jn h9n (jn @int_bne (jn @int_beq g'8))))
          refine runTf g'10 ?_
          refine glp (fun k F Hx => ∃ c : Nat, ∃ nx : Nat, ∃ fu : Nat, ∃ q : List Int, ∃ ac : List T4, k = q.length ∧ (c = 0 → q = (tlG l i).d) ∧ tlE adA (tlG l i).x (tlG l i).y (tlG l i).d.length 0 (tlG l i).d acc = tlE adA (tlG l i).x (tlG l i).y fu nx q ac ∧ q.length ≤ fu ∧ UnpI (tlG l i).x (tlG l i).y nx ac ∧ nx ≤ 256 ∧ ac.length ≤ 256 * i + nx ∧ (∀ z ∈ q, 0 ≤ z ∧ z ≤ 255) ∧ q.length ≤ 1000000000 ∧ F = [(0, .sl (some (bs, 0)) l.length cs), (4, .sl (some (H.length + 1, 0)) ac.length (capG ac.length)), (6, .ptr (some (H.length, 0))), (7, iV ((nx : Nat) : Int)), (8, .sl (some (fl c bq (H.length + 2), 0)) q.length none), (11, .sl (some (bs, 0)) l.length cs), (12, iV ((l.length : Nat) : Int)), (13, iV ((i : Nat) : Int))] ∧ Hx = H ++ [.cells true 0 [iV ((tlG l i).x), iV ((tlG l i).y), .sl (some (bq, 0)) ((tlG l i).d.length) cq], .cells (ownG ac.length) 4 (r4 ac), .cells (owg c q.length) 1 (ints .u8 (fqI c q))]) ((tlG l i).d.length) ?_ ?_
          · refine ⟨_, _, _, ⟨0, 0, (tlG l i).d.length, (tlG l i).d, acc, by omega, (fun _ => rfl), rfl, (Nat.le_refl _), hU0, (by omega), (by omega), hdB, hdl, rfl, rfl⟩, Abs.byG hbel [.cells false 1 []] rfl [1, 0, 2] (by decide) ?_⟩
            exact absRf (jn @fl_0 (jn @fqI_0 (jn @owg_0 (jn @r4_append (jn @r4_cons (jn @r4_nil @mvs_r4))))))
          rintro k1 F Hx ⟨c, nx, fu, q, ac, hm1, hq0, htl, hfu, hU, hnx, hal, hBb, hql, rfl, rfl⟩ J1 hJ1
          obtain rfl | ⟨c0, rfl⟩ : c = 0 ∨ ∃ c0, c = c0 + 1 := by cases c; exact .inl rfl; exact .inr ⟨_, rfl⟩
          · obtain rfl : (tlG l i).d = q := (hq0 rfl).symm
            have g'11 := (jn @ints_len (jn @ints_ones (jn @fl_0 (jn @fqI_0 (jn @owg_0 g'10)))))
            refine rcs g'11 (fun h10 h10d g'12 => ?_) (fun h10 h10d g'15 => ?_)
            · refine runTf g'12 ?_
              refine cv (entry_c _ _ _ _ ((tlG l i).d) nx _ ((tlG l i).d) (⟨_, _, _, rfl, by first | exact hb0q _ | exact hbq⟩) (⟨_, _, _, rfl, by first | exact hb0q _ | exact hbq⟩) hBb (by omega) (by omega) (by omega) (by omega)) ?_
              refine rcs g'12 (fun h11 h11d _ => ?_) (fun h11 h11d _ => ?_)
              · have h11n := bnT h11
                have hfin : unpR l = ([], (entR (tlG l i).x (tlG l i).y nx (tlG l i).d).2.2.2) := by unfold unpR; rw [unp_e hun hlt hok2 hdn (htl.trans (tlE_e hfu (by omega) h11d)) h11d]; rfl
                have g'13 := j2 h11 h11n g'12
                refine runTf g'13 ?_
                refine hQ _ _ (end_byG (.inl rfl) hbel (x1 := .tup [.sl none 0 (some 0), iV ((entR ((tlG l i).x) ((tlG l i).y) nx ((tlG l i).d)).2.2.2)]) (l2 := [.cells false 4 []]) (.tup [.sl (some (H.length, 0)) 0 (some 0), iV ((entR ((tlG l i).x) ((tlG l i).y) nx ((tlG l i).d)).2.2.2)]) (resT Try.results14) [.cells false 4 []] rfl [5] (by decide) ⟨by first | (rw [hfin]; done) | (rw [hfin]; rfl) | (rw [hfin]; simp only [srtE_len]; done) | (rw [hfin]; simp only [srtE_len]; rfl), by first | (rw [hfin]; done) | (rw [hfin]; rfl) | (rw [hfin]; simp only [srtE_len]; done) | (rw [hfin]; simp only [srtE_len]; rfl)⟩ ?_)
                exact absWf @mvs_r4
              have h11n := bnT h11
              obtain ⟨n, hn1, hn2, hn3, hn4, hn5, hn6, hn7, hn8, -⟩ := entR_ok h11d
              have hts := htl.trans (tlE_s hfu (by omega) h11d)
              have hU2 : UnpI (tlG l i).x (tlG l i).y (n + 1) (ac ++ [(entR (tlG l i).x (tlG l i).y nx (tlG l i).d).1]) := hU.add hn1 hn2 (by rw [hn8]) (by rw [hn8])
              have g'14 := (jn h11 (jn h11n (jn @prs_len (jn @capG_s g'12))))
              refine runTf g'14 ?_
              refine hJ1 _ _ ⟨(entR (tlG l i).x (tlG l i).y nx (tlG l i).d).2.2.1.length, by omega, _, _, _, ⟨0 + 1, (entR (tlG l i).x (tlG l i).y nx (tlG l i).d).2.1, fu - 1, (entR (tlG l i).x (tlG l i).y nx (tlG l i).d).2.2.1, (ac ++ [(entR (tlG l i).x (tlG l i).y nx (tlG l i).d).1]), by omega, (fun h => by omega), hts, (by omega), (by rw [hn3]; exact hU2), (by omega), (by simp only [List.length_append, List.length_cons, List.length_nil]; omega), (suf_B hn4 hBb), (by omega), rfl, rfl⟩, bS hbel [0, 6, 4] (absRf (jn @fl_s (jn @fqI_s (jn @owg_s (jn @fl_1 (jn @r4_append (jn @r4_cons (jn @r4_nil @mvs_r4))))))))⟩
            refine runTf g'15 ?_
            refine hJ0 _ _ ⟨k0 - 1, by omega, _, _, _, ⟨i + 1, ac, by omega, (unp_s hun hlt hok2 hdn (htl.trans (tlE_z (by omega))) rfl), (hU.out hnx), (by omega), rfl, rfl⟩, bS hbel [1] (absRf (jn @r4_append (jn @r4_cons (jn @r4_nil @mvs_r4))))⟩
          have g'16 := (jn @ints_len (jn @ints_ones (jn @fl_s (jn @fqI_s (jn @owg_s g'10)))))
          refine rcs g'16 (fun h12 h12d g'17 => ?_) (fun h12 h12d g'20 => ?_)
          · refine runTf g'17 ?_
            refine cv (entry_c _ _ _ _ ((tlG l i).d) nx _ q (⟨_, _, _, rfl, by first | exact hb0q _ | exact hbq⟩) (slA) hBb (by omega) (by omega) (by omega) (by omega)) ?_
            refine rcs g'17 (fun h13 h13d _ => ?_) (fun h13 h13d _ => ?_)
            · have h13n := bnT h13
              have hfin : unpR l = ([], (entR (tlG l i).x (tlG l i).y nx q).2.2.2) := by unfold unpR; rw [unp_e hun hlt hok2 hdn (htl.trans (tlE_e hfu (by omega) h13d)) h13d]; rfl
              have g'18 := j2 h13 h13n g'17
              refine runTf g'18 ?_
              refine hQ _ _ (end_byG (.inl rfl) hbel (x1 := .tup [.sl none 0 (some 0), iV ((entR ((tlG l i).x) ((tlG l i).y) nx q).2.2.2)]) (l2 := [.cells false 4 []]) (.tup [.sl (some (H.length, 0)) 0 (some 0), iV ((entR ((tlG l i).x) ((tlG l i).y) nx q).2.2.2)]) (resT Try.results14) [.cells false 4 []] rfl [5] (by decide) ⟨by first | (rw [hfin]; done) | (rw [hfin]; rfl) | (rw [hfin]; simp only [srtE_len]; done) | (rw [hfin]; simp only [srtE_len]; rfl), by first | (rw [hfin]; done) | (rw [hfin]; rfl) | (rw [hfin]; simp only [srtE_len]; done) | (rw [hfin]; simp only [srtE_len]; rfl)⟩ ?_)
              exact absWf @mvs_r4
            have h13n := bnT h13
            obtain ⟨n, hn1, hn2, hn3, hn4, hn5, hn6, hn7, hn8, -⟩ := entR_ok h13d
            have hts := htl.trans (tlE_s hfu (by omega) h13d)
            have hU2 : UnpI (tlG l i).x (tlG l i).y (n + 1) (ac ++ [(entR (tlG l i).x (tlG l i).y nx q).1]) := hU.add hn1 hn2 (by rw [hn8]) (by rw [hn8])
            have g'19 := (jn h13 (jn h13n (jn @prs_len (jn @capG_s g'17))))
            refine runTf g'19 ?_
            refine hJ1 _ _ ⟨(entR (tlG l i).x (tlG l i).y nx q).2.2.1.length, by omega, _, _, _, ⟨c0 + 1 + 1, (entR (tlG l i).x (tlG l i).y nx q).2.1, fu - 1, (entR (tlG l i).x (tlG l i).y nx q).2.2.1, (ac ++ [(entR (tlG l i).x (tlG l i).y nx q).1]), by omega, (fun h => by omega), hts, (by omega), (by rw [hn3]; exact hU2), (by omega), (by simp only [List.length_append, List.length_cons, List.length_nil]; omega), (suf_B hn4 hBb), (by omega), rfl, rfl⟩, bS hbel [0, 6, 4] (absRf (jn @fl_s (jn @fqI_s (jn @owg_s (jn @fl_1 (jn @r4_append (jn @r4_cons (jn @r4_nil @mvs_r4))))))))⟩
          refine runTf g'20 ?_
          refine hJ0 _ _ ⟨k0 - 1, by omega, _, _, _, ⟨i + 1, ac, by omega, (unp_s hun hlt hok2 hdn (htl.trans (tlE_z (by omega))) rfl), (hU.out hnx), (by omega), rfl, rfl⟩, bS hbel [1] (absRf (jn @r4_append (jn @r4_cons (jn @r4_nil @mvs_r4))))⟩
        have hfin : unpR l = ([], 1) := by unfold unpR; rw [unp_1 hun hlt (okT_2 h7d)]; rfl
        refine runTf g'21 ?_
        refine hQ _ _ (end_byG (.inl rfl) hbel (x1 := .tup [.sl none 0 (some 0), iV 1]) (l2 := [.cells false 4 []]) (.tup [.sl (some (H.length, 0)) 0 (some 0), iV 1]) (resT Try.results14) [.cells false 4 []] rfl [2] (by decide) ⟨by first | (rw [hfin]; done) | (rw [hfin]; rfl) | (rw [hfin]; simp only [srtE_len]; done) | (rw [hfin]; simp only [srtE_len]; rfl), by first | (rw [hfin]; done) | (rw [hfin]; rfl) | (rw [hfin]; simp only [srtE_len]; done) | (rw [hfin]; simp only [srtE_len]; rfl)⟩ ?_)
        exact absWf @mvs_r4
      have hfin : unpR l = ([], 1) := by unfold unpR; rw [unp_1 hun hlt (okT_1 (j := (((i : Nat) : Int) - 1).toNat) (by omega) h6d)]; rfl
      refine runTf g'22 ?_
      refine hQ _ _ (end_byG (.inl rfl) hbel (x1 := .tup [.sl none 0 (some 0), iV 1]) (l2 := [.cells false 4 []]) (.tup [.sl (some (H.length, 0)) 0 (some 0), iV 1]) (resT Try.results14) [.cells false 4 []] rfl [2] (by decide) ⟨by first | (rw [hfin]; done) | (rw [hfin]; rfl) | (rw [hfin]; simp only [srtE_len]; done) | (rw [hfin]; simp only [srtE_len]; rfl), by first | (rw [hfin]; done) | (rw [hfin]; rfl) | (rw [hfin]; simp only [srtE_len]; done) | (rw [hfin]; simp only [srtE_len]; rfl)⟩ ?_)
      exact absWf @mvs_r4
    have hpo : okP l i := fun j hj => by omega
    refine runTf g'23 ?_
    refine cd (tsize_c _ _ _ (by decide)) ?_
    refine rgs g'23 (fun h14 h14d g'24 => ?_) (fun h14 h14d g'39 => ?_)
    · have hwx := within_iff.1 h14d
      have hwxb := h14d
      refine runTf g'24 ?_
      refine cd (tsize_c _ _ _ (by decide)) ?_
      refine rcs g'24 (fun h15 h15d g'25 => ?_) (fun h15 h15d g'26 => ?_)
      · have hfin : unpR l = ([], 1) := by unfold unpR; rw [unp_1 hun hlt (okT_3 h15d)]; rfl
        refine runTf g'25 ?_
        refine hQ _ _ (end_byG (.inl rfl) hbel (x1 := .tup [.sl none 0 (some 0), iV 1]) (l2 := [.cells false 4 []]) (.tup [.sl (some (H.length, 0)) 0 (some 0), iV 1]) (resT Try.results14) [.cells false 4 []] rfl [2] (by decide) ⟨by first | (rw [hfin]; done) | (rw [hfin]; rfl) | (rw [hfin]; simp only [srtE_len]; done) | (rw [hfin]; simp only [srtE_len]; rfl), by first | (rw [hfin]; done) | (rw [hfin]; rfl) | (rw [hfin]; simp only [srtE_len]; done) | (rw [hfin]; simp only [srtE_len]; rfl)⟩ ?_)
        exact absWf @mvs_r4
      have hwy := within_iff.1 h15d
      have hok2 := okT_4 hpo hwxb h15d
      have hU0 := hUI.inn hpo
      refine rcs g'26 (fun h16 h16d _ => ?_) (fun h16 h16d _ => ?_)
      · have h16n := bnT h16
        have hfin : unpR l = ([], 3) := by unfold unpR; rw [unp_3 hun hlt hok2 (List.eq_nil_of_length_eq_zero (by omega))]; rfl
        have g'27 := (jn h16 (jn h16n (jn @int_bne (jn @int_beq g'26))))
        refine runTf g'27 ?_
        refine hQ _ _ (end_byG (.inl rfl) hbel (x1 := .tup [.sl none 0 (some 0), iV 3]) (l2 := [.cells false 4 []]) (.tup [.sl (some (H.length, 0)) 0 (some 0), iV 3]) (resT Try.results14) [.cells false 4 []] rfl [2] (by decide) ⟨by first | (rw [hfin]; done) | (rw [hfin]; rfl) | (rw [hfin]; simp only [srtE_len]; done) | (rw [hfin]; simp only [srtE_len]; rfl), by first | (rw [hfin]; done) | (rw [hfin]; rfl) | (rw [hfin]; simp only [srtE_len]; done) | (rw [hfin]; simp only [srtE_len]; rfl)⟩ ?_)
        exact absWf @mvs_r4
      have h16n := bnT h16
      have hdn : (tlG l i).d ≠ [] := fun e => by rw [e] at h16d; exact h16d rfl
      have g'28 := (jn h16 (jn h16n (jn @int_bne (jn @int_beq g'26))))
      refine runTf g'28 ?_
      refine glp (fun k F Hx => ∃ c : Nat, ∃ nx : Nat, ∃ fu : Nat, ∃ q : List Int, ∃ ac : List T4, k = q.length ∧ (c = 0 → q = (tlG l i).d) ∧ tlE adA (tlG l i).x (tlG l i).y (tlG l i).d.length 0 (tlG l i).d acc = tlE adA (tlG l i).x (tlG l i).y fu nx q ac ∧ q.length ≤ fu ∧ UnpI (tlG l i).x (tlG l i).y nx ac ∧ nx ≤ 256 ∧ ac.length ≤ 256 * i + nx ∧ (∀ z ∈ q, 0 ≤ z ∧ z ≤ 255) ∧ q.length ≤ 1000000000 ∧ F = [(0, .sl (some (bs, 0)) l.length cs), (4, .sl (some (H.length + 1, 0)) ac.length (capG ac.length)), (6, .ptr (some (H.length, 0))), (7, iV ((nx : Nat) : Int)), (8, .sl (some (fl c bq (H.length + 2), 0)) q.length none), (11, .sl (some (bs, 0)) l.length cs), (12, iV ((l.length : Nat) : Int)), (13, iV ((i : Nat) : Int))] ∧ Hx = H ++ [.cells true 0 [iV ((tlG l i).x), iV ((tlG l i).y), .sl (some (bq, 0)) ((tlG l i).d.length) cq], .cells (ownG ac.length) 4 (r4 ac), .cells (owg c q.length) 1 (ints .u8 (fqI c q))]) ((tlG l i).d.length) ?_ ?_
      · refine ⟨_, _, _, ⟨0, 0, (tlG l i).d.length, (tlG l i).d, acc, by omega, (fun _ => rfl), rfl, (Nat.le_refl _), hU0, (by omega), (by omega), hdB, hdl, rfl, rfl⟩, Abs.byG hbel [.cells false 1 []] rfl [1, 0, 2] (by decide) ?_⟩
        exact absRf (jn @fl_0 (jn @fqI_0 (jn @owg_0 (jn @r4_append (jn @r4_cons (jn @r4_nil @mvs_r4))))))
      rintro k1 F Hx ⟨c, nx, fu, q, ac, hm1, hq0, htl, hfu, hU, hnx, hal, hBb, hql, rfl, rfl⟩ J1 hJ1
      obtain rfl | ⟨c0, rfl⟩ : c = 0 ∨ ∃ c0, c = c0 + 1 := by cases c; exact .inl rfl; exact .inr ⟨_, rfl⟩
      · obtain rfl : (tlG l i).d = q := (hq0 rfl).symm
        have g'29 := (jn @ints_len (jn @ints_ones (jn @fl_0 (jn @fqI_0 (jn @owg_0 g'28)))))
        refine rcs g'29 (fun h17 h17d g'30 => ?_) (fun h17 h17d g'33 => ?_)
        · refine runTf g'30 ?_
          refine cv (entry_c _ _ _ _ ((tlG l i).d) nx _ ((tlG l i).d) (⟨_, _, _, rfl, by first | exact hb0q _ | exact hbq⟩) (⟨_, _, _, rfl, by first | exact hb0q _ | exact hbq⟩) hBb (by omega) (by omega) (by omega) (by omega)) ?_
          refine rcs g'30 (fun h18 h18d _ => ?_) (fun h18 h18d _ => ?_)
          · have h18n := bnT h18
            have hfin : unpR l = ([], (entR (tlG l i).x (tlG l i).y nx (tlG l i).d).2.2.2) := by unfold unpR; rw [unp_e hun hlt hok2 hdn (htl.trans (tlE_e hfu (by omega) h18d)) h18d]; rfl
            have g'31 := j2 h18 h18n g'30
            refine runTf g'31 ?_
            refine hQ _ _ (end_byG (.inl rfl) hbel (x1 := .tup [.sl none 0 (some 0), iV ((entR ((tlG l i).x) ((tlG l i).y) nx ((tlG l i).d)).2.2.2)]) (l2 := [.cells false 4 []]) (.tup [.sl (some (H.length, 0)) 0 (some 0), iV ((entR ((tlG l i).x) ((tlG l i).y) nx ((tlG l i).d)).2.2.2)]) (resT Try.results14) [.cells false 4 []] rfl [5] (by decide) ⟨by first | (rw [hfin]; done) | (rw [hfin]; rfl) | (rw [hfin]; simp only [srtE_len]; done) | (rw [hfin]; simp only [srtE_len]; rfl), by first | (rw [hfin]; done) | (rw [hfin]; rfl) | (rw [hfin]; simp only [srtE_len]; done) | (rw [hfin]; simp only [srtE_len]; rfl)⟩ ?_)
            exact absWf @mvs_r4
          have h18n := bnT h18
          obtain ⟨n, hn1, hn2, hn3, hn4, hn5, hn6, hn7, hn8, -⟩ := entR_ok h18d
          have hts := htl.trans (tlE_s hfu (by omega) h18d)
          have hU2 : UnpI (tlG l i).x (tlG l i).y (n + 1) (ac ++ [(entR (tlG l i).x (tlG l i).y nx (tlG l i).d).1]) := hU.add hn1 hn2 (by rw [hn8]) (by rw [hn8])
          have g'32 := (jn h18 (jn h18n (jn @prs_len (jn @capG_s g'30))))
          refine runTf g'32 ?_
          refine hJ1 _ _ ⟨(entR (tlG l i).x (tlG l i).y nx (tlG l i).d).2.2.1.length, by omega, _, _, _, ⟨0 + 1, (entR (tlG l i).x (tlG l i).y nx (tlG l i).d).2.1, fu - 1, (entR (tlG l i).x (tlG l i).y nx (tlG l i).d).2.2.1, (ac ++ [(entR (tlG l i).x (tlG l i).y nx (tlG l i).d).1]), by omega, (fun h => by omega), hts, (by omega), (by rw [hn3]; exact hU2), (by omega), (by simp only [List.length_append, List.length_cons, List.length_nil]; omega), (suf_B hn4 hBb), (by omega), rfl, rfl⟩, bS hbel [0, 6, 4] (absRf (jn @fl_s (jn @fqI_s (jn @owg_s (jn @fl_1 (jn @r4_append (jn @r4_cons (jn @r4_nil @mvs_r4))))))))⟩
        refine runTf g'33 ?_
        refine hJ0 _ _ ⟨k0 - 1, by omega, _, _, _, ⟨i + 1, ac, by omega, (unp_s hun hlt hok2 hdn (htl.trans (tlE_z (by omega))) rfl), (hU.out hnx), (by omega), rfl, rfl⟩, bS hbel [1] (absRf (jn @r4_append (jn @r4_cons (jn @r4_nil @mvs_r4))))⟩
      have g'34 := (jn @ints_len (jn @ints_ones (jn @fl_s (jn @fqI_s (jn @owg_s g'28)))))
      refine rcs g'34 (fun h19 h19d g'35 => ?_) (fun h19 h19d g'38 => ?_)
      · refine runTf g'35 ?_
        refine cv (entry_c _ _ _ _ ((tlG l i).d) nx _ q (⟨_, _, _, rfl, by first | exact hb0q _ | exact hbq⟩) (slA) hBb (by omega) (by omega) (by omega) (by omega)) ?_
        refine rcs g'35 (fun h20 h20d _ => ?_) (fun h20 h20d _ => ?_)
        · have h20n := bnT h20
          have hfin : unpR l = ([], (entR (tlG l i).x (tlG l i).y nx q).2.2.2) := by unfold unpR; rw [unp_e hun hlt hok2 hdn (htl.trans (tlE_e hfu (by omega) h20d)) h20d]; rfl
          have g'36 := j2 h20 h20n g'35
          refine runTf g'36 ?_
          refine hQ _ _ (end_byG (.inl rfl) hbel (x1 := .tup [.sl none 0 (some 0), iV ((entR ((tlG l i).x) ((tlG l i).y) nx q).2.2.2)]) (l2 := [.cells false 4 []]) (.tup [.sl (some (H.length, 0)) 0 (some 0), iV ((entR ((tlG l i).x) ((tlG l i).y) nx q).2.2.2)]) (resT Try.results14) [.cells false 4 []] rfl [5] (by decide) ⟨by first | (rw [hfin]; done) | (rw [hfin]; rfl) | (rw [hfin]; simp only [srtE_len]; done) | (rw [hfin]; simp only [srtE_len]; rfl), by first | (rw [hfin]; done) | (rw [hfin]; rfl) | (rw [hfin]; simp only [srtE_len]; done) | (rw [hfin]; simp only [srtE_len]; rfl)⟩ ?_)
          exact absWf @mvs_r4
        have h20n := bnT h20
        obtain ⟨n, hn1, hn2, hn3, hn4, hn5, hn6, hn7, hn8, -⟩ := entR_ok h20d
        have hts := htl.trans (tlE_s hfu (by omega) h20d)
        have hU2 : UnpI (tlG l i).x (tlG l i).y (n + 1) (ac ++ [(entR (tlG l i).x (tlG l i).y nx q).1]) := hU.add hn1 hn2 (by rw [hn8]) (by rw [hn8])
        have g'37 := (jn h20 (jn h20n (jn @prs_len (jn @capG_s g'35))))
        refine runTf g'37 ?_
        refine hJ1 _ _ ⟨(entR (tlG l i).x (tlG l i).y nx q).2.2.1.length, by omega, _, _, _, ⟨c0 + 1 + 1, (entR (tlG l i).x (tlG l i).y nx q).2.1, fu - 1, (entR (tlG l i).x (tlG l i).y nx q).2.2.1, (ac ++ [(entR (tlG l i).x (tlG l i).y nx q).1]), by omega, (fun h => by omega), hts, (by omega), (by rw [hn3]; exact hU2), (by omega), (by simp only [List.length_append, List.length_cons, List.length_nil]; omega), (suf_B hn4 hBb), (by omega), rfl, rfl⟩, bS hbel [0, 6, 4] (absRf (jn @fl_s (jn @fqI_s (jn @owg_s (jn @fl_1 (jn @r4_append (jn @r4_cons (jn @r4_nil @mvs_r4))))))))⟩
      refine runTf g'38 ?_
      refine hJ0 _ _ ⟨k0 - 1, by omega, _, _, _, ⟨i + 1, ac, by omega, (unp_s hun hlt hok2 hdn (htl.trans (tlE_z (by omega))) rfl), (hU.out hnx), (by omega), rfl, rfl⟩, bS hbel [1] (absRf (jn @r4_append (jn @r4_cons (jn @r4_nil @mvs_r4))))⟩
    have hfin : unpR l = ([], 1) := by unfold unpR; rw [unp_1 hun hlt (okT_2 h14d)]; rfl
    refine runTf g'39 ?_
    refine hQ _ _ (end_byG (.inl rfl) hbel (x1 := .tup [.sl none 0 (some 0), iV 1]) (l2 := [.cells false 4 []]) (.tup [.sl (some (H.length, 0)) 0 (some 0), iV 1]) (resT Try.results14) [.cells false 4 []] rfl [2] (by decide) ⟨by first | (rw [hfin]; done) | (rw [hfin]; rfl) | (rw [hfin]; simp only [srtE_len]; done) | (rw [hfin]; simp only [srtE_len]; rfl), by first | (rw [hfin]; done) | (rw [hfin]; rfl) | (rw [hfin]; simp only [srtE_len]; done) | (rw [hfin]; simp only [srtE_len]; rfl)⟩ ?_)
    exact absWf @mvs_r4
  have hdz : l.drop i = [] := List.drop_of_length_le (by omega)
  have hnd := hUI.nd
  have hfin : unpR l = (srtE acc, 0) := by unfold unpR; rw [hun, hdz]; rfl
  refine rcs g'40 (fun h21 h21d _ => ?_) (fun h21 h21d g'41 => ?_)
  · omega
  refine runTf g'41 ?_
  refine cvr g'41 (sortu_k _ _ _ _ acc [] (by rw [List.append_nil]; first | rfl | (simp; done)) (fun h => ownG_p h) hnd (by omega)) ?_
  refine hQ _ _ (end_byG (.inl rfl) hbel (x1 := .tup [.sl (some (H.length, 0)) acc.length (capG acc.length), iV 0]) (l2 := [.cells (ownG acc.length) 4 (r4 (srtE acc))]) (.tup [.sl (some (H.length, 0)) acc.length (capG acc.length), iV 0]) (resT Try.results14) [] rfl [0] (by decide) ⟨by first | (rw [hfin]; done) | (rw [hfin]; rfl) | (rw [hfin]; simp only [srtE_len]; done) | (rw [hfin]; simp only [srtE_len]; rfl), by first | (rw [hfin]; done) | (rw [hfin]; rfl) | (rw [hfin]; simp only [srtE_len]; done) | (rw [hfin]; simp only [srtE_len]; rfl)⟩ ?_)
  exact absWf @mvs_r4
theorem tlOk.app {H : AHeap} {l : List Tl} (h : tlOk H l) (L : AHeap) : tlOk (H ++ L) l := fun e he => ⟨(h e he).1.app L, (h e he).2⟩
/-- The entry of a cell, of what has been unpacked. -/
def getR (r : List T4 × Int) (x y : Int) : T4 × Int := if r.2 = 0 then (atE r.1 x y, 0) else ((0, 0, 0, 0), r.2)
theorem tget_c (H : AHeap) (s : AV) (l : List Tl) (x y : Int) (hs : Sl H 3 s l.length (tlR l)) (hl : l.length ≤ 1000) (hok : tlOk H l) : ACalls Try.prog 24 [s, .agg [iV x, iV y]] H (fun v H' => v = .tup [.agg [iV (((getR (unpR l) x y).1).1), iV (((getR (unpR l) x y).1).2.1), iV (((getR (unpR l) x y).1).2.2.1), iV (((getR (unpR l) x y).1).2.2.2)], iV ((getR (unpR l) x y).2)] ∧ H' = H) := by
  obtain ⟨bs, os, cs, rfl, hbs⟩ := hs
  have hbls := getElem?_lt hbs
  have hb0s := fun l => get_app (l := l) hbs
  have hvu := unp_vld (ts := l) (by omega)
  have hvv := vldE_iff.2 hvu.1
  have hlu := hvu.2
  refine AcT true Try.func24 ?_; intro hbel Q hQ
  have g'1 := (jn @hbs @hb0s)
  refine runTf g'1 ?_
  refine cv (unpack_c _ _ l (⟨_, _, _, rfl, by first | exact hb0s _ | exact hbs⟩) (by omega) (by first | assumption | exact tlOk.app (by assumption) _)) ?_
  refine rcs g'1 (fun h1 h1d _ => ?_) (fun h1 h1d _ => ?_)
  · have h1n := bnT h1
    have hfin : getR (unpR l) x y = ((0, 0, 0, 0), (unpR l).2) := by unfold getR; rw [if_neg h1d]
    have g'2 := (jn h1 (jn h1n (jn @int_bne (jn @int_beq g'1))))
    exact eR g'2 hQ hbel (.tup [.agg [iV 0, iV 0, iV 0, iV 0], iV ((unpR l).2)]) Try.results24 ⟨by rw [hfin], rfl⟩
  have h1n := bnT h1
  have hfin : getR (unpR l) x y = (atE (unpR l).1 x y, 0) := by unfold getR; rw [if_pos h1d]
  have g'3 := (jn h1 (jn h1n (jn @int_bne (jn @int_beq g'1))))
  refine runTf g'3 ?_
  refine cvr g'3 (eat_c _ _ ((unpR l).1) x y (slA) (by omega) (by assumption)) ?_
  exact eP hQ hbel (.tup [.agg [iV ((atE ((unpR l).1) x y).1), iV ((atE ((unpR l).1) x y).2.1), iV ((atE ((unpR l).1) x y).2.2.1), iV ((atE ((unpR l).1) x y).2.2.2)], iV 0]) Try.results24 ⟨by rw [hfin], rfl⟩
/-- What Merge gives, by its Unpack. -/
def merX (un : List Tl → List T4 × Int) (ad : List T4 → List T4 → List T4 × Int) (a b : List Tl) : List (Int × Int × List Int) × Int :=
  if (un a).2 ≠ 0 then ([], (un a).2) else if (un b).2 ≠ 0 then ([], (un b).2) else if (ad (un a).1 (un b).1).2 ≠ 0 then ([], (ad (un a).1 (un b).1).2) else (packL (ad (un a).1 (un b).1).1, 0)
theorem hbel_r4 {H : AHeap} {l : List T4} {o : Bool} (h : HBel H.length H) : HBel (H ++ [ABlk.cells o 4 (r4 l)]).length (H ++ [ABlk.cells o 4 (r4 l)]) :=
  (h.up (by simp)).app (fun x hx => by rw [List.mem_singleton.1 hx]; exact bels_r4)
theorem hbel_r42 {H : AHeap} {l m : List T4} {o p : Bool} (h : HBel H.length H) : HBel (H ++ [ABlk.cells o 4 (r4 l), ABlk.cells p 4 (r4 m)]).length (H ++ [ABlk.cells o 4 (r4 l), ABlk.cells p 4 (r4 m)]) := by
  have := hbel_r4 (l := m) (o := p) (hbel_r4 (l := l) (o := o) h)
  rwa [List.append_assoc] at this
theorem hbel_r43 {H : AHeap} {l m k : List T4} {o p q : Bool} (h : HBel H.length H) : HBel (H ++ [ABlk.cells o 4 (r4 l), ABlk.cells p 4 (r4 m), ABlk.cells q 4 (r4 k)]).length (H ++ [ABlk.cells o 4 (r4 l), ABlk.cells p 4 (r4 m), ABlk.cells q 4 (r4 k)]) := by
  have := hbel_r4 (l := k) (o := q) (hbel_r42 (l := l) (o := o) (m := m) (p := p) h)
  rwa [List.append_assoc] at this
theorem tmrg_c (H : AHeap) (s : AV) (a : List Tl) (r : AV) (b : List Tl) (hs : Sl H 3 s a.length (tlR a)) (hr : Sl H 3 r b.length (tlR b)) (hl : a.length ≤ 1000) (hl2 : b.length ≤ 1000) (hok : tlOk H a) (hok2 : tlOk H b) (hla : (unpR a).1.length ≤ 30000) (hlb : (unpR b).1.length ≤ 30000) : ACalls Try.prog 20 [s, r] H (fun v H' => ∃ w, v = .tup [w, .int .i64 (merX unpR comR a b).2] ∧ TAt H (merX unpR comR a b).1 w H') := by
  obtain ⟨bs, os, cs, rfl, hbs⟩ := hs
  obtain ⟨br, or, cr, rfl, hbr⟩ := hr
  have hbls := getElem?_lt hbs
  have hb0s := fun l => get_app (l := l) hbs
  have hblr := getElem?_lt hbr
  have hb0r := fun l => get_app (l := l) hbr
  have hva := unp_vld (ts := a) (by omega)
  have hvb := unp_vld (ts := b) (by omega)
  refine AcT true Try.func20 ?_; intro hbel Q hQ
  have g'1 := (jn @hbs (jn @hb0s (jn @hbr @hb0r)))
  refine runTf g'1 ?_
  refine cv (unpack_c _ _ a (⟨_, _, _, rfl, by first | exact hb0s _ | exact hbs⟩) (by omega) (by first | assumption | exact tlOk.app (by assumption) _)) ?_
  refine rcs g'1 (fun h1 h1d _ => ?_) (fun h1 h1d _ => ?_)
  · have h1n := bnT h1
    have g'2 := (jn h1 (jn h1n (jn @int_bne (jn @int_beq g'1))))
    refine runTf g'2 ?_
    exact hQ _ _ (end_tnil rfl (hbel_r4 hbel) [.int .i64 (unpR a).2] rfl (resT Try.results20) fun w H' hT => ⟨w, by rw [merX, if_pos h1d], by rw [merX, if_pos h1d]; exact hT⟩)
  have h1n := bnT h1
  have g'3 := (jn h1 (jn h1n (jn @int_bne (jn @int_beq g'1))))
  refine runTf g'3 ?_
  refine cv (unpack_c _ _ b (⟨_, _, _, rfl, by first | exact hb0r _ | exact hbr⟩) (by omega) (by first | assumption | exact tlOk.app (by assumption) _)) ?_
  refine rcs g'3 (fun h2 h2d _ => ?_) (fun h2 h2d _ => ?_)
  · have h2n := bnT h2
    have g'4 := j2 h2 h2n g'3
    refine runTf g'4 ?_
    exact hQ _ _ (end_tnil rfl (hbel_r42 hbel) [.int .i64 (unpR b).2] rfl (resT Try.results20) fun w H' hT => ⟨w, by rw [merX, if_neg (not_not_intro h1d), if_pos h2d], by rw [merX, if_neg (not_not_intro h1d), if_pos h2d]; exact hT⟩)
  have h2n := bnT h2
  have g'5 := j2 h2 h2n g'3
  refine runTf g'5 ?_
  refine cv (eadd_c _ _ (unpR a).1 _ (unpR b).1 (slA) (slA) (by omega) (by omega)) ?_
  refine rcs g'5 (fun h3 h3d _ => ?_) (fun h3 h3d _ => ?_)
  · have h3n := bnT h3
    have g'6 := j2 h3 h3n g'5
    refine runTf g'6 ?_
    exact hQ _ _ (end_tnil rfl (hbel_r43 hbel) [.int .i64 (comR (unpR a).1 (unpR b).1).2] rfl (resT Try.results20) fun w H' hT => ⟨w, by rw [merX, if_neg (not_not_intro h1d), if_neg (not_not_intro h2d), if_pos h3d], by rw [merX, if_neg (not_not_intro h1d), if_neg (not_not_intro h2d), if_pos h3d]; exact hT⟩)
  have h3n := bnT h3
  have hvc := com_vld (a := (unpR a).1) (b := (unpR b).1) (by omega) h3d
  have hlc := hvc.2
  have g'7 := j2 h3 h3n g'5
  refine runTf g'7 ?_
  refine call_of (by kernel_rfl) (pack_c _ _ (comR (unpR a).1 (unpR b).1).1 (slA) (by omega) (vldE_iff.2 hvc.1)) ?_
  intro w H' hT
  refine runTf g'7 ?_
  exact hQ _ _ (end_tat (TAt.up hT) [.int .i64 0] rfl (resT Try.results20) ⟨w, by rw [merX, if_neg (not_not_intro h1d), if_neg (not_not_intro h2d), if_neg (not_not_intro h3d)], by rw [merX, if_neg (not_not_intro h1d), if_neg (not_not_intro h2d), if_neg (not_not_intro h3d)]; exact TAt.up hT⟩)
def bys (xs : List Int) : List UInt8 := xs.map fun n => UInt8.ofNat n.toNat
theorem bys_map : ∀ xs : List Int, (ints .u8 xs).mapM byteOf = some (bys xs)
  | [] => rfl
  | x :: xs => by
    have ih := bys_map xs
    show (AV.int .u8 x :: ints .u8 xs).mapM byteOf = _
    rw [List.mapM_cons, ih]
    rfl
theorem need_pos {p : Prop} [Decidable p] (h : p) : need p = some () := by unfold need; rw [if_pos h]
theorem ints_all0 {k : IntKind} {l : List Int} : (ints k l).take (l.length * 1) = ints k l := List.take_of_length_le (by rw [ints_len]; omega)
/-- A slice of bytes, as a text. -/
theorem conv_bytes {H : AHeap} {b : Nat} {o : Bool} {c : Option Nat} {xs : List Int} (hb : H[b]? = some (.cells o 1 (ints .u8 xs))) : aConv Try.prog 49 9 (.sl (some (b, 0)) xs.length c) H = some (.str (bys xs)) := by
  have h1 := bys_map xs
  have he : aElems 1 (.sl (some (b, 0)) xs.length c) H = some (xs.length, ints .u8 xs) := by
    unfold aElems ards
    simp only [hb]
    rw [List.drop_zero, ints_all0, if_pos (by rw [ints_len]; omega)]
    rfl
  unfold aConv
  simp only [tElem49, Option.bind_some]
  rw [need_pos ⟨tInt5, by kernel_rfl⟩, Option.bind_some, he, Option.bind_some]
  simp only [h1, Option.map_some]
theorem bys_eq : ∀ {xs ys : List Int}, (∀ c ∈ xs, 0 ≤ c ∧ c ≤ 255) → (∀ c ∈ ys, 0 ≤ c ∧ c ≤ 255) → ((bys xs == bys ys) = decide (xs = ys)) := by
  intro xs ys hx hy
  have key : ∀ {xs ys : List Int}, (∀ c ∈ xs, 0 ≤ c ∧ c ≤ 255) → (∀ c ∈ ys, 0 ≤ c ∧ c ≤ 255) → bys xs = bys ys → xs = ys := by
    intro xs
    induction xs with
    | nil => intro ys _ _ h; cases ys with
      | nil => rfl
      | cons y ys => simp [bys] at h
    | cons x xs ih =>
      intro ys hx hy h
      cases ys with
      | nil => simp [bys] at h
      | cons y ys =>
        unfold bys at h
        rw [List.map_cons, List.map_cons, List.cons.injEq] at h
        have hx0 := hx x (List.mem_cons_self ..)
        have hy0 := hy y (List.mem_cons_self ..)
        have e := congrArg UInt8.toNat h.1
        rw [UInt8.toNat_ofNat', UInt8.toNat_ofNat'] at e
        have e2 : x = y := by omega
        rw [e2, ih (fun c hc => hx c (List.mem_cons_of_mem _ hc)) (fun c hc => hy c (List.mem_cons_of_mem _ hc)) h.2]
  rw [Bool.eq_iff_iff, beq_iff_eq, decide_eq_true_eq]
  exact ⟨key hx hy, fun h => by rw [h]⟩
set_option maxRecDepth 100000 in
theorem bytes2_c (H : AHeap) (s r : AV) (xs ys : List Int) (hs : Sl H 1 s xs.length (ints .u8 xs)) (hr : Sl H 1 r ys.length (ints .u8 ys)) (hx : ∀ c ∈ xs, 0 ≤ c ∧ c ≤ 255) (hy : ∀ c ∈ ys, 0 ≤ c ∧ c ≤ 255) : ACalls Try.prog 33 [s, r] H (fun v H' => v = .bool (decide (xs = ys)) ∧ H' = H) := by
  obtain ⟨b1, o1, c1, rfl, hb1⟩ := hs
  obtain ⟨b2, o2, c2, rfl, hb2⟩ := hr
  have hc1 := conv_bytes (c := c1) hb1
  have hc2 := conv_bytes (c := c2) hb2
  refine AcT true Try.func33 ?_; intro hbel Q hQ
  simp -implicitDefEqProofs (disch := omega) only [hc1, hc2, simprocAttr, amset, tyset, Function.comp_apply, one1, lenV, calleeOf, lateOk, belowV, aop, AV.ofValue, AV.ofCell, AV.cells, AV.flat, AV.one, arep, aBin, aAppend]
  exact eQ hQ hbel (.bool (bys xs == bys ys)) Try.results33 ⟨by rw [bys_eq hx hy], rfl⟩
theorem tl3_take {l m : List Tl} {i : Nat} (h : i < l.length) (k : i < m.length) (e : (l.take i).map tl3 = (m.take i).map tl3) (ex : (tlG l i).x = (tlG m i).x) (ey : (tlG l i).y = (tlG m i).y) (ed : (tlG l i).d = (tlG m i).d) : (l.take (i + 1)).map tl3 = (m.take (i + 1)).map tl3 := by
  have g : ∀ {n : List Tl} (hn : i < n.length), n[i] = tlG n i := fun hn => by unfold tlG; rw [List.getD_eq_getElem?_getD, List.getElem?_eq_getElem hn]; rfl
  rw [List.take_succ_eq_append_getElem h, List.take_succ_eq_append_getElem k, List.map_append, List.map_append, e, g h, g k]
  simp [tl3, ex, ey, ed]
theorem tl3_ne {l m : List Tl} {i : Nat} (h : i < l.length) (k : i < m.length) (hn : ¬ ((tlG l i).x = (tlG m i).x ∧ (tlG l i).y = (tlG m i).y ∧ (tlG l i).d = (tlG m i).d)) : l.map tl3 ≠ m.map tl3 := fun e => by
  have g : ∀ {n : List Tl} (hn : i < n.length), n[i] = tlG n i := fun hn => by unfold tlG; rw [List.getD_eq_getElem?_getD, List.getElem?_eq_getElem hn]; rfl
  have e1 : (l.map tl3)[i]? = (m.map tl3)[i]? := by rw [e]
  rw [List.getElem?_map, List.getElem?_map, List.getElem?_eq_getElem h, List.getElem?_eq_getElem k, g h, g k] at e1
  simp [tl3] at e1
  exact hn e1
/-- The number of bytes of tiles. -/
def sizL (l : List Tl) : Nat := (l.map fun t => t.d.length).sum
theorem sizL_take {l : List Tl} {i : Nat} (h : i < l.length) : sizL (l.take (i + 1)) = sizL (l.take i) + (tlG l i).d.length := by
  have g : l[i] = tlG l i := by unfold tlG; rw [List.getD_eq_getElem?_getD, List.getElem?_eq_getElem h]; rfl
  unfold sizL
  rw [List.take_succ_eq_append_getElem h, List.map_append, List.sum_append, g]
  simp
theorem sizL_bd {l : List Tl} (h : ∀ e ∈ l, e.d.length ≤ 1000000000) : sizL l ≤ 1000000000 * l.length := by
  induction l with
  | nil => exact Nat.le_refl _
  | cons a l ih =>
    have h1 := h a (List.mem_cons_self ..)
    have h2 := ih fun e he => h e (List.mem_cons_of_mem _ he)
    unfold sizL at h2 ⊢
    simp only [List.map_cons, List.sum_cons, List.length_cons]
    omega
def tlOk0 (H : AHeap) (l : List Tl) : Prop := ∀ e ∈ l, Sl H 1 e.s e.d.length (ints .u8 e.d) ∧ e.d.length ≤ 9223372036854775807 ∧ ∀ c ∈ e.d, 0 ≤ c ∧ c ≤ 255
theorem tlOk0.at {H : AHeap} {l : List Tl} {j : Nat} (k : tlOk0 H l) (h : j < l.length) : ∃ b o c, (tlG l j).s = .sl (some (b, 0)) (tlG l j).d.length c ∧ H[b]? = some (.cells o 1 (ints .u8 (tlG l j).d)) := by
  obtain ⟨b, o, c, e1, e2⟩ := (k _ (tlG_mem h)).1
  exact ⟨b, o, c, e1, e2⟩
theorem add_natT (a b : Nat) : (a : Int) + (b : Int) = ((a + b : Nat) : Int) := rfl
theorem same_c (H : AHeap) (s : AV) (l : List Tl) (r : AV) (m : List Tl) (hs : Sl H 3 s l.length (tlR l)) (hr : Sl H 3 r m.length (tlR m)) (hl : l.length ≤ 100000) (hm : m.length ≤ 100000) (hok : tlOk H l) (hok2 : tlOk H m) : ACalls Try.prog 13 [s, r] H (fun v H' => v = .bool (decide (l.map tl3 = m.map tl3)) ∧ H' = H) := by
  obtain ⟨bs, os, cs, rfl, hbs⟩ := hs
  have hbls := getElem?_lt hbs
  have hb0s := fun l => get_app (l := l) hbs
  obtain ⟨br, or, cr, rfl, hbr⟩ := hr
  have hblr := getElem?_lt hbr
  have hb0r := fun l => get_app (l := l) hbr
  refine AcT true Try.func13 ?_; intro hbel Q hQ
  have g'1 := (jn @hbs (jn @hb0s (jn @hbr @hb0r)))
  refine rcs g'1 (fun h1 h1d _ => ?_) (fun h1 h1d _ => ?_)
  · have h1n := bnT h1
    have hfin : l.map tl3 ≠ m.map tl3 := fun e => by have q := congrArg List.length e; rw [List.length_map, List.length_map] at q; omega
    have g'2 := (jn h1 (jn h1n (jn @int_bne (jn @int_beq g'1))))
    exact eS g'2 hQ hbel (.bool false) Try.results13 ⟨by first | (rw [decide_eq_true hfin]; done) | (rw [decide_eq_false hfin]), rfl⟩
  have h1n := bnT h1
  have hlm : l.length = m.length := by omega
  have g'3 := (jn h1 (jn h1n (jn @int_bne (jn @int_beq g'1))))
  refine runTf g'3 ?_
  refine glp (fun k F Hx => ∃ i : Nat, i + k = l.length ∧ (l.take i).map tl3 = (m.take i).map tl3 ∧ F = [(0, .sl (some (bs, 0)) l.length cs), (1, .sl (some (br, 0)) m.length cr), (5, iV ((i : Nat) : Int))] ∧ H = Hx) (l.length) ?_ ?_
  · refine ⟨_, _, _, ⟨0, by omega, rfl, rfl, rfl⟩, Abs.by0 hbel ?_⟩
    exact absW
  rintro k0 F Hx ⟨i, hm0, ho, rfl, rfl⟩ J0 hJ0
  refine rcs g'3 (fun h2 h2d _ => ?_) (fun h2 h2d g'11 => ?_)
  · have hlt : i < l.length := by omega
    obtain ⟨bq, oq, cq, hsq, hbq⟩ := hok.at hlt
    have hblq := getElem?_lt hbq
    have hb0q := fun l' => get_app (l := l') hbq
    have hdl := (hok _ (tlG_mem hlt)).2.1
    have hdB := (hok _ (tlG_mem hlt)).2.2
    have hltm : i < m.length := by omega
    obtain ⟨bp, op, cp, hsp, hbp⟩ := hok2.at hltm
    have hblp := getElem?_lt hbp
    have hb0p := fun l' => get_app (l := l') hbp
    have hdl2 := (hok2 _ (tlG_mem hltm)).2.1
    have hdB2 := (hok2 _ (tlG_mem hltm)).2.2
    have q3 := tlR_at0 (l := l) (j := i) (by omega)
    have q4 := tlR_at0 (l := m) (j := i) (by omega)
    have g'4 := (jn h2 (jn h2d (jn @tlR_len (jn q3 (jn q4 g'3)))))
    refine rgs g'4 (fun h5 h5d _ => ?_) (fun h5 h5d _ => ?_)
    · have h5n := bnT h5
      have q6 := tlR_at1 (l := l) (j := i) (by omega)
      have q7 := tlR_at1 (l := m) (j := i) (by omega)
      have g'5 := (jn h5 (jn h5n (jn q6 (jn q7 g'4))))
      refine rgs g'5 (fun h8 h8d _ => ?_) (fun h8 h8d _ => ?_)
      · have h8n := bnT h8
        have q9 := tlR_at2 (l := l) (j := i) (by omega) hsq
        have q10 := tlR_at2 (l := m) (j := i) (by omega) hsp
        have g'6 := (jn h8 (jn h8n (jn q9 (jn q10 g'5))))
        refine runTf g'6 ?_
        refine cd (bytes2_c _ _ _ ((tlG l i).d) ((tlG m i).d) (⟨_, _, _, rfl, by first | exact hb0q _ | exact hbq⟩) (⟨_, _, _, rfl, by first | exact hb0p _ | exact hbp⟩) hdB hdB2) ?_
        refine rcs g'6 (fun h11 h11d g'7 => ?_) (fun h11 h11d g'8 => ?_)
        · have hfin := tl3_ne hlt hltm (fun q => by have r := h11d; first | exact r q.2.2 | (rw [q.2.2] at r; simp at r))
          exact eS g'7 hQ hbel (.bool false) Try.results13 ⟨by first | (rw [decide_eq_true hfin]; done) | (rw [decide_eq_false hfin]), rfl⟩
        have ho2 := tl3_take hlt hltm ho (by omega) (by omega) (by have r := h11d; first | exact r | exact of_decide_eq_true r)
        refine runTf g'8 ?_
        refine hJ0 _ _ ⟨k0 - 1, by omega, _, _, _, ⟨i + 1, by omega, ho2, rfl, rfl⟩, Abs.by0 hbel ?_⟩
        exact absW
      have h8n := bnT h8
      have hfin := tl3_ne hlt hltm (fun q => by first | exact h8d q.2.1 | omega)
      have g'9 := j2 h8 h8n g'5
      exact eS g'9 hQ hbel (.bool false) Try.results13 ⟨by first | (rw [decide_eq_true hfin]; done) | (rw [decide_eq_false hfin]), rfl⟩
    have h5n := bnT h5
    have hfin := tl3_ne hlt hltm (fun q => by first | exact h5d q.1 | omega)
    have g'10 := j2 h5 h5n g'4
    exact eS g'10 hQ hbel (.bool false) Try.results13 ⟨by first | (rw [decide_eq_true hfin]; done) | (rw [decide_eq_false hfin]), rfl⟩
  obtain rfl : i = l.length := by omega
  have hfin : l.map tl3 = m.map tl3 := by rwa [List.take_length, hlm, List.take_length] at ho
  exact eS g'11 hQ hbel (.bool true) Try.results13 ⟨by first | (rw [decide_eq_true hfin]; done) | (rw [decide_eq_false hfin]), rfl⟩
theorem tsz_c (H : AHeap) (s : AV) (l : List Tl) (hs : Sl H 3 s l.length (tlR l)) (hl : l.length ≤ 1000) (hok : tlOk H l) : ACalls Try.prog 26 [s] H (fun v H' => v = iV ((sizL l : Nat) : Int) ∧ H' = H) := by
  obtain ⟨bs, os, cs, rfl, hbs⟩ := hs
  have hbls := getElem?_lt hbs
  have hb0s := fun l => get_app (l := l) hbs
  refine AcT true Try.func26 ?_; intro hbel Q hQ
  have g'12 := (jn @hbs (jn @hb0s @add_natT))
  refine runTf g'12 ?_
  have sT0 : sizL (l.take 0) = 0 := rfl
  refine glp (fun k F Hx => ∃ i : Nat, i + k = l.length ∧ F = [(3, iV ((sizL (l.take i) : Nat) : Int)), (6, .sl (some (bs, 0)) l.length cs), (7, iV ((l.length : Nat) : Int)), (8, iV ((i : Nat) : Int))] ∧ H = Hx) (l.length) ?_ ?_
  · refine ⟨_, _, _, ⟨0, by omega, rfl, rfl⟩, Abs.by0 hbel ?_⟩
    exact absWf @sT0
  rintro k0 F Hx ⟨i, hm0, rfl, rfl⟩ J0 hJ0
  have hsb := sizL_bd (l := l.take i) (fun e he => (hok e (List.mem_of_mem_take he)).2.1)
  have hsl : (l.take i).length ≤ 1000 := by rw [List.length_take]; omega
  refine rcs g'12 (fun h1 h1d _ => ?_) (fun h1 h1d g'14 => ?_)
  · have hlt : i < l.length := by omega
    obtain ⟨bq, oq, cq, hsq, hbq⟩ := hok.at hlt
    have hblq := getElem?_lt hbq
    have hb0q := fun l' => get_app (l := l') hbq
    have hdl := (hok _ (tlG_mem hlt)).2.1
    have hdB := (hok _ (tlG_mem hlt)).2.2
    have hst := sizL_take hlt
    have q2 := tlR_p (l := l) (j := i) (by omega) hsq
    have g'13 := (jn h1 (jn h1d (jn @tlR_len (jn q2 g'12))))
    refine runTf g'13 ?_
    refine hJ0 _ _ ⟨k0 - 1, by omega, _, _, _, ⟨i + 1, by omega, rfl, rfl⟩, Abs.byN hbel ?_⟩
    exact absWf (jn @hst @add_natT)
  obtain rfl : i = l.length := by omega
  have hfin : sizL (l.take l.length) = sizL l := by rw [List.take_length]
  exact eS g'14 hQ hbel (iV ((sizL (l.take l.length) : Nat) : Int)) Try.results26 ⟨by rw [hfin], rfl⟩
theorem same_t (H : AHeap) (s : AV) (l : List Tl) (r : AV) (m : List Tl) (hs : Sl H 3 s l.length (tlR l)) (hr : Sl H 3 r m.length (tlR m)) (hl : l.length ≤ 1000) (hm : m.length ≤ 1000) (hok : tlOk H l) (hok2 : tlOk H m) (h : l.map tl3 = m.map tl3) : ACalls Try.prog 13 [s, r] H (fun v H' => v = .bool true ∧ H' = H) := by
  have := same_c H s l r m hs hr (by omega) (by omega) hok hok2
  rwa [decide_eq_true h] at this
theorem tlOk_one {H : AHeap} {e : Tl} (h : Sl H 1 e.s e.d.length (ints .u8 e.d)) (h2 : e.d.length ≤ 1000000000) (h3 : ∀ c ∈ e.d, 0 ≤ c ∧ c ≤ 255) : tlOk H [e] := fun x hx => by
  rw [List.mem_singleton.1 hx]; exact ⟨h, h2, h3⟩
theorem ent_t (H : AHeap) (s : AV) (l : List T4) (r : AV) (hs : Sl H 4 s l.length (r4 l)) (hr : Sl H 4 r l.length (r4 l)) (hl : l.length ≤ 1000000000) : ACalls Try.prog 15 [s, r] H (fun v H' => v = .bool true ∧ H' = H) := by
  have := entries_c H s l r l hs hr hl hl
  rwa [decide_eq_true rfl] at this
theorem tsz_t (H : AHeap) (s : AV) (l : List Tl) (n : Nat) (hs : Sl H 3 s l.length (tlR l)) (hl : l.length ≤ 1000) (hok : tlOk H l) (h : sizL l = n) : ACalls Try.prog 26 [s] H (fun v H' => v = .int .i64 (n : Int) ∧ H' = H) := by
  have := tsz_c H s l hs hl hok
  rwa [h] at this
theorem awk_c (H : AHeap) : ACalls Try.prog 10 [] H (fun v H' => v = .bool true ∧ H' = H) := by
  refine AcT true Try.func10 ?_; intro hbel Q hQ
  refine runT ?_
  refine call_of (by kernel_rfl) (tpack_c _ _ [(17, -1, 3, 0)] (slA) (by decide)) ?_
  rintro _ M1 ⟨w1, rfl, hT1⟩
  rw [show packX [(17, -1, 3, 0)] = ([(1, -1, [241, 1, 6, 0])], 0) by decide +kernel] at *
  obtain ⟨X1, hX1⟩ := hT1.ex
  obtain ⟨ts, hts, hsl, hok⟩ := hT1.ts
  have hlen : ts.length = 1 := by have := congrArg List.length hts; simpa using this
  have hunp : unpR ts = ([(17, -1, 3, 0)], 0) := unp_pack (l := [(17, -1, 3, 0)]) (vldE_iff.1 (by decide +kernel)) (by rw [hts]; decide +kernel)
  have hmer : merX unpR comR ts ts = ([(1, -1, [241, 1, 12, 0])], 0) := by unfold merX; rw [hunp]; decide +kernel
  have hget : getR (unpR ts) 17 (-1) = ((17, -1, 3, 0), 0) := by rw [hunp]; decide +kernel
  have hlx1 : M1[H.length]? = some (.cells true 0 [.int .i64 17, .int .i64 (-1)]) := by rw [hX1]; exact get_old get_new0 _
  have hlr1 : M1[H.length + 1]? = some (.cells true 4 (r4 [(17, -1, 3, 0)])) := by rw [hX1]; exact get_old get_newk _
  refine runT ?_
  refine call_of (by kernel_rfl) (tmrg_c _ _ ts _ ts hsl hsl (by omega) (by omega) hok hok (by rw [hunp]; decide) (by rw [hunp]; decide)) ?_
  rintro _ M2 ⟨w2, rfl, hT2⟩
  rw [hmer] at hT2 ⊢
  obtain ⟨X2, hX2⟩ := hT2.ex
  have hsl2 : Sl M2 3 w1 ts.length (tlR ts) := by rw [hX2]; exact hsl.app _
  have hok2 : tlOk M2 ts := by rw [hX2]; exact hok.app _
  have hlx2 : M2[H.length]? = some (.cells true 0 [.int .i64 17, .int .i64 (-1)]) := by rw [hX2]; exact get_old hlx1 _
  have hlr2 : M2[H.length + 1]? = some (.cells true 4 (r4 [(17, -1, 3, 0)])) := by rw [hX2]; exact get_old hlr1 _
  refine runT ?_
  have hu := unpack_c M2 _ ts hsl2 (by omega) hok2
  rw [hunp] at hu
  refine call_v (by kernel_rfl) hu ?_
  have hlx3 := fun l => get_old hlx2 l
  have hlr3 := fun l => get_old hlr2 l
  have hlr4 : ∀ l, (M2 ++ l)[H.length + 1]? = some (.cells true 4 [.int .i64 17, .int .i64 (-1), .int .i64 3, .int .i64 0]) := fun l => hlr3 l
  have g'1 := (jn @hlx3 @hlr3)
  refine runTf g'1 ?_
  have hg := tget_c (M2 ++ [.cells (ownG 1) 4 (r4 [(17, -1, 3, 0)])]) _ ts 17 (-1) (hsl2.app _) (by omega) (hok2.app _)
  rw [hget] at hg
  refine call_v (by kernel_rfl) hg ?_
  refine runTf g'1 ?_
  refine cv (x := .tup [_, .int .i64 0]) (by
    have hr := red_c (M2 ++ [.cells (ownG 1) 4 (r4 [(17, -1, 3, 0)]), .cells true 0 [.int .i64 17, .int .i64 (-1), .int .i64 3, .int .i64 0]]) (.sl (some (H.length + 1, 0)) 1 (some 1)) [(17, -1, 3, 0)] 4 ⟨_, _, _, rfl, hlr3 _⟩ (by decide)
    rw [show redR [(17, -1, 3, 0)] 4 = ([(1, -1, 3, 0)], 0) by decide +kernel] at hr
    exact hr) ?_
  refine runTf g'1 ?_
  have hts2 : ts.map tl3 = [(1, -1, [241, 1, 6, 0])] := hts
  have hsiz : sizL ts = 4 := by
    match ts, hlen, hts2 with
    | [t], _, h =>
      have q : t.d = [241, 1, 6, 0] := congrArg (fun l : List (Int × Int × List Int) => (l.getD 0 (0, 0, [])).2.2) h
      simp [sizL, q]
  obtain ⟨tm, htm, hsm, hom⟩ := hT2.ts
  have hlm : tm.length = 1 := by have := congrArg List.length htm; simpa using this
  refine cdr g'1 (same_t _ _ ts _ [⟨1, -1, .sl (some (M2.length + 3, 0)) 4 (some 4), [241, 1, 6, 0]⟩] (by exact hsl2.app _) (by exact slA) (by omega) (by simp) (by exact hok2.app _) (by exact tlOk_one slA (by simp) (by simp)) hts2) ?_
  refine cdr g'1 (same_t _ _ tm _ [⟨1, -1, .sl (some (M2.length + 5, 0)) 4 (some 4), [241, 1, 12, 0]⟩] (by exact hsm.app _) (by exact slA) (by omega) (by simp) (by exact hom.app _) (by exact tlOk_one slA (by simp) (by simp)) htm) ?_
  refine cd (ent_t _ _ [(17, -1, 3, 0)] _ (by exact slA) (by exact ⟨_, _, _, rfl, hlr3 _⟩) (by simp)) ?_
  have g'2 := (jn @hlx3 @hlr4)
  refine runTf g'2 ?_
  have hm2 := getElem?_lt hlr2
  refine ⟨by omega, ?_⟩
  refine cdr g'1 (ent_t _ _ [(1, -1, 3, 0)] _ (by exact slA) (by exact slA) (by simp)) ?_
  refine cdr g'1 (tsz_t _ _ ts 4 (by exact hsl2.app _) (by omega) (by exact hok2.app _) hsiz) ?_
  have hend : ∀ L, M2 ++ L = H ++ ([.cells true 0 [.int .i64 17, .int .i64 (-1)], .cells true 4 [.int .i64 17, .int .i64 (-1), .int .i64 3, .int .i64 0]] ++ X1 ++ X2 ++ L) := fun L => by rw [hX2, hX1]; simp only [List.append_assoc]
  refine hQ _ _ ?_
  rw [hend]
  exact end_plain (.inl rfl) hbel (x := .bool true) (resT Try.results10) rfl ⟨rfl, rfl⟩
/-- What a tile's data say. -/
structure TOk (tx ty : Int) (nx : Nat) (q : List Int) (E : List T4) : Prop where
  inn : ∀ e ∈ E, e.1 / 16 = tx ∧ e.2.1 / 16 = ty
  ord : E.Pairwise befE
  num : numOk tx ty nx E
  dat : datF tx ty nx E = q
/-- Each entry takes at least three bytes. -/
theorem datF_size {tx ty : Int} : ∀ (l : List T4) (nx : Nat), 3 * (l.filter (inT tx ty)).length ≤ (datF tx ty nx l).length
  | [], _ => Nat.le_refl _
  | e :: l, nx => by
    rw [List.filter_cons]
    by_cases h : e.1 / 16 = tx ∧ e.2.1 / 16 = ty
    · rw [if_pos (show inT tx ty e = true from decide_eq_true h), datF, if_pos h]
      have ih := datF_size (tx := tx) (ty := ty) l (numI (e.1, e.2.1) + 1).toNat
      have p1 := form_pos (numI (e.1, e.2.1) - (nx : Int)).toNat
      have p2 := form_pos (zig e.2.2.1)
      have p3 := form_pos (zig e.2.2.2)
      simp only [List.length_append, List.length_cons]
      omega
    rw [if_neg (by rw [show inT tx ty e = false from decide_eq_false h]; decide), datF, if_neg h]
    exact datF_size l nx
theorem byT_size (l : List T4) : ∀ (T : List (Int × Int)), 3 * (byT l T).length ≤ ((T.map fun t => (t.1, t.2, datF t.1 t.2 0 l)).map fun t : Int × Int × List Int => t.2.2.length).sum
  | [] => Nat.le_refl _
  | t :: T => by
    have ih := byT_size l T
    have h := datF_size (tx := t.1) (ty := t.2) l 0
    unfold byT at ih ⊢
    rw [List.flatMap_cons, List.length_append]
    simp only [List.map_cons, List.sum_cons]
    omega
theorem sizL_tl3 (ts : List Tl) : sizL ts = ((ts.map tl3).map fun t : Int × Int × List Int => t.2.2.length).sum := by
  unfold sizL
  rw [List.map_map]; rfl
theorem pack_size {l : List T4} (hV : VldE l) {ts : List Tl} (h : ts.map tl3 = packL l) : 3 * l.length ≤ sizL ts := by
  rw [sizL_tl3, h]
  have hn := byT_nd (strict_nodup hV.ord) (homs_strict l)
  have hp : srtE (byT l (homs l)) = l := strict_eq (srtE_strict hn) hV.ord fun e => by
    rw [(srtE_perm _).mem_iff, byT_mem]
    exact ⟨fun q => q.1, fun q => ⟨q, homs_mem.2 ⟨e, q, rfl⟩⟩⟩
  have hl : (byT l (homs l)).length = l.length := by rw [← srtE_len, hp]
  rw [← hl]
  exact byT_size l (homs l)
theorem packL_len (l : List T4) : (packL l).length ≤ l.length := by
  show ((homs l).map _).length ≤ _
  rw [List.length_map]; exact homs_len
theorem packX_t {l : List T4} (h : vldE l = true) : packX l = (packL l, 0) := by rw [packX, if_pos h]
theorem tpack_e (H : AHeap) (s : AV) (l : List T4) (p : List (Int × Int × List Int)) (e : Int) (h : packX l = (p, e)) (hs : Sl H 4 s l.length (r4 l)) (hl : l.length ≤ 100000) : ACalls Try.prog 11 [s] H (fun v H' => ∃ w, v = .tup [w, .int .i64 e] ∧ TAt H p w H') := by
  have := tpack_c H s l hs hl
  rwa [h] at this
theorem same_e (H : AHeap) (s : AV) (l : List Tl) (r : AV) (m : List Tl) (t : Bool) (h : decide (l.map tl3 = m.map tl3) = t) (hs : Sl H 3 s l.length (tlR l)) (hr : Sl H 3 r m.length (tlR m)) (hl : l.length ≤ 1000) (hm : m.length ≤ 1000) (hok : tlOk H l) (hok2 : tlOk H m) : ACalls Try.prog 13 [s, r] H (fun v H' => v = .bool t ∧ H' = H) := by
  have := same_c H s l r m hs hr (by omega) (by omega) hok hok2
  rwa [h] at this
theorem lapart_c (H : AHeap) (s : AV) (a : List T4) (r : AV) (b : List T4) (hs : Sl H 4 s a.length (r4 a)) (hls : a.length ≤ 9223372036854775807) (hr : Sl H 4 r b.length (r4 b)) (hlr : b.length ≤ 9223372036854775807) : ACalls Try.prog 9 [s, r] H (fun v H' => v = .bool true ∧ H' = H) := by
  have hs0 := hs
  obtain ⟨bs, os, cs, rfl, hbs⟩ := hs
  have hbls := getElem?_lt hbs
  have hb0s := fun l => get_app (l := l) hbs
  have hr0 := hr
  obtain ⟨br, or, cr, rfl, hbr⟩ := hr
  have hblr := getElem?_lt hbr
  have hb0r := fun l => get_app (l := l) hbr
  refine AcT true Try.func9 ?_; intro hbel Q hQ
  have g'1 := (jn @hbs (jn @hb0s (jn @hbr @hb0r)))
  refine runTf g'1 ?_
  refine cvr g'1 (awk_c _) ?_
  refine gd_split (fun h1 => ?_) (fun h1 => ?_)
  rotate_left
  · have h1d := bsT h1
    have g'2 := j2 h1 h1d g'1
    refine runTf g'2 ?_
    refine cvr g'2 (awk_c _) ?_
    exact eQ hQ hbel (.bool true) Try.results9 ⟨rfl, rfl⟩
  have h1d := bsT h1
  have ha : a.length ≤ 200 := by omega
  have g'3 := j2 h1 h1d g'1
  refine runTf g'3 ?_
  refine gd_split (fun h2 => ?_) (fun h2 => ?_)
  rotate_left
  · have h2d := bsT h2
    have g'4 := j2 h2 h2d g'3
    refine runTf g'4 ?_
    refine cvr g'4 (awk_c _) ?_
    exact eQ hQ hbel (.bool true) Try.results9 ⟨rfl, rfl⟩
  have h2d := bsT h2
  have hb : b.length ≤ 200 := by omega
  have g'5 := j2 h2 h2d g'3
  refine runTf g'5 ?_
  refine cvr g'5 (rvalid_c _ _ a (by first | exact hs0 | exact hs0.app _) (by omega)) ?_
  refine gd_split (fun h3 => ?_) (fun h3 => ?_)
  rotate_left
  · have h3d := bsT h3
    have g'6 := j2 h3 h3d g'5
    refine runTf g'6 ?_
    refine cvr g'6 (awk_c _) ?_
    exact eQ hQ hbel (.bool true) Try.results9 ⟨rfl, rfl⟩
  have hva : vldE a = true := by simpa using h3
  have g'7 := j2 h3 hva g'5
  refine runTf g'7 ?_
  refine cvr g'7 (rvalid_c _ _ b (by first | exact hr0 | exact hr0.app _) (by omega)) ?_
  refine cond_split (fun h4 => ?_) (fun h4 => ?_)
  · have h4d := bsT h4
    have g'8 := j2 h4 h4d g'7
    refine runTf g'8 ?_
    refine cvr g'8 (awk_c _) ?_
    exact eQ hQ hbel (.bool true) Try.results9 ⟨rfl, rfl⟩
  have hvb : vldE b = true := by simpa using h4
  have g'9 := j2 h4 hvb g'7
  refine runTf g'9 ?_
  refine call_of (by kernel_rfl) (tpack_e _ _ a (packL a) 0 (packX_t hva) (by first | exact hs0 | exact hs0.app _) (by omega)) ?_
  rintro _ M1 ⟨w1, rfl, hT1⟩
  obtain ⟨X1, hX1⟩ := hT1.ex
  obtain ⟨ts1, hts1, hsl1, hok1⟩ := hT1.ts
  have hs1 : Sl M1 4 (.sl (some (bs, 0)) a.length cs) a.length (r4 a) := by rw [hX1]; exact hs0.app _
  have hr1 : Sl M1 4 (.sl (some (br, 0)) b.length cr) b.length (r4 b) := by rw [hX1]; exact hr0.app _
  refine runTf g'9 ?_
  refine call_of (by kernel_rfl) (tpack_e _ _ b (packL b) 0 (packX_t hvb) (by exact hr1) (by omega)) ?_
  rintro _ M2 ⟨w2, rfl, hT2⟩
  obtain ⟨X2, hX2⟩ := hT2.ex
  obtain ⟨ts2, hts2, hsl2, hok2⟩ := hT2.ts
  have hsl3 : Sl M2 3 w1 ts1.length (tlR ts1) := by rw [hX2]; exact hsl1.app _
  have hok3 : tlOk M2 ts1 := by rw [hX2]; exact hok1.app _
  have hs2 : Sl M2 4 (.sl (some (bs, 0)) a.length cs) a.length (r4 a) := by rw [hX2]; exact hs1.app _
  have hr2 : Sl M2 4 (.sl (some (br, 0)) b.length cr) b.length (r4 b) := by rw [hX2]; exact hr1.app _
  have hn1 : ts1.length ≤ 1000 := by
    have := congrArg List.length hts1
    rw [List.length_map] at this
    have := packL_len a; omega
  have hn2 : ts2.length ≤ 1000 := by
    have := congrArg List.length hts2
    rw [List.length_map] at this
    have := packL_len b; omega
  have hsm : decide (ts1.map tl3 = ts2.map tl3) = decide (a = b) := by rw [hts1, hts2, decide_eq_decide]; exact ⟨pack_inj (vldE_iff.1 hva) (vldE_iff.1 hvb), fun h => by rw [h]⟩
  have hsz := pack_size (vldE_iff.1 hva) hts1
  have hszb := sizL_bd (l := ts1) fun e he => (hok3 e he).2.1
  obtain ⟨sz, hsze⟩ : ∃ n, sizL ts1 = n := ⟨_, rfl⟩
  rw [hsze] at hsz hszb
  refine runTf g'9 ?_
  refine cvr g'9 (same_e _ _ ts1 _ ts2 _ hsm (by exact hsl3) (by exact hsl2) hn1 hn2 hok3 hok2) ?_
  refine cvr g'9 (entries_c _ _ a _ b (by exact hs2) (by exact hr2) (by omega) (by omega)) ?_
  refine cvr g'9 (tsz_t _ _ ts1 sz (by exact hsl3) hn1 hok3 hsze) ?_
  refine hQ _ _ ?_
  rw [show decide (3 * (a.length : Int) ≤ (sz : Int)) = true from decide_eq_true (by omega), hX2, hX1, List.append_assoc]
  exact end_plain (.inl rfl) hbel (x := .bool true) (resT Try.results9) rfl ⟨rfl, rfl⟩
set_option maxRecDepth 100000 in
theorem tileApart_top (H : AHeap) (xs : List AV) (hn : xs.length = 2) (hy : ∀ (j : Nat) (t : TypeId) (x : AV), [22, 22][j]? = some t → xs[j]? = some x → ATy Try.prog H 9 t x) : ACalls Try.prog 9 xs H (fun v H' => v = .bool true ∧ H' = H) := by
  match xs, hn, hy with
  | [a0, a1], _, hy =>
    have t0 := (hy 0 _ a0 rfl rfl).one (by kernel_rfl) (by kernel_rfl)
    obtain ⟨l0, s0, m0, w0⟩ := t0.rec4 (n := 7) (t := 22) (e := 44) (t1 := 3) (t2 := 3) (t3 := 3) (t4 := 3) (by kernel_rfl) (by kernel_rfl) (by kernel_rfl) (by kernel_rfl) (by kernel_rfl) (by kernel_rfl)
    have t1 := (hy 1 _ a1 rfl rfl).one (by kernel_rfl) (by kernel_rfl)
    obtain ⟨l1, s1, m1, w1⟩ := t1.rec4 (n := 7) (t := 22) (e := 44) (t1 := 3) (t2 := 3) (t3 := 3) (t4 := 3) (by kernel_rfl) (by kernel_rfl) (by kernel_rfl) (by kernel_rfl) (by kernel_rfl) (by kernel_rfl)
    exact lapart_c H _ l0 _ l1 s0 (by have q := m0; unfold maxLen at q; exact q) s1 (by have q := m1; unfold maxLen at q; exact q)
section
open Go.ChangeShapes Go.WideShapes Go.ChangeAt Go.Joins
open Go.ChangeMaps (open_string shut_string)
set_option maxRecDepth 100000 in
theorem tileApart_lifted (os : Os) (started : os.Started) (H : Type) (enc : TypeId × Value → H) :
    ReturnsInHanded {} Try.checked os 9 .any (Rows.tileApartSpec.pre6 enc Try.prog Try.f9 Rows.tileApartRow.domain false) (Rows.tileApartSpec.post enc Try.prog Try.f9 false true false false) := by
  refine returnsInHanded_of_change (C := Try.checked) own started (by kernel_rfl) Try.func9
    (ChangeSpec.witness6 (enc := enc) (C := Try.checked) false ⟨#[], #[.slice none 0 0, .slice none 0 0], []⟩ 8 (by kernel_rfl) (by kernel_rfl) (by kernel_rfl) (by kernel_rfl)) ?_
  intro W base args ds gs before hval0 hW hcnd _
  have hval : ∀ (j : Nat) t v, Try.f9.params[j]? = some t → args[j]? = some v → Value.okWide Try.prog W .any base t v := hval0
  have hW' := hW
  obtain ⟨p, q, hA0, hV, rfl, hfz, hnd⟩ := hW
  have hA : DataW.TrodAll enc Try.prog W 0 (fun _ => true) true Try.f9.params.toList args.toList ds p := hA0
  rw [Try.params9] at hA hval
  have hwalk := calls_top (n := 9) (f := 9) hA (fun j t v a b => hval j t v (by simpa using a) (by simpa using b)) (by kernel_rfl) (fun H xs hn hy => tileApart_top H xs hn hy)
  rw [Array.toArray_toList] at hwalk
  obtain ⟨v0, vs0, d0, ds0, p0, q0, hargs, rfl, rfl, h0, r0⟩ := trodAll_cons hA
  obtain ⟨v1, vs1, d1, ds1, p1, q1, rfl, rfl, rfl, h1, r1⟩ := trodAll_cons r0
  obtain ⟨rfl, rfl, rfl⟩ := trodAll_nil r1
  obtain rfl : args = #[v0, v1] := by cases args; simp_all
  obtain ⟨rfl, rfl⟩ := trodVars_none hV
  have k0 := h0
  have lt0 : ∀ x ∈ p0, x.block < W.heap.size := by obtain ⟨m, hm⟩ := k0; exact DataW.trod_lt m _ _ _ hm
  have k1 := h1
  have lt1 : ∀ x ∈ p1, x.block < W.heap.size := by obtain ⟨m, hm⟩ := k1; exact DataW.trod_lt m _ _ _ hm
  clear hA0 hval0
  refine hwalk.mono fun e W' ⟨he, bel⟩ => ?_
  subst he
  exact ⟨_, rfl, _, _, _, [], _, [], hW', trodAll_mk1 (shut_bool Try.underlying4 _), (trodAll_cons_mk (Below.trod laidOut (by kernel_rfl) (of_decide_eq_true (by kernel_rfl)) k0 bel lt0) (trodAll_cons_mk (Below.trod laidOut (by kernel_rfl) (of_decide_eq_true (by kernel_rfl)) k1 bel lt1) trodAll_mk0)), rfl, bel.frame _, fun h => by cases h⟩
theorem and_t {a b : Bool} (h : a = true) (k : b = true) : (a && b) = true := by rw [h, k]; rfl
theorem tileApart_h0 : (Rows.tileApartRow.inPlace == Try.pinned.checked.prog.inPlace 9) = true := by kernel_rfl
theorem tileApart_h1 : (Rows.tileApartRow.unfollowed == Try.pinned.checked.prog.unfollowed 9) = true := by kernel_rfl
theorem tileApart_h2 : (Rows.tileApartRow.recurses == Try.pinned.checked.prog.recurses 9) = true := by kernel_rfl
theorem tileApart_h3 : (Rows.tileApartRow.named == Try.pinned.checked.prog.varsNamed 9) = true := by kernel_rfl
theorem tileApart_h4 : Try.pinned.checked.prog.stopsHeard = true := by kernel_rfl
theorem tileApart_h5 : Try.pinned.checked.prog.mayEnter = true := by kernel_rfl
theorem tileApart_h6 : (Rows.tileApartRow.lifted == Try.pinned.checked.prog.liftsFinal) = true := by kernel_rfl
theorem tileApart_closed : joinedFacts Try.pinned.checked.prog 9 Try.f9 Rows.tileApartSpec Rows.tileApartRow = true := by
  unfold joinedFacts
  exact (and_t (and_t (and_t (and_t (and_t (and_t (and_t (and_t (and_t (and_t (and_t (and_t (and_t (and_t (and_t (and_t (and_t (and_t (and_t (and_t (and_t (and_t (and_t (and_t (and_t (and_t (and_t (and_t (and_t (and_t (and_t (by kernel_rfl) laidOut) (by kernel_rfl)) (by kernel_rfl)) (by kernel_rfl)) (by kernel_rfl)) (by kernel_rfl)) (by kernel_rfl)) (by kernel_rfl)) tileApart_h0) tileApart_h1) tileApart_h2) tileApart_h3) (by kernel_rfl)) (by kernel_rfl)) (by kernel_rfl)) (by kernel_rfl)) (by kernel_rfl)) (by kernel_rfl)) (by kernel_rfl)) (by kernel_rfl)) (by kernel_rfl)) (by kernel_rfl)) (by kernel_rfl)) tileApart_h4) tileApart_h5) tileApart_h6) (by kernel_rfl)) (by kernel_rfl)) (by kernel_rfl)) (by kernel_rfl)) (by kernel_rfl))
theorem tileApart_over : Rows.tileApartRow.holds Try.pinned (OpenSpec.ofChange Rows.tileApartSpec) :=
  OpenClaim.holds_of_wide 9 Try.f9 rfl rfl rfl rfl rfl rfl rfl ⟨rfl, rfl, rfl, rfl, rfl⟩ rfl rfl rfl rfl rfl (by kernel_rfl) Try.func9 tileApart_closed
    (of_decide_eq_true (by kernel_rfl)) (by unfold Func.isWrapper; rw [if_neg (by decide +kernel)]; exact ⟨rfl, rfl⟩)
    (fun os started H enc _ => tileApart_lifted os started H enc)
/-- The given statement. -/
theorem tileApart_proved : Rows.TileApartSaid := tileApart_over
end
end Go.Proofs.Ytgfjhidfpjmmnaa
