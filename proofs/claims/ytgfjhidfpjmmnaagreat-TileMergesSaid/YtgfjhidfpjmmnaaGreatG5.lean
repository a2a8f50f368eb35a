/- Parts of the proof: walks and plain facts. Conditions: as each theorem states. -/
import Derived.Test.YtgfjhidfpjmmnaaGreatG4
import Derived.Test.YtgfjhidfpjmmnaaGreatG3
import Derived.Test.YtgfjhidfpjmmnaaGreatG2
namespace Go.Proofs.YtgfjhidfpjmmnaaGreat
set_option linter.unusedSimpArgs false
set_option linter.unusedVariables false
open Go.RowKit
set_option maxHeartbeats 4000000
set_option maxRecDepth 100000
def radL (a : List T4) : List T4 → Option (List T4)
  | [] => some a
  | e :: b => if fitE e a = true then radL (putE e a) b else none
theorem VldE.bd {l : List T4} (h : VldE l) : bdE 1099511627776 l := fun e he => by have := gdB_iff.1 (h.good e he); omega
theorem fit_bd {e : T4} : ∀ {l : List T4}, bdE 1099511627776 l → (-1099511627776 ≤ e.2.2.1 ∧ e.2.2.1 ≤ 1099511627776) ∧ -1099511627776 ≤ e.2.2.2 ∧ e.2.2.2 ≤ 1099511627776 → fitE e l = true → bdE 1099511627776 (putE e l)
  | [], _, he, _ => fun x hx => by rw [List.mem_singleton.1 (show x ∈ [e] from hx)]; exact he
  | a :: l, h, he, hf => fun x hx => by
    unfold putE at hx
    unfold fitE at hf
    have ht : bdE 1099511627776 l := fun y hy => h y (List.mem_cons_of_mem _ hy)
    split at hx
    · rename_i hc
      rw [if_pos hc, Bool.and_eq_true, within_iff, within_iff] at hf
      split at hx
      · exact ht x hx
      rcases List.mem_cons.1 hx with q | q
      · rw [q]; exact hf
      exact ht x q
    rename_i hc
    rw [if_neg hc] at hf
    split at hx
    · rcases List.mem_cons.1 hx with q | q
      · rw [q]; exact he
      exact h x q
    rename_i hb
    rw [if_neg hb] at hf
    rcases List.mem_cons.1 hx with q | q
    · rw [q]; exact h a (List.mem_cons_self ..)
    exact fit_bd ht he hf x q
theorem BW_t {k : Nat} {X : List T4} : BW k (some (.cells true 4 (r4 X))) (.cells (ownG X.length) 4 (r4 X)) = True := eq_true (by
  rcases Nat.eq_zero_or_pos X.length with h0 | h0
  · obtain rfl := List.eq_nil_of_length_eq_zero h0; exact BW.emp
  rw [ownG_p h0]
  have := BW.pre (m := k) (e := 4) (o := true) (ys := r4 X) (zs := [])
  rwa [List.append_nil] at this)
def radR (a b : List T4) : List T4 × Int := if (vldE a && vldE b) = true then (match radL a b with | some s => (s, 0) | none => ([], 2)) else ([], 1)
theorem rsum_c (H : AHeap) (s : AV) (l : List T4) (r : AV) (m : List T4)  (hs : Sl H 4 s l.length (r4 l)) (hr : Sl H 4 r m.length (r4 m)) (hl : l.length ≤ 100000) (hm : m.length ≤ 100000) : ACalls Tryz.prog 37 [s, r, iV 1] H (fun v H' => v = .tup [.sl (some (H.length, 0)) (((radR l m).1).length) none, iV ((radR l m).2)] ∧ H' = H ++ [.cells (ownG ((radR l m).1).length) 4 (r4 ((radR l m).1))]) := by
  obtain ⟨bs, os, cs, rfl, hbs⟩ := hs
  have hbls := getElem?_lt hbs
  have hb0s := fun l => get_app (l := l) hbs
  obtain ⟨br, or, cr, rfl, hbr⟩ := hr
  have hblr := getElem?_lt hbr
  have hb0r := fun l => get_app (l := l) hbr
  refine AcT false Tryz.func37 ?_; intro hbel Q hQ
  have g'1 := (jn @hbs (jn @hb0s (jn @hbr (jn @hb0r @Int.one_mul))))
  refine runTf g'1 ?_
  refine cv (rvalid_c _ _ l (⟨_, _, _, rfl, by first | exact hb0s _ | exact hbs⟩) (by omega)) ?_
  refine rgs g'1 (fun h1 h1d g'2 => ?_) (fun h1 h1d g'16 => ?_)
  · have hlv := vldE_iff.1 h1d
    refine runTf g'2 ?_
    refine cv (rvalid_c _ _ m (⟨_, _, _, rfl, by first | exact hb0r _ | exact hbr⟩) (by omega)) ?_
    refine rcs g'2 (fun h2 h2d g'3 => ?_) (fun h2 h2d _ => ?_)
    · have hfin : radR l m = ([], 1) := by unfold radR; rw [h2d, Bool.and_false]; rfl
      refine runTf g'3 ?_
      refine hQ _ _ (end_byE (.inl rfl) hbel (x1 := .tup [.sl none 0 (some 0), iV 1]) (l2 := [.cells false 4 []]) (.tup [.sl (some (H.length, 0)) 0 none, iV 1]) (resT Tryz.results37) [.cells false 4 []] rfl [0] (by decide) ⟨by first | (rw [hfin]; done) | (rw [hfin]; rfl), by first | (rw [hfin]; done) | (rw [hfin]; rfl)⟩ ?_)
      exact absWf @mvs_r4
    have hmv := vldE_iff.1 h2d
    rcases Nat.eq_zero_or_pos (l.length) with h3 | h3
    · have h3e : l = [] := List.eq_nil_of_length_eq_zero h3
      have h3z : (l.length == 0) = true := by rw [h3]; rfl
      have g'4 := (jn h2 (jn h2d (jn @r4_len (jn @r4_one (jn @r4_all (j2 h3 h3z g'2))))))
      refine runTf g'4 ?_
      refine glp (fun k F Hx => ∃ i : Nat, ∃ out : List T4, i + k = m.length ∧ radL l m = radL out (m.drop i) ∧ bdE 1099511627776 out ∧ out.length ≤ l.length + i ∧ F = [(1, .sl (some (br, 0)) m.length cr), (2, iV 1), (8, .sl (some (H.length, 0)) out.length none), (9, iV ((i : Nat) : Int))] ∧ Hx = H ++ [.cells (ownG out.length) 4 (r4 out)]) (m.length) ?_ ?_
      · refine ⟨_, _, _, ⟨0, l, by omega, rfl, hlv.bd, Nat.le_refl _, rfl, rfl⟩, bS hbel [0] (absRf (jn @BW_t (jn @mvs_r4 (jn h3e (jn @r4_append (jn @r4_cons @r4_nil))))))⟩
      rintro k0 F Hx ⟨i, out, hm0, hra, hbd, hol, rfl, rfl⟩ J0 hJ0
      refine rcs g'4 (fun h4 h4d _ => ?_) (fun h4 h4d g'8 => ?_)
      · have hlt : i < m.length := by omega
        have hdr := drop_g4 hlt
        have hgd := gdB_iff.1 (hmv.good _ (List.getElem_mem hlt))
        have hg4 := g4_eq hlt
        rw [← hg4] at hgd
        simp only at hgd
        have hbd' := hbd.mono (C := 1152921504606846976) (by omega)
        have hpl := putE_len (g41 m i, g42 m i, g43 m i, g44 m i) out
        have q5 := r4_p0 (l := m) (j := i) (by omega)
        have q6 := r4_at2 (l := m) (j := i) (by omega)
        have q7 := r4_at3 (l := m) (j := i) (by omega)
        have g'5 := (jn h4 (jn h4d (jn q5 (jn q6 (jn q7 g'4)))))
        refine runTf g'5 ?_
        refine cx (rput_c _ _ out _ _ _ _ (slA) (by omega) hbd' (by omega) (by omega)) ?_
        refine rcs g'5 (fun h8 h8d g'6 => ?_) (fun h8 h8d g'7 => ?_)
        · have hfin : radR l m = ([], 2) := by unfold radR; rw [if_pos (by rw [vldE_iff.2 hlv, vldE_iff.2 hmv]; rfl), hra, hdr]; simp only [radL]; rw [if_neg (by rw [h8d]; decide)]
          refine runTf g'6 ?_
          refine hQ _ _ (end_byG (.inl rfl) hbel (x1 := .tup [.sl none 0 (some 0), iV 2]) (l2 := [.cells false 4 []]) (.tup [.sl (some (H.length, 0)) 0 none, iV 2]) (resT Tryz.results37) [.cells false 4 []] rfl [2] (by decide) ⟨by first | (rw [hfin]; done) | (rw [hfin]; rfl), by first | (rw [hfin]; done) | (rw [hfin]; rfl)⟩ ?_)
          exact absWf @mvs_r4
        have hra2 : radL l m = radL (putE (g41 m i, g42 m i, g43 m i, g44 m i) out) (m.drop (i + 1)) := by rw [hra, hdr]; simp only [radL]; rw [if_pos h8d]
        refine runTf g'7 ?_
        refine hJ0 _ _ ⟨k0 - 1, by omega, _, _, _, ⟨i + 1, (putE (g41 m i, g42 m i, g43 m i, g44 m i) out), by omega, hra2, (fit_bd hbd (by simp only; omega) h8d), (by omega), rfl, rfl⟩, bS hbel [1] (absRf (jn h3e (jn @r4_append (jn @r4_cons (jn @r4_nil @mvs_r4)))))⟩
      have hdz : m.drop i = [] := List.drop_of_length_le (by omega)
      have hfin : radR l m = (out, 0) := by unfold radR; rw [if_pos (by rw [vldE_iff.2 hlv, vldE_iff.2 hmv]; rfl), hra, hdz]; rfl
      refine rcs g'8 (fun h9 h9d _ => ?_) (fun h9 h9d g'9 => ?_)
      · omega
      refine runTf g'9 ?_
      refine hQ _ _ (end_byG (.inl rfl) hbel (x1 := .tup [.sl (some (H.length, 0)) out.length none, iV 0]) (l2 := [.cells (ownG out.length) 4 (r4 out)]) (.tup [.sl (some (H.length, 0)) out.length none, iV 0]) (resT Tryz.results37) [] rfl [0] (by decide) ⟨by first | (rw [hfin]; done) | (rw [hfin]; rfl), by first | (rw [hfin]; done) | (rw [hfin]; rfl)⟩ ?_)
      exact absWf @mvs_r4
    have h3z : (l.length == 0) = false := beq_eq_false_iff_ne.2 (by omega)
    have h3l : decide (0 < l.length) = true := decide_eq_true h3
    have g'10 := (jn h2 (jn h2d (jn @r4_len (jn @r4_one (jn @r4_all (j2 h3z h3l g'2))))))
    refine runTf g'10 ?_
    refine glp (fun k F Hx => ∃ i : Nat, ∃ out : List T4, i + k = m.length ∧ radL l m = radL out (m.drop i) ∧ bdE 1099511627776 out ∧ out.length ≤ l.length + i ∧ F = [(1, .sl (some (br, 0)) m.length cr), (2, iV 1), (8, .sl (some (H.length, 0)) out.length none), (9, iV ((i : Nat) : Int))] ∧ Hx = H ++ [.cells (ownG out.length) 4 (r4 out)]) (m.length) ?_ ?_
    · refine ⟨_, _, _, ⟨0, l, by omega, rfl, hlv.bd, Nat.le_refl _, rfl, rfl⟩, bS hbel [1] (absRf (jn @BW_t (jn @mvs_r4 (jn @r4_append (jn @r4_cons @r4_nil)))))⟩
    rintro k0 F Hx ⟨i, out, hm0, hra, hbd, hol, rfl, rfl⟩ J0 hJ0
    refine rcs g'10 (fun h10 h10d _ => ?_) (fun h10 h10d g'14 => ?_)
    · have hlt : i < m.length := by omega
      have hdr := drop_g4 hlt
      have hgd := gdB_iff.1 (hmv.good _ (List.getElem_mem hlt))
      have hg4 := g4_eq hlt
      rw [← hg4] at hgd
      simp only at hgd
      have hbd' := hbd.mono (C := 1152921504606846976) (by omega)
      have hpl := putE_len (g41 m i, g42 m i, g43 m i, g44 m i) out
      have q11 := r4_p0 (l := m) (j := i) (by omega)
      have q12 := r4_at2 (l := m) (j := i) (by omega)
      have q13 := r4_at3 (l := m) (j := i) (by omega)
      have g'11 := (jn h10 (jn h10d (jn q11 (jn q12 (jn q13 g'10)))))
      refine runTf g'11 ?_
      refine cx (rput_c _ _ out _ _ _ _ (slA) (by omega) hbd' (by omega) (by omega)) ?_
      refine rcs g'11 (fun h14 h14d g'12 => ?_) (fun h14 h14d g'13 => ?_)
      · have hfin : radR l m = ([], 2) := by unfold radR; rw [if_pos (by rw [vldE_iff.2 hlv, vldE_iff.2 hmv]; rfl), hra, hdr]; simp only [radL]; rw [if_neg (by rw [h14d]; decide)]
        refine runTf g'12 ?_
        refine hQ _ _ (end_byG (.inl rfl) hbel (x1 := .tup [.sl none 0 (some 0), iV 2]) (l2 := [.cells false 4 []]) (.tup [.sl (some (H.length, 0)) 0 none, iV 2]) (resT Tryz.results37) [.cells false 4 []] rfl [2] (by decide) ⟨by first | (rw [hfin]; done) | (rw [hfin]; rfl), by first | (rw [hfin]; done) | (rw [hfin]; rfl)⟩ ?_)
        exact absWf @mvs_r4
      have hra2 : radL l m = radL (putE (g41 m i, g42 m i, g43 m i, g44 m i) out) (m.drop (i + 1)) := by rw [hra, hdr]; simp only [radL]; rw [if_pos h14d]
      refine runTf g'13 ?_
      refine hJ0 _ _ ⟨k0 - 1, by omega, _, _, _, ⟨i + 1, (putE (g41 m i, g42 m i, g43 m i, g44 m i) out), by omega, hra2, (fit_bd hbd (by simp only; omega) h14d), (by omega), rfl, rfl⟩, bS hbel [1] (absRf (jn @r4_append (jn @r4_cons (jn @r4_nil @mvs_r4))))⟩
    have hdz : m.drop i = [] := List.drop_of_length_le (by omega)
    have hfin : radR l m = (out, 0) := by unfold radR; rw [if_pos (by rw [vldE_iff.2 hlv, vldE_iff.2 hmv]; rfl), hra, hdz]; rfl
    refine rcs g'14 (fun h15 h15d _ => ?_) (fun h15 h15d g'15 => ?_)
    · omega
    refine runTf g'15 ?_
    refine hQ _ _ (end_byG (.inl rfl) hbel (x1 := .tup [.sl (some (H.length, 0)) out.length none, iV 0]) (l2 := [.cells (ownG out.length) 4 (r4 out)]) (.tup [.sl (some (H.length, 0)) out.length none, iV 0]) (resT Tryz.results37) [] rfl [0] (by decide) ⟨by first | (rw [hfin]; done) | (rw [hfin]; rfl), by first | (rw [hfin]; done) | (rw [hfin]; rfl)⟩ ?_)
    exact absWf @mvs_r4
  have hfin : radR l m = ([], 1) := by unfold radR; rw [h1d]; rfl
  refine runTf g'16 ?_
  refine hQ _ _ (end_byE (.inl rfl) hbel (x1 := .tup [.sl none 0 (some 0), iV 1]) (l2 := [.cells false 4 []]) (.tup [.sl (some (H.length, 0)) 0 none, iV 1]) (resT Tryz.results37) [.cells false 4 []] rfl [0] (by decide) ⟨by first | (rw [hfin]; done) | (rw [hfin]; rfl), by first | (rw [hfin]; done) | (rw [hfin]; rfl)⟩ ?_)
  exact absWf @mvs_r4
theorem put_cel {e : T4} : ∀ {l : List T4} {y : T4}, y ∈ putE e l → cel y = cel e ∨ ∃ z ∈ l, cel z = cel y
  | [], y, h => .inl (by rw [List.mem_singleton.1 (show y ∈ [e] from h)])
  | a :: l, y, h => by
    unfold putE at h
    split at h
    · rename_i hc
      split at h
      · exact .inr ⟨y, List.mem_cons_of_mem _ h, rfl⟩
      rcases List.mem_cons.1 h with q | q
      · left; rw [q]; rfl
      exact .inr ⟨y, List.mem_cons_of_mem _ q, rfl⟩
    split at h
    · rcases List.mem_cons.1 h with q | q
      · left; rw [q]
      exact .inr ⟨y, q, rfl⟩
    rcases List.mem_cons.1 h with q | q
    · exact .inr ⟨a, List.mem_cons_self .., by rw [q]⟩
    rcases put_cel q with r | ⟨z, hz, r⟩
    · exact .inl r
    exact .inr ⟨z, List.mem_cons_of_mem _ hz, r⟩
theorem befE_cel {a b c d : T4} (h : befE a b) (h1 : cel a = cel c) (h2 : cel b = cel d) : befE c d := by
  unfold befE at *
  have e1 : (a.1, a.2.1) = (c.1, c.2.1) := h1
  have e2 : (b.1, b.2.1) = (d.1, d.2.1) := h2
  rw [← e1, ← e2]; exact h
theorem put_strict {e : T4} : ∀ {l : List T4}, l.Pairwise befE → (putE e l).Pairwise befE
  | [], _ => by unfold putE; simp
  | a :: l, h => by
    rw [List.pairwise_cons] at h
    unfold putE
    split
    · rename_i hc
      split
      · exact h.2
      rw [List.pairwise_cons]
      exact ⟨fun y hy => befE_cel (h.1 y hy) hc rfl, h.2⟩
    rename_i hc
    split
    · rename_i hb
      rw [List.pairwise_cons, List.pairwise_cons]
      refine ⟨fun y hy => ?_, h⟩
      rcases List.mem_cons.1 hy with q | q
      · rw [q]; exact hb
      exact befE_trans hb (h.1 y q)
    rename_i hb
    rw [List.pairwise_cons]
    refine ⟨fun y hy => ?_, put_strict h.2⟩
    rcases put_cel hy with q | ⟨z, hz, q⟩
    · have hae : befE a e := by
        rcases befP_tri (cel a) (cel e) with k | k | k
        · exact k
        · exact absurd k hc
        exact absurd k hb
      exact befE_cel hae rfl q.symm
    exact befE_cel (h.1 z hz) rfl q
theorem put_nz {e : T4} (he : e.2.2 ≠ (0, 0)) : ∀ {l : List T4}, nzE l → nzE (putE e l)
  | [], _ => fun y hy => by rw [List.mem_singleton.1 (show y ∈ [e] from hy)]; exact he
  | a :: l, h => fun y hy => by
    have hl : nzE l := fun z hz => h z (List.mem_cons_of_mem _ hz)
    unfold putE at hy
    split at hy
    · split at hy
      · exact hl y hy
      rename_i hn
      rcases List.mem_cons.1 hy with q | q
      · rw [q]; intro k; exact hn ⟨congrArg (·.1) k, congrArg (·.2) k⟩
      exact hl y q
    split at hy
    · rcases List.mem_cons.1 hy with q | q
      · rw [q]; exact he
      exact h y q
    rcases List.mem_cons.1 hy with q | q
    · rw [q]; exact h a (List.mem_cons_self ..)
    exact put_nz he hl y q
/-- A pair of counters is added. -/
def pad (p q : Int × Int) : Int × Int := (p.1 + q.1, p.2 + q.2)
theorem pad_z (p : Int × Int) : pad p (0, 0) = p := Prod.ext (Int.add_zero _) (Int.add_zero _)
theorem z_pad (p : Int × Int) : pad (0, 0) p = p := Prod.ext (Int.zero_add _) (Int.zero_add _)
theorem cnt_cons (e : T4) (l : List T4) (c : Int × Int) : cnt (e :: l) c = if cel e = c then pad e.2.2 (cnt l c) else cnt l c := rfl
theorem strict_not {a : T4} {l : List T4} (h : (a :: l).Pairwise befE) : cel a ∉ l.map cel := by
  have := strict_nodup h
  rw [List.map_cons, List.nodup_cons] at this
  exact this.1
theorem put_cnt {e : T4} (c : Int × Int) : ∀ {l : List T4}, l.Pairwise befE → cnt (putE e l) c = if cel e = c then pad (cnt l c) e.2.2 else cnt l c
  | [], _ => by
    show cnt [e] c = _
    rw [cnt_cons]
    split
    · rw [show cnt ([] : List T4) c = (0, 0) from rfl, pad_z, z_pad]
    rfl
  | a :: l, h => by
    have hn := strict_not h
    rw [List.pairwise_cons] at h
    unfold putE
    split
    · rename_i hc
      split
      · rename_i hz
        rw [cnt_cons, hc]
        by_cases q : cel e = c
        · rw [if_pos q, if_pos q, ← q, cnt_not (hc ▸ hn), pad_z]
          exact Prod.ext hz.1.symm hz.2.symm
        rw [if_neg q, if_neg q]
      rw [cnt_cons, cnt_cons, hc]
      show (if cel e = c then _ else _) = _
      by_cases q : cel e = c
      · rw [if_pos q, if_pos q, if_pos q, ← q, cnt_not (hc ▸ hn), pad_z, pad_z]; rfl
      rw [if_neg q, if_neg q, if_neg q]
    rename_i hc
    split
    · rename_i hb
      rw [cnt_cons]
      by_cases q : cel e = c
      · rw [if_pos q, if_pos q]
        exact Prod.ext (Int.add_comm _ _) (Int.add_comm _ _)
      rw [if_neg q, if_neg q]
    rw [cnt_cons, cnt_cons, put_cnt c h.2]
    by_cases q : cel e = c
    · rw [if_pos q, if_pos q]
      rw [if_neg (fun k => hc (k.trans q.symm)), if_neg (fun k => hc (k.trans q.symm))]
    rw [if_neg q, if_neg q]
/-- Counters that fit. -/
def wi (p : Int × Int) : Bool := within p.1 1099511627776 && within p.2 1099511627776
theorem fit_wi {e : T4} (he : wi e.2.2 = true) : ∀ {l : List T4}, l.Pairwise befE → fitE e l = wi (pad (cnt l (cel e)) e.2.2)
  | [], _ => by
    show true = _
    rw [show cnt ([] : List T4) (cel e) = (0, 0) from rfl, z_pad, he]
  | a :: l, h => by
    have hn := strict_not h
    have h' := h
    rw [List.pairwise_cons] at h
    unfold fitE
    rw [cnt_cons]
    split
    · rename_i hc
      rw [cnt_not (hc ▸ hn), pad_z]; rfl
    rename_i hc
    split
    · rename_i hb
      have : cel e ∉ l.map cel := fun k => by
        obtain ⟨z, hz, q⟩ := List.mem_map.1 k
        have := befE_trans hb (h.1 z hz)
        exact befP_irr (befE_cel this rfl q : befE e e)
      rw [cnt_not this, z_pad, he]
    exact fit_wi he h.2
theorem gd_wi {x : T4} (h : gdB x.1 x.2.1 x.2.2.1 x.2.2.2 = true) : wi x.2.2 = true ∧ x.2.2 ≠ (0, 0) := by
  have k := gdB_iff.1 h
  unfold wi
  rw [Bool.and_eq_true, within_iff, within_iff]
  refine ⟨⟨k.1, k.2.1⟩, fun q => ?_⟩
  have h1 : x.2.2.1 = 0 := congrArg (·.1) q
  have h2 : x.2.2.2 = 0 := congrArg (·.2) q
  omega
theorem radL_spec : ∀ (b a : List T4), a.Pairwise befE → nzE a → b.Pairwise befE → (∀ e ∈ b, gdB e.1 e.2.1 e.2.2.1 e.2.2.2 = true) →
    (∀ s, radL a b = some s → s.Pairwise befE ∧ nzE s ∧ (∀ c, cnt s c = pad (cnt a c) (cnt b c)) ∧ ∀ e ∈ b, wi (pad (cnt a (cel e)) e.2.2) = true) ∧ (radL a b = none → ∃ e ∈ b, wi (pad (cnt a (cel e)) e.2.2) = false)
  | [], a, ha, hz, _, _ => by
    refine ⟨fun s hs => ?_, fun h => by cases h⟩
    rw [radL, Option.some.injEq] at hs
    subst hs
    exact ⟨ha, hz, fun c => (pad_z _).symm, fun e he => by cases he⟩
  | e :: b, a, ha, hz, hb, hg => by
    have hge := gd_wi (hg e (List.mem_cons_self ..))
    have hn := strict_not hb
    rw [List.pairwise_cons] at hb
    rw [radL, fit_wi hge.1 ha]
    cases hw : wi (pad (cnt a (cel e)) e.2.2) with
    | false =>
      rw [if_neg (by decide)]
      exact ⟨fun s hs => (by cases hs), fun _ => ⟨e, List.mem_cons_self .., hw⟩⟩
    | true =>
      rw [if_pos rfl]
      obtain ⟨i1, i2⟩ := radL_spec b (putE e a) (put_strict ha) (put_nz hge.2 hz) hb.2 fun x hx => hg x (List.mem_cons_of_mem _ hx)
      have hne : ∀ x ∈ b, cel e ≠ cel x := fun x hx q => hn (q ▸ List.mem_map_of_mem hx)
      refine ⟨fun s hs => ?_, fun hs => ?_⟩
      · obtain ⟨j1, j2, j3, j4⟩ := i1 s hs
        refine ⟨j1, j2, fun c => ?_, fun x hx => ?_⟩
        · rw [j3, put_cnt c ha, cnt_cons]
          split
          · exact Prod.ext (Int.add_assoc ..) (Int.add_assoc ..)
          rfl
        rcases List.mem_cons.1 hx with q | q
        · rw [q]; exact hw
        have := j4 x q
        rwa [put_cnt _ ha, if_neg (hne x q)] at this
      obtain ⟨x, hx, h⟩ := i2 hs
      rw [put_cnt _ ha, if_neg (hne x hx)] at h
      exact ⟨x, List.mem_cons_of_mem _ hx, h⟩
theorem sum_cnt (a b : List T4) (c : Int × Int) : cnt (lstE (addL (addL [] a) b)) c = pad (cnt a c) (cnt b c) := by
  rw [cnt_lst, cnt_addL b c (addL_nodup a (by simp)), cnt_addL a c (by simp)]
  show (0 + _ + _, 0 + _ + _) = _
  rw [Int.zero_add, Int.zero_add]; rfl
theorem sum_strict (a b : List T4) : (lstE (addL (addL [] a) b)).Pairwise befE := lst_strict (addL_nodup b (addL_nodup a (by simp)))
theorem cnt_wi {a : List T4} (h : VldE a) (c : Int × Int) : wi (cnt a c) = true := by
  by_cases q : c ∈ a.map cel
  · obtain ⟨e, he, rfl⟩ := List.mem_map.1 q
    rw [cnt_mem (strict_nodup h.ord) he]
    exact (gd_wi (h.good e he)).1
  rw [cnt_not q]; decide
/-- Both sums are the same. -/
theorem com_rad (a b : List T4) : comR a b = radR a b := by
  unfold comR radR
  cases hv : vldE a && vldE b with
  | false => rfl
  | true =>
    rw [if_pos rfl, if_pos rfl]
    rw [Bool.and_eq_true] at hv
    have ha := vldE_iff.1 hv.1
    have hb := vldE_iff.1 hv.2
    obtain ⟨i1, i2⟩ := radL_spec b a ha.ord ha.nz hb.ord hb.good
    have hany : ∀ x ∈ lstE (addL (addL [] a) b), x.2.2 = pad (cnt a (cel x)) (cnt b (cel x)) := fun x hx => by
      rw [← sum_cnt, cnt_mem (strict_nodup (sum_strict a b)) hx]
    cases hr : radL a b with
    | none =>
      obtain ⟨e, he, hw⟩ := i2 hr
      have hne : pad (cnt a (cel e)) e.2.2 ≠ (0, 0) := fun q => by rw [q] at hw; exact absurd hw (by decide)
      have hmem : (e.1, e.2.1, pad (cnt a (cel e)) e.2.2) ∈ lstE (addL (addL [] a) b) := by
        rw [mem_cnt (sum_strict a b) (lst_nz _)]
        refine ⟨?_, hne⟩
        show cnt _ (cel e) = _
        rw [sum_cnt, cnt_mem (strict_nodup hb.ord) he]
      rw [if_pos (List.any_eq_true.2 ⟨_, hmem, by show (!(wi _)) = true; rw [hw]; rfl⟩)]
    | some s =>
      obtain ⟨j1, j2, j3, j4⟩ := i1 s hr
      have es : lstE (addL (addL [] a) b) = s := cnt_eq (sum_strict a b) (lst_nz _) j1 j2 fun c => by rw [sum_cnt, j3]
      rw [if_neg, es]
      intro hq
      obtain ⟨x, hx, hn⟩ := List.any_eq_true.1 hq
      have hx2 := hany x hx
      have hw : wi x.2.2 = false := by
        have : (!(wi x.2.2)) = true := hn
        cases h : wi x.2.2 with
        | false => rfl
        | true => rw [h] at this; cases this
      by_cases q : cel x ∈ b.map cel
      · obtain ⟨e, he, hc⟩ := List.mem_map.1 q
        have := j4 e he
        rw [hc] at this
        rw [hx2, ← hc, cnt_mem (strict_nodup hb.ord) he, hc, this] at hw
        cases hw
      rw [hx2, cnt_not q, pad_z, cnt_wi ha] at hw
      cases hw
/-- The order of the lists does not matter. -/
theorem com_comm (a b : List T4) : comR a b = comR b a := by
  unfold comR
  have e : lstE (addL (addL [] a) b) = lstE (addL (addL [] b) a) := cnt_eq (sum_strict a b) (lst_nz _) (sum_strict b a) (lst_nz _) fun c => by
    rw [sum_cnt, sum_cnt]; exact Prod.ext (Int.add_comm ..) (Int.add_comm ..)
  rw [e, Bool.and_comm]
/-- An entry of a larger cell. -/
def shE (v : Int) (e : T4) : T4 := (e.1 / (2 ^ v.toNat), e.2.1 / (2 ^ v.toNat), e.2.2.1, e.2.2.2)
theorem pow_ok {n : Nat} (h : n ≤ 10) : IntKind.i64.wrap (1 * 2 ^ min n IntKind.i64.bits) = 2 ^ n ∧ 0 < (2 : Int) ^ n ∧ (2 : Int) ^ n ≤ 1024 := by
  rcases (by omega : n = 0 ∨ n = 1 ∨ n = 2 ∨ n = 3 ∨ n = 4 ∨ n = 5 ∨ n = 6 ∨ n = 7 ∨ n = 8 ∨ n = 9 ∨ n = 10) with rfl | rfl | rfl | rfl | rfl | rfl | rfl | rfl | rfl | rfl | rfl <;> decide
/-- tile.Reduce -/
def redR (l : List T4) (v : Int) : List T4 × Int := if vldE l = false then ([], 1) else if v < 0 ∨ 10 < v then ([], 2) else if (addL [] (l.map (shE v))).any (fun e : T4 => !(within e.2.2.1 1099511627776 && within e.2.2.2 1099511627776)) = true then ([], 2) else (lstE (addL [] (l.map (shE v))), 0)
theorem g4_sh {l : List T4} {v : Int} {i : Nat} (h : i < l.length) : g41 (l.map (shE v)) i = g41 l i / (2 ^ v.toNat) ∧ g42 (l.map (shE v)) i = g42 l i / (2 ^ v.toNat) ∧ g43 (l.map (shE v)) i = g43 l i ∧ g44 (l.map (shE v)) i = g44 l i := by
  simp [g41, g42, g43, g44, g4, List.getD_eq_getElem?_getD, h, shE]
theorem fdiv_p {n : Nat} (h : n ≤ 10) (x : Int) : Int.fdiv x (2 ^ min n IntKind.i64.bits) = x / 2 ^ n := by
  rw [Nat.min_eq_left (show n ≤ IntKind.i64.bits from Nat.le_trans h (by decide)), Int.fdiv_eq_ediv_of_nonneg]
  exact Int.le_of_lt (pow_ok h).2.1
theorem cn_step {S rem r1 r2 : List T4} {x : T4} (h : ∀ e ∈ S, (fun e : T4 => !(within e.2.2.1 1099511627776 && within e.2.2.2 1099511627776)) e = true → e ∈ rem) (hre : rem = r1 ++ x :: r2) (hx : (fun e : T4 => !(within e.2.2.1 1099511627776 && within e.2.2.2 1099511627776)) x = false) : ∀ e ∈ S, (fun e : T4 => !(within e.2.2.1 1099511627776 && within e.2.2.2 1099511627776)) e = true → e ∈ r1 ++ r2 := fun e he hn => by
  have k := h e he hn
  rw [hre, List.mem_append, List.mem_cons] at k
  rw [List.mem_append]
  rcases k with k | k | k
  · exact .inl k
  · rw [k, hx] at hn; cases hn
  exact .inr k
theorem po_z {o D rem r1 r2 : List T4} {x : T4} (h : List.Perm (o ++ delL zerB rem) D) (hre : rem = r1 ++ x :: r2) (hz : zerB x = true) : List.Perm (o ++ delL zerB (r1 ++ r2)) D := by
  have e : delL zerB rem = delL zerB (r1 ++ r2) := by rw [hre]; unfold delL; simp [hz]
  rw [← e]; exact h
theorem po_k {o D rem r1 r2 : List T4} {x : T4} (h : List.Perm (o ++ delL zerB rem) D) (hre : rem = r1 ++ x :: r2) (hz : zerB x = false) : List.Perm ((o ++ [x]) ++ delL zerB (r1 ++ r2)) D := by
  have e : delL zerB rem = delL zerB r1 ++ x :: delL zerB r2 := by rw [hre]; unfold delL; simp [hz]
  have e2 : delL zerB (r1 ++ r2) = delL zerB r1 ++ delL zerB r2 := by unfold delL; rw [List.filter_append]
  refine List.Perm.trans ?_ h
  rw [e, e2, List.append_assoc]
  show (o ++ x :: (delL zerB r1 ++ delL zerB r2)).Perm _
  exact (List.perm_middle.symm).append_left o
theorem red_c (H : AHeap) (s : AV) (l : List T4) (lvl : Int) (hs : Sl H 4 s l.length (r4 l)) (hl : l.length ≤ 1000) : ACalls Tryz.prog 12 [s, iV lvl] H (fun v H' => v = .tup [.sl (some (H.length, 0)) (((redR l lvl).1).length) (capG ((redR l lvl).1).length), iV ((redR l lvl).2)] ∧ H' = H ++ [.cells (ownG ((redR l lvl).1).length) 4 (r4 ((redR l lvl).1))]) := by
  obtain ⟨bs, os, cs, rfl, hbs⟩ := hs
  have hbls := getElem?_lt hbs
  have hb0s := fun l => get_app (l := l) hbs
  obtain ⟨M, hM⟩ : ∃ M, l.map (shE lvl) = M := ⟨_, rfl⟩
  have hMl : M.length = l.length := by rw [← hM, List.length_map]
  (refine ACalls_pieces Tryz.func12 _ rfl (Nat.le_of_ble_eq_true (by kernel_rfl)) rfl ?_; intro hbel Q hQ hQ' c hc; unfold Tryz.f12 at hc; simp only [Option.some.injEq] at hc; subst hc; clear hQ')
  refine sqR hQ fun Q1 hn1 hQ1 he1 => ?_
  refine fnF ?_
  simp -implicitDefEqProofs (disch := omega) only [lk_gen, lk_mp, up_eq, de_eq, mset_nil, hbs, hb0s, aApp_nil, aApp_none, aApp_some, aApp_grw, simprocAttr, amset, tyset, Function.comp_apply, one1, lenV, calleeOf, lateOk, belowV, aop, AV.ofValue, AV.ofCell, AV.cells, AV.flat, AV.one, arep, aBin, aConv]
  repeat refine And.intro (by omega) ?_
  refine hn1 _ _ ?_
  refine sqR hQ fun Q2 hn2 hQ2 he2 => ?_
  refine fnF ?_
  simp -implicitDefEqProofs (disch := omega) only [lk_gen, lk_mp, up_eq, de_eq, mset_nil, hbs, hb0s, aApp_nil, aApp_none, aApp_some, aApp_grw, simprocAttr, amset, tyset, Function.comp_apply, one1, lenV, calleeOf, lateOk, belowV, aop, AV.ofValue, AV.ofCell, AV.cells, AV.flat, AV.one, arep, aBin, aConv]
  repeat refine And.intro (by omega) ?_
  refine cv (valid_c _ _ l (⟨_, _, _, rfl, by first | exact hb0s _ | exact hbs⟩) (by omega)) ?_
  simp -implicitDefEqProofs (disch := omega) only [lk_gen, lk_mp, up_eq, de_eq, mset_nil, hbs, hb0s, aApp_nil, aApp_none, aApp_some, aApp_grw, simprocAttr, amset, tyset, Function.comp_apply, one1, lenV, calleeOf, lateOk, belowV, aop, AV.ofValue, AV.ofCell, AV.cells, AV.flat, AV.one, arep, aBin, aConv]
  repeat refine And.intro (by omega) ?_
  refine cond_split (fun h1 => ?_) (fun h1 => ?_)
  · have h1d := bsT h1
    have hfin : redR l lvl = ([], 1) := by unfold redR; rw [if_pos h1d]
    simp -implicitDefEqProofs (disch := omega) only [lk_gen, lk_mp, up_eq, de_eq, mset_nil, hbs, hb0s, h1, h1d, aApp_nil, aApp_none, aApp_some, aApp_grw, simprocAttr, amset, tyset, Function.comp_apply, one1, lenV, calleeOf, lateOk, belowV, aop, AV.ofValue, AV.ofCell, AV.cells, AV.flat, AV.one, arep, aBin, aConv]
    repeat refine And.intro (by omega) ?_
    refine hQ2 _ _ (end_byE (.inl rfl) hbel (x1 := .tup [.sl none 0 (some 0), iV 1]) (l2 := [.cells false 4 []]) (.tup [.sl (some (H.length, 0)) 0 (some 0), iV 1]) (resT Tryz.results12) [.cells false 4 []] rfl [0] (by decide) ⟨by first | (rw [hfin]; done) | (rw [hfin]; rfl) | (rw [hfin]; simp only [srtE_len]; done) | (rw [hfin]; simp only [srtE_len]; rfl), by first | (rw [hfin]; done) | (rw [hfin]; rfl) | (rw [hfin]; simp only [srtE_len]; done) | (rw [hfin]; simp only [srtE_len]; rfl)⟩ ?_)
    exact absWf @mvs_r4
  have h1d := bsT h1
  have hV := vldE_iff.1 h1d
  simp -implicitDefEqProofs (disch := omega) only [lk_gen, lk_mp, up_eq, de_eq, mset_nil, hbs, hb0s, h1, h1d, aApp_nil, aApp_none, aApp_some, aApp_grw, simprocAttr, amset, tyset, Function.comp_apply, one1, lenV, calleeOf, lateOk, belowV, aop, AV.ofValue, AV.ofCell, AV.cells, AV.flat, AV.one, arep, aBin, aConv]
  repeat refine And.intro (by omega) ?_
  refine gd_split (fun h2 => ?_) (fun h2 => ?_)
  · have h2d := bsT h2
    simp -implicitDefEqProofs (disch := omega) only [lk_gen, lk_mp, up_eq, de_eq, mset_nil, hbs, hb0s, h1, h1d, h2, h2d, aApp_nil, aApp_none, aApp_some, aApp_grw, simprocAttr, amset, tyset, Function.comp_apply, one1, lenV, calleeOf, lateOk, belowV, aop, AV.ofValue, AV.ofCell, AV.cells, AV.flat, AV.one, arep, aBin, aConv]
    repeat refine And.intro (by omega) ?_
    refine cond_split (fun h3 => ?_) (fun h3 => ?_)
    · have h3d := bsT h3
      have hfin : redR l lvl = ([], 2) := by unfold redR; rw [if_neg (by rw [vldE_iff.2 hV]; decide), if_pos (by omega)]
      simp -implicitDefEqProofs (disch := omega) only [lk_gen, lk_mp, up_eq, de_eq, mset_nil, hbs, hb0s, h1, h1d, h2, h2d, h3, h3d, aApp_nil, aApp_none, aApp_some, aApp_grw, simprocAttr, amset, tyset, Function.comp_apply, one1, lenV, calleeOf, lateOk, belowV, aop, AV.ofValue, AV.ofCell, AV.cells, AV.flat, AV.one, arep, aBin, aConv]
      repeat refine And.intro (by omega) ?_
      refine hQ2 _ _ (end_byE (.inl rfl) hbel (x1 := .tup [.sl none 0 (some 0), iV 2]) (l2 := [.cells false 4 []]) (.tup [.sl (some (H.length, 0)) 0 (some 0), iV 2]) (resT Tryz.results12) [.cells false 4 []] rfl [0] (by decide) ⟨by first | (rw [hfin]; done) | (rw [hfin]; rfl) | (rw [hfin]; simp only [srtE_len]; done) | (rw [hfin]; simp only [srtE_len]; rfl), by first | (rw [hfin]; done) | (rw [hfin]; rfl) | (rw [hfin]; simp only [srtE_len]; done) | (rw [hfin]; simp only [srtE_len]; rfl)⟩ ?_)
      exact absWf @mvs_r4
    have h3d := bsT h3
    have hpw := pow_ok (n := lvl.toNat) (by omega)
    have hsfs := fdiv_p (n := lvl.toNat) (by omega)
    have hp1 := hpw.2.1
    have hp2 := hpw.2.2
    simp -implicitDefEqProofs (disch := omega) only [lk_gen, lk_mp, up_eq, de_eq, mset_nil, hbs, hb0s, h1, h1d, h2, h2d, h3, h3d, hsfs, aApp_nil, aApp_none, aApp_some, aApp_grw, simprocAttr, amset, tyset, Function.comp_apply, one1, lenV, calleeOf, lateOk, belowV, aop, AV.ofValue, AV.ofCell, AV.cells, AV.flat, AV.one, arep, aBin, aConv]
    repeat refine And.intro (by omega) ?_
    refine hn2 _ _ ?_
    refine sqR hQ fun Q3 hn3 hQ3 he3 => ?_
    refine fnF ?_
    simp -implicitDefEqProofs (disch := omega) only [lk_gen, lk_mp, up_eq, de_eq, mset_nil, hbs, hb0s, h1, h1d, h2, h2d, h3, h3d, hsfs, aApp_nil, aApp_none, aApp_some, aApp_grw, simprocAttr, amset, tyset, Function.comp_apply, one1, lenV, calleeOf, lateOk, belowV, aop, AV.ofValue, AV.ofCell, AV.cells, AV.flat, AV.one, arep, aBin, aConv]
    repeat refine And.intro (by omega) ?_
    refine hn3 _ _ ?_
    refine sqR hQ fun Q4 hn4 hQ4 he4 => ?_
    refine fnF ?_
    simp -implicitDefEqProofs (disch := omega) only [lk_gen, lk_mp, up_eq, de_eq, mset_nil, hbs, hb0s, h1, h1d, h2, h2d, h3, h3d, hsfs, aApp_nil, aApp_none, aApp_some, aApp_grw, simprocAttr, amset, tyset, Function.comp_apply, one1, lenV, calleeOf, lateOk, belowV, aop, AV.ofValue, AV.ofCell, AV.cells, AV.flat, AV.one, arep, aBin, aConv]
    repeat refine And.intro (by omega) ?_
    refine glp (fun k F Hx => ∃ i : Nat, i + k = l.length ∧ bdE (1099511627776 * (i : Int)) (addL [] (M.take i)) ∧ F = [(1, iV lvl), (6, .mp (some (H.length))), (26, .sl (some (bs, 0)) l.length cs), (27, iV ((l.length : Nat) : Int)), (28, iV ((i : Nat) : Int))] ∧ Hx = H ++ [.map (mapE (addL [] (M.take i)))]) (l.length) ?_ ?_
    · refine ⟨_, _, _, ⟨0, by omega, (fun e he => absurd he (by simp [addL])), rfl, rfl⟩, bS hbel [0] (absWf (jn @addL_nil (jn @List.take_zero.{0} (jn @mv_mapE @mapE_nil))))⟩
    rintro k0 F Hx ⟨i, hm0, hbd, rfl, rfl⟩ J0 hJ0
    simp -implicitDefEqProofs (disch := omega) only [lk_gen, lk_mp, up_eq, de_eq, mset_nil, hbs, hb0s, h1, h1d, h2, h2d, h3, h3d, hsfs, aApp_nil, aApp_none, aApp_some, aApp_grw, simprocAttr, amset, tyset, Function.comp_apply, one1, lenV, calleeOf, lateOk, belowV, aop, AV.ofValue, AV.ofCell, AV.cells, AV.flat, AV.one, arep, aBin, aConv]
    repeat refine And.intro (by omega) ?_
    refine cond_split (fun h4 => ?_) (fun h4 => ?_)
    · have h4d := bsT h4
      have hlt : i < l.length := by omega
      have hgd := gdB_iff.1 (hV.good _ (List.getElem_mem hlt))
      have hg4 := g4_eq hlt
      rw [← hg4] at hgd
      simp only at hgd
      have hlk := bdE.lk (by omega) hbd ((g41 l i) / (2 ^ lvl.toNat)) ((g42 l i) / (2 ^ lvl.toNat))
      have hst := addL_take (l := []) (m := M) (i := i) (by omega)
      have hgs := g4_sh (v := lvl) hlt
      rw [hM] at hgs
      rw [hgs.1, hgs.2.1, hgs.2.2.1, hgs.2.2.2] at hst
      have q5 := r4_load (l := l) (j := i) (by omega)
      have qm66_l := fun l x y => lk_ment (P := Tryz.prog) (t := 56) (kt := 30) (et := 32) (by kernel_rfl) tEq30 (by kernel_rfl) (by kernel_rfl) l x y
      have qm66_u := fun l x y h p => up_ment (P := Tryz.prog) (t := 56) (kt := 30) (et := 32) (by kernel_rfl) tEq30 l x y h p
      simp -implicitDefEqProofs (disch := omega) only [lk_gen, lk_mp, up_eq, de_eq, mset_nil, hbs, hb0s, h1, h1d, h2, h2d, h3, h3d, hsfs, h4, h4d, r4_len, q5, qm66_l, qm66_u, aApp_nil, aApp_none, aApp_some, aApp_grw, simprocAttr, amset, tyset, Function.comp_apply, one1, lenV, calleeOf, lateOk, belowV, aop, AV.ofValue, AV.ofCell, AV.cells, AV.flat, AV.one, arep, aBin, aConv]
      repeat refine And.intro (by omega) ?_
      refine hJ0 _ _ ⟨k0 - 1, by omega, _, _, _, ⟨i + 1, by omega, (by rw [hst]; exact (addE_bd (by omega) (by omega) hbd (C := 1099511627776) (by omega) (by omega)).mono (by omega)), rfl, rfl⟩, bS hbel [0] (absWf (jn @hst (jn @addE.eq_1 (jn @mv_mapE @mapE_nil))))⟩
    have h4d := bsT h4
    obtain rfl : i = l.length := by omega
    have hsft : List.take l.length M = M := List.take_of_length_le (by omega)
    rw [hsft] at hbd
    simp -implicitDefEqProofs (disch := omega) only [lk_gen, lk_mp, up_eq, de_eq, mset_nil, hbs, hb0s, h1, h1d, h2, h2d, h3, h3d, hsfs, h4, h4d, hsft, aApp_nil, aApp_none, aApp_some, aApp_grw, simprocAttr, amset, tyset, Function.comp_apply, one1, lenV, calleeOf, lateOk, belowV, aop, AV.ofValue, AV.ofCell, AV.cells, AV.flat, AV.one, arep, aBin, aConv]
    repeat refine And.intro (by omega) ?_
    refine hn4 _ _ ?_
    refine sqR hQ fun Q5 hn5 hQ5 he5 => ?_
    refine fnF ?_
    simp -implicitDefEqProofs (disch := omega) only [lk_gen, lk_mp, up_eq, de_eq, mset_nil, hbs, hb0s, h1, h1d, h2, h2d, h3, h3d, hsfs, h4, h4d, hsft, aApp_nil, aApp_none, aApp_some, aApp_grw, simprocAttr, amset, tyset, Function.comp_apply, one1, lenV, calleeOf, lateOk, belowV, aop, AV.ofValue, AV.ofCell, AV.cells, AV.flat, AV.one, arep, aBin, aConv]
    repeat refine And.intro (by omega) ?_
    refine hn5 _ _ ?_
    refine sqR hQ fun Q6 hn6 hQ6 he6 => ?_
    refine sqR hQ6 fun Q7 hn7 hQ7 he7 => ?_
    refine AW_rest ?_
    refine ARest_pre (q := false) (l := [_]) rfl (fun J8 hJ8 => ?_)
    simp -implicitDefEqProofs (disch := omega) only [lk_gen, lk_mp, up_eq, de_eq, mset_nil, hbs, hb0s, h1, h1d, h2, h2d, h3, h3d, hsfs, h4, h4d, hsft, aApp_nil, aApp_none, aApp_some, aApp_grw, simprocAttr, amset, tyset, Function.comp_apply, one1, lenV, calleeOf, lateOk, belowV, aop, AV.ofValue, AV.ofCell, AV.cells, AV.flat, AV.one, arep, aBin, aConv]
    repeat refine And.intro (by omega) ?_
    refine inv_of (hJ8 _ _ ?_)
    refine ARest_range (kt := 30) (e := 32) (es := mapE (addL [] (M))) rfl rfl rfl (by first | rfl | (simp; done)) (fun bs ck hbsl => ?_)
    refine ARest_fin (q := false) rfl ?_
    simp -implicitDefEqProofs (disch := omega) only [lk_gen, lk_mp, up_eq, de_eq, mset_nil, hbs, hb0s, h1, h1d, h2, h2d, h3, h3d, hsfs, h4, h4d, hsft, aApp_nil, aApp_none, aApp_some, aApp_grw, simprocAttr, amset, tyset, Function.comp_apply, one1, lenV, calleeOf, lateOk, belowV, aop, AV.ofValue, AV.ofCell, AV.cells, AV.flat, AV.one, arep, aBin, aConv]
    repeat refine And.intro (by omega) ?_
    refine hn7 _ _ ?_
    refine bkR hQ6 fun Q9 hn9 hQ9 he9 hb9 => ?_
    refine AW_loopA (fun k F Hx => ∃ sn : List Nat, ∃ rem : List T4, ∃ o : List T4, k = rem.length ∧ leftE (mapE (addL [] (M))) bs sn = mapE rem ∧ List.Perm (o ++ delL zerB rem) (delL zerB (addL [] (M))) ∧ (∀ e ∈ addL [] (M), (fun e : T4 => !(within e.2.2.1 1099511627776 && within e.2.2.2 1099511627776)) e = true → e ∈ rem) ∧ o.length + rem.length ≤ 1000 ∧ F = [(11, .sl (some (H.length + 2, 0)) o.length (capG o.length)), (62, .ptr (some (H.length + 1, 0)))] ∧ Hx = H ++ [.fmap (mapE (addL [] (M))) bs ck, .iter (H.length) bs sn ck, .cells (ownG o.length) 4 (r4 o)]) ((addL [] (M)).length) ?_ ?_
    · refine ⟨_, _, _, ⟨[], (addL [] (M)), [], rfl, (leftE_all hbsl.symm), (List.Perm.refl _), (fun e he _ => he), (by have q3 := addL_len M []; simp only [List.length_nil] at q3 ⊢; omega), rfl, rfl⟩, Abs.byG hbel [.cells false 4 []] rfl [0, 1, 2] (by decide) ?_⟩
      exact absRf (jn @mv_mapE (jn @mapE_nil (jn @r4_append (jn @r4_cons (jn @r4_nil @mvs_r4)))))
    rintro k1 F Hx ⟨sn, rem, o, hm1, hrem, hpo, hcn, hol, rfl, rfl⟩ Q10 hJ1 hr10 he10
    have hQ10 := fun F H' h => hr10 F H' (hQ9 F H' h)
    refine sqR hQ10 fun Q11 hn11 hQ11 he11 => ?_
    refine AW_rest ?_
    refine ARest_next (m := H.length) (bs := bs) (sn := sn) (ck := ck) (es := mapE (addL [] (M))) rfl rfl rfl (by first | rfl | (simp; done)) (by first | rfl | (simp; done)) (fun hlz => ?_) (fun l1 x l2 sx jx hxe hxs hl1 hl2 => ?_)
    · have hr0 : rem = [] := by have q := hrem.symm.trans hlz; unfold mapE at q; simpa using q
      rw [hr0] at hpo hcn
      have hpo2 : List.Perm o (delL zerB (addL [] (M))) := by have q := hpo; simpa [delL] using q
      have hsn := addL_nodup M (l := []) (by simp)
      have hnd : (o.map cel).Nodup := (hpo2.map cel).nodup_iff.2 (delL_nodup hsn)
      have hol2 : o.length ≤ 1000 := by have q1 := hpo2.length_eq; have q2 := delL_le (p := zerB) (l := addL [] (M)); have q3 := addL_len M []; simp only [List.length_nil] at q3; omega
      have hfin : redR l lvl = (srtE o, 0) := by unfold redR; rw [if_neg (by rw [vldE_iff.2 hV]; decide), if_neg (by omega), hM, if_neg (fun q => by obtain ⟨e, he, hn⟩ := List.any_eq_true.1 q; have := hcn e he hn; cases this)]; unfold lstE; rw [srtE_congr hpo2.symm (delL_nodup hsn)]
      refine ARest_fin (q := false) rfl ?_
      simp -implicitDefEqProofs (disch := omega) only [lk_gen, lk_mp, up_eq, de_eq, mset_nil, hbs, hb0s, h1, h1d, h2, h2d, h3, h3d, hsfs, h4, h4d, hsft, r4_len, r4_one, aApp_nil, aApp_none, aApp_some, aApp_grw, simprocAttr, amset, tyset, Function.comp_apply, one1, lenV, calleeOf, lateOk, belowV, aop, AV.ofValue, AV.ofCell, AV.cells, AV.flat, AV.one, arep, aBin, aConv]
      repeat refine And.intro (by omega) ?_
      refine hn11 _ _ ?_
      refine sqR hQ10 fun Q12 hn12 hQ12 he12 => ?_
      refine fnF ?_
      simp -implicitDefEqProofs (disch := omega) only [lk_gen, lk_mp, up_eq, de_eq, mset_nil, hbs, hb0s, h1, h1d, h2, h2d, h3, h3d, hsfs, h4, h4d, hsft, r4_len, r4_one, aApp_nil, aApp_none, aApp_some, aApp_grw, simprocAttr, amset, tyset, Function.comp_apply, one1, lenV, calleeOf, lateOk, belowV, aop, AV.ofValue, AV.ofCell, AV.cells, AV.flat, AV.one, arep, aBin, aConv]
      repeat refine And.intro (by omega) ?_
      refine he12 _ _ _ ?_
      refine he10 _ _ _ ?_
      refine hb9 _ _ ?_
      refine hn6 _ _ ?_
      refine fnF ?_
      simp -implicitDefEqProofs (disch := omega) only [lk_gen, lk_mp, up_eq, de_eq, mset_nil, hbs, hb0s, h1, h1d, h2, h2d, h3, h3d, hsfs, h4, h4d, hsft, r4_len, r4_one, aApp_nil, aApp_none, aApp_some, aApp_grw, simprocAttr, amset, tyset, Function.comp_apply, one1, lenV, calleeOf, lateOk, belowV, aop, AV.ofValue, AV.ofCell, AV.cells, AV.flat, AV.one, arep, aBin, aConv]
      repeat refine And.intro (by omega) ?_
      refine cv (sortr_k _ _ _ _ o [] (by rw [List.append_nil]; first | rfl | (simp; done)) (fun h => ownG_p h) hnd (by omega)) ?_
      simp -implicitDefEqProofs (disch := omega) only [lk_gen, lk_mp, up_eq, de_eq, mset_nil, hbs, hb0s, h1, h1d, h2, h2d, h3, h3d, hsfs, h4, h4d, hsft, r4_len, r4_one, aApp_nil, aApp_none, aApp_some, aApp_grw, simprocAttr, amset, tyset, Function.comp_apply, one1, lenV, calleeOf, lateOk, belowV, aop, AV.ofValue, AV.ofCell, AV.cells, AV.flat, AV.one, arep, aBin, aConv]
      repeat refine And.intro (by omega) ?_
      refine hQ _ _ (end_byG (.inl rfl) hbel (x1 := .tup [.sl (some (H.length + 2, 0)) o.length (capG o.length), iV 0]) (l2 := [.cells (ownG o.length) 4 (r4 (srtE o))]) (.tup [.sl (some (H.length, 0)) o.length (capG o.length), iV 0]) (resT Tryz.results12) [] rfl [2] (by decide) ⟨by first | (rw [hfin]; done) | (rw [hfin]; rfl) | (rw [hfin]; simp only [srtE_len]; done) | (rw [hfin]; simp only [srtE_len]; rfl), by first | (rw [hfin]; done) | (rw [hfin]; rfl) | (rw [hfin]; simp only [srtE_len]; done) | (rw [hfin]; simp only [srtE_len]; rfl)⟩ ?_)
      exact absWf @mvs_r4
    obtain ⟨r1, ⟨ex, ey, eh, ep⟩, r2, hre, rfl, rfl, rfl⟩ := mapE_cons (hrem.symm.trans hl1)
    have heS := mapE_mem hxe
    refine ARest_fin (q := false) rfl ?_
    simp -implicitDefEqProofs (disch := omega) only [lk_gen, lk_mp, up_eq, de_eq, mset_nil, hbs, hb0s, h1, h1d, h2, h2d, h3, h3d, hsfs, h4, h4d, hsft, r4_len, r4_one, mkE.eq_1, aApp_nil, aApp_none, aApp_some, aApp_grw, simprocAttr, amset, tyset, Function.comp_apply, one1, lenV, calleeOf, lateOk, belowV, aop, AV.ofValue, AV.ofCell, AV.cells, AV.flat, AV.one, arep, aBin, aConv]
    repeat refine And.intro (by omega) ?_
    refine hn11 _ _ ?_
    refine sqR hQ10 fun Q13 hn13 hQ13 he13 => ?_
    refine fnF ?_
    simp -implicitDefEqProofs (disch := omega) only [lk_gen, lk_mp, up_eq, de_eq, mset_nil, hbs, hb0s, h1, h1d, h2, h2d, h3, h3d, hsfs, h4, h4d, hsft, r4_len, r4_one, mkE.eq_1, aApp_nil, aApp_none, aApp_some, aApp_grw, simprocAttr, amset, tyset, Function.comp_apply, one1, lenV, calleeOf, lateOk, belowV, aop, AV.ofValue, AV.ofCell, AV.cells, AV.flat, AV.one, arep, aBin, aConv]
    repeat refine And.intro (by omega) ?_
    refine hn13 _ _ ?_
    refine bkR hQ10 fun Q14 hn14 hQ14 he14 hb14 => ?_
    refine sqR hQ14 fun Q15 hn15 hQ15 he15 => ?_
    refine AW_rest ?_
    refine ARest_entry (m := H.length) (bs := bs) (sn := sn) (ck := ck) (es := mapE (addL [] (M))) rfl rfl rfl (by first | rfl | (simp; done)) (by first | rfl | (simp; done)) hxe hxs ?_
    refine ARest_fin (q := false) rfl ?_
    simp -implicitDefEqProofs (disch := omega) only [lk_gen, lk_mp, up_eq, de_eq, mset_nil, hbs, hb0s, h1, h1d, h2, h2d, h3, h3d, hsfs, h4, h4d, hsft, r4_len, r4_one, mkE.eq_1, aApp_nil, aApp_none, aApp_some, aApp_grw, simprocAttr, amset, tyset, Function.comp_apply, one1, lenV, calleeOf, lateOk, belowV, aop, AV.ofValue, AV.ofCell, AV.cells, AV.flat, AV.one, arep, aBin, aConv]
    repeat refine And.intro (by omega) ?_
    refine hn15 _ _ ?_
    refine fnF ?_
    simp -implicitDefEqProofs (disch := omega) only [lk_gen, lk_mp, up_eq, de_eq, mset_nil, hbs, hb0s, h1, h1d, h2, h2d, h3, h3d, hsfs, h4, h4d, hsft, r4_len, r4_one, mkE.eq_1, aApp_nil, aApp_none, aApp_some, aApp_grw, simprocAttr, amset, tyset, Function.comp_apply, one1, lenV, calleeOf, lateOk, belowV, aop, AV.ofValue, AV.ofCell, AV.cells, AV.flat, AV.one, arep, aBin, aConv]
    repeat refine And.intro (by omega) ?_
    refine cv (tsize_c _ _ _ (by decide)) ?_
    simp -implicitDefEqProofs (disch := omega) only [lk_gen, lk_mp, up_eq, de_eq, mset_nil, hbs, hb0s, h1, h1d, h2, h2d, h3, h3d, hsfs, h4, h4d, hsft, r4_len, r4_one, mkE.eq_1, aApp_nil, aApp_none, aApp_some, aApp_grw, simprocAttr, amset, tyset, Function.comp_apply, one1, lenV, calleeOf, lateOk, belowV, aop, AV.ofValue, AV.ofCell, AV.cells, AV.flat, AV.one, arep, aBin, aConv]
    repeat refine And.intro (by omega) ?_
    refine gd_split (fun h6 => ?_) (fun h6 => ?_)
    · have h6d := bsT h6
      simp -implicitDefEqProofs (disch := omega) only [lk_gen, lk_mp, up_eq, de_eq, mset_nil, hbs, hb0s, h1, h1d, h2, h2d, h3, h3d, hsfs, h4, h4d, hsft, r4_len, r4_one, mkE.eq_1, h6, h6d, aApp_nil, aApp_none, aApp_some, aApp_grw, simprocAttr, amset, tyset, Function.comp_apply, one1, lenV, calleeOf, lateOk, belowV, aop, AV.ofValue, AV.ofCell, AV.cells, AV.flat, AV.one, arep, aBin, aConv]
      repeat refine And.intro (by omega) ?_
      refine cv (tsize_c _ _ _ (by decide)) ?_
      simp -implicitDefEqProofs (disch := omega) only [lk_gen, lk_mp, up_eq, de_eq, mset_nil, hbs, hb0s, h1, h1d, h2, h2d, h3, h3d, hsfs, h4, h4d, hsft, r4_len, r4_one, mkE.eq_1, h6, h6d, aApp_nil, aApp_none, aApp_some, aApp_grw, simprocAttr, amset, tyset, Function.comp_apply, one1, lenV, calleeOf, lateOk, belowV, aop, AV.ofValue, AV.ofCell, AV.cells, AV.flat, AV.one, arep, aBin, aConv]
      repeat refine And.intro (by omega) ?_
      refine cond_split (fun h7 => ?_) (fun h7 => ?_)
      · have h7d := bsT h7
        have hfin : redR l lvl = ([], 2) := by unfold redR; rw [if_neg (by rw [vldE_iff.2 hV]; decide), if_neg (by omega), hM, if_pos (List.any_eq_true.2 ⟨(ex, ey, eh, ep), heS, by simp [h7d]⟩)]
        simp -implicitDefEqProofs (disch := omega) only [lk_gen, lk_mp, up_eq, de_eq, mset_nil, hbs, hb0s, h1, h1d, h2, h2d, h3, h3d, hsfs, h4, h4d, hsft, r4_len, r4_one, mkE.eq_1, h6, h6d, h7, h7d, aApp_nil, aApp_none, aApp_some, aApp_grw, simprocAttr, amset, tyset, Function.comp_apply, one1, lenV, calleeOf, lateOk, belowV, aop, AV.ofValue, AV.ofCell, AV.cells, AV.flat, AV.one, arep, aBin, aConv]
        repeat refine And.intro (by omega) ?_
        refine hQ14 _ _ (end_byG (.inl rfl) hbel (x1 := .tup [.sl none 0 (some 0), iV 2]) (l2 := [.cells false 4 []]) (.tup [.sl (some (H.length, 0)) 0 (some 0), iV 2]) (resT Tryz.results12) [.cells false 4 []] rfl [4] (by decide) ⟨by first | (rw [hfin]; done) | (rw [hfin]; rfl) | (rw [hfin]; simp only [srtE_len]; done) | (rw [hfin]; simp only [srtE_len]; rfl), by first | (rw [hfin]; done) | (rw [hfin]; rfl) | (rw [hfin]; simp only [srtE_len]; done) | (rw [hfin]; simp only [srtE_len]; rfl)⟩ ?_)
        exact absWf @mvs_r4
      have h7d := bsT h7
      have hnx : (fun e : T4 => !(within e.2.2.1 1099511627776 && within e.2.2.2 1099511627776)) (ex, ey, eh, ep) = false := by simp; exact ⟨by assumption, h7d⟩
      simp -implicitDefEqProofs (disch := omega) only [lk_gen, lk_mp, up_eq, de_eq, mset_nil, hbs, hb0s, h1, h1d, h2, h2d, h3, h3d, hsfs, h4, h4d, hsft, r4_len, r4_one, mkE.eq_1, h6, h6d, h7, h7d, aApp_nil, aApp_none, aApp_some, aApp_grw, simprocAttr, amset, tyset, Function.comp_apply, one1, lenV, calleeOf, lateOk, belowV, aop, AV.ofValue, AV.ofCell, AV.cells, AV.flat, AV.one, arep, aBin, aConv]
      repeat refine And.intro (by omega) ?_
      refine gd_split (fun h8 => ?_) (fun h8 => ?_)
      · have h8d := bsT h8
        have h8n := bnT h8
        simp -implicitDefEqProofs (disch := omega) only [lk_gen, lk_mp, up_eq, de_eq, mset_nil, hbs, hb0s, h1, h1d, h2, h2d, h3, h3d, hsfs, h4, h4d, hsft, r4_len, r4_one, mkE.eq_1, h6, h6d, h7, h7d, h8, h8n, int_bne, int_beq, aApp_nil, aApp_none, aApp_some, aApp_grw, simprocAttr, amset, tyset, Function.comp_apply, one1, lenV, calleeOf, lateOk, belowV, aop, AV.ofValue, AV.ofCell, AV.cells, AV.flat, AV.one, arep, aBin, aConv]
        repeat refine And.intro (by omega) ?_
        refine cond_split (fun h9 => ?_) (fun h9 => ?_)
        · have h9d := bsT h9
          have h9n := bnT h9
          simp -implicitDefEqProofs (disch := omega) only [lk_gen, lk_mp, up_eq, de_eq, mset_nil, hbs, hb0s, h1, h1d, h2, h2d, h3, h3d, hsfs, h4, h4d, hsft, r4_len, r4_one, mkE.eq_1, h6, h6d, h7, h7d, h8, h8n, int_bne, int_beq, h9, h9n, prs_len, capG_s, aApp_nil, aApp_none, aApp_some, aApp_grw, simprocAttr, amset, tyset, Function.comp_apply, one1, lenV, calleeOf, lateOk, belowV, aop, AV.ofValue, AV.ofCell, AV.cells, AV.flat, AV.one, arep, aBin, aConv]
          repeat refine And.intro (by omega) ?_
          refine hn14 _ _ ?_
          have hrl : rem.length = (r1 ++ r2).length + 1 := by rw [hre]; simp; omega
          refine hJ1 _ _ ⟨(r1 ++ r2).length, by omega, _, _, _, ⟨(sn ++ [sx]), (r1 ++ r2), (o ++ [(ex, ey, eh, ep)]), rfl, (hl2.trans (by unfold mapE; rw [List.map_append])), (po_k hpo hre (by unfold zerB; simp; omega)), (cn_step hcn hre hnx), (by simp only [List.length_append, List.length_cons, List.length_nil] at hrl ⊢; omega), rfl, rfl⟩, bS hbel [0, 1, 5] (absRf (jn @mv_mapE (jn @mapE_nil (jn @r4_append (jn @r4_cons (jn @r4_nil @mvs_r4))))))⟩
        have h9d := bsT h9
        have h9n := bnT h9
        simp -implicitDefEqProofs (disch := omega) only [lk_gen, lk_mp, up_eq, de_eq, mset_nil, hbs, hb0s, h1, h1d, h2, h2d, h3, h3d, hsfs, h4, h4d, hsft, r4_len, r4_one, mkE.eq_1, h6, h6d, h7, h7d, h8, h8n, int_bne, int_beq, h9, h9n, aApp_nil, aApp_none, aApp_some, aApp_grw, simprocAttr, amset, tyset, Function.comp_apply, one1, lenV, calleeOf, lateOk, belowV, aop, AV.ofValue, AV.ofCell, AV.cells, AV.flat, AV.one, arep, aBin, aConv]
        repeat refine And.intro (by omega) ?_
        refine hn14 _ _ ?_
        have hrl : rem.length = (r1 ++ r2).length + 1 := by rw [hre]; simp; omega
        refine hJ1 _ _ ⟨(r1 ++ r2).length, by omega, _, _, _, ⟨(sn ++ [sx]), (r1 ++ r2), (o), rfl, (hl2.trans (by unfold mapE; rw [List.map_append])), (po_z hpo hre (by unfold zerB; simp; omega)), (cn_step hcn hre hnx), (by simp only [List.length_append, List.length_cons, List.length_nil] at hrl ⊢; omega), rfl, rfl⟩, bS hbel [0, 1, 2] (absRf (jn @mv_mapE (jn @mapE_nil (jn @r4_append (jn @r4_cons (jn @r4_nil @mvs_r4))))))⟩
      have h8d := bsT h8
      have h8n := bnT h8
      simp -implicitDefEqProofs (disch := omega) only [lk_gen, lk_mp, up_eq, de_eq, mset_nil, hbs, hb0s, h1, h1d, h2, h2d, h3, h3d, hsfs, h4, h4d, hsft, r4_len, r4_one, mkE.eq_1, h6, h6d, h7, h7d, h8, h8n, int_bne, int_beq, prs_len, capG_s, aApp_nil, aApp_none, aApp_some, aApp_grw, simprocAttr, amset, tyset, Function.comp_apply, one1, lenV, calleeOf, lateOk, belowV, aop, AV.ofValue, AV.ofCell, AV.cells, AV.flat, AV.one, arep, aBin, aConv]
      repeat refine And.intro (by omega) ?_
      refine hn14 _ _ ?_
      have hrl : rem.length = (r1 ++ r2).length + 1 := by rw [hre]; simp; omega
      refine hJ1 _ _ ⟨(r1 ++ r2).length, by omega, _, _, _, ⟨(sn ++ [sx]), (r1 ++ r2), (o ++ [(ex, ey, eh, ep)]), rfl, (hl2.trans (by unfold mapE; rw [List.map_append])), (po_k hpo hre (by unfold zerB; simp; omega)), (cn_step hcn hre hnx), (by simp only [List.length_append, List.length_cons, List.length_nil] at hrl ⊢; omega), rfl, rfl⟩, bS hbel [0, 1, 5] (absRf (jn @mv_mapE (jn @mapE_nil (jn @r4_append (jn @r4_cons (jn @r4_nil @mvs_r4))))))⟩
    have h6d := bsT h6
    have hfin : redR l lvl = ([], 2) := by unfold redR; rw [if_neg (by rw [vldE_iff.2 hV]; decide), if_neg (by omega), hM, if_pos (List.any_eq_true.2 ⟨(ex, ey, eh, ep), heS, by simp [h6d]⟩)]
    simp -implicitDefEqProofs (disch := omega) only [lk_gen, lk_mp, up_eq, de_eq, mset_nil, hbs, hb0s, h1, h1d, h2, h2d, h3, h3d, hsfs, h4, h4d, hsft, r4_len, r4_one, mkE.eq_1, h6, h6d, aApp_nil, aApp_none, aApp_some, aApp_grw, simprocAttr, amset, tyset, Function.comp_apply, one1, lenV, calleeOf, lateOk, belowV, aop, AV.ofValue, AV.ofCell, AV.cells, AV.flat, AV.one, arep, aBin, aConv]
    repeat refine And.intro (by omega) ?_
    refine hQ14 _ _ (end_byG (.inl rfl) hbel (x1 := .tup [.sl none 0 (some 0), iV 2]) (l2 := [.cells false 4 []]) (.tup [.sl (some (H.length, 0)) 0 (some 0), iV 2]) (resT Tryz.results12) [.cells false 4 []] rfl [4] (by decide) ⟨by first | (rw [hfin]; done) | (rw [hfin]; rfl) | (rw [hfin]; simp only [srtE_len]; done) | (rw [hfin]; simp only [srtE_len]; rfl), by first | (rw [hfin]; done) | (rw [hfin]; rfl) | (rw [hfin]; simp only [srtE_len]; done) | (rw [hfin]; simp only [srtE_len]; rfl)⟩ ?_)
    exact absWf @mvs_r4
  have h2d := bsT h2
  have hfin : redR l lvl = ([], 2) := by unfold redR; rw [if_neg (by rw [vldE_iff.2 hV]; decide), if_pos (by omega)]
  simp -implicitDefEqProofs (disch := omega) only [lk_gen, lk_mp, up_eq, de_eq, mset_nil, hbs, hb0s, h1, h1d, h2, h2d, aApp_nil, aApp_none, aApp_some, aApp_grw, simprocAttr, amset, tyset, Function.comp_apply, one1, lenV, calleeOf, lateOk, belowV, aop, AV.ofValue, AV.ofCell, AV.cells, AV.flat, AV.one, arep, aBin, aConv]
  repeat refine And.intro (by omega) ?_
  refine hQ2 _ _ (end_byE (.inl rfl) hbel (x1 := .tup [.sl none 0 (some 0), iV 2]) (l2 := [.cells false 4 []]) (.tup [.sl (some (H.length, 0)) 0 (some 0), iV 2]) (resT Tryz.results12) [.cells false 4 []] rfl [0] (by decide) ⟨by first | (rw [hfin]; done) | (rw [hfin]; rfl) | (rw [hfin]; simp only [srtE_len]; done) | (rw [hfin]; simp only [srtE_len]; rfl), by first | (rw [hfin]; done) | (rw [hfin]; rfl) | (rw [hfin]; simp only [srtE_len]; done) | (rw [hfin]; simp only [srtE_len]; rfl)⟩ ?_)
  exact absWf @mvs_r4
theorem com_ok {a b : List T4} (h : (comR a b).2 = 0) : (vldE a && vldE b) = true ∧ (lstE (addL (addL [] a) b)).any (fun e : T4 => !(within e.2.2.1 1099511627776 && within e.2.2.2 1099511627776)) = false ∧ (comR a b).1 = lstE (addL (addL [] a) b) := by
  unfold comR at h ⊢
  by_cases h1 : (vldE a && vldE b) = true
  · rw [if_pos h1] at h ⊢
    by_cases h2 : (lstE (addL (addL [] a) b)).any (fun e : T4 => !(within e.2.2.1 1099511627776 && within e.2.2.2 1099511627776)) = true
    · rw [if_pos h2] at h; cases h
    rw [if_neg h2]; exact ⟨h1, by simpa using h2, rfl⟩
  rw [if_neg h1] at h; cases h
theorem com_vld {a b : List T4} (hab : a.length + b.length ≤ 1048576) (h : (comR a b).2 = 0) : VldE (comR a b).1 ∧ (comR a b).1.length ≤ a.length + b.length := by
  obtain ⟨h1, h2, h3⟩ := com_ok h
  rw [h3]
  rw [Bool.and_eq_true] at h1
  have ha := vldE_iff.1 h1.1
  have hb := vldE_iff.1 h1.2
  have hl : (lstE (addL (addL [] a) b)).length ≤ a.length + b.length := by
    rw [lstE_len]
    have q1 := addL_len b (addL [] a)
    have q2 := addL_len a []
    have q3 : (delL zerB (addL (addL [] a) b)).length ≤ (addL (addL [] a) b).length := delL_le
    rw [List.length_nil] at q2
    omega
  refine ⟨⟨by omega, fun e he => ?_, sum_strict a b⟩, hl⟩
  have hw : wi e.2.2 = true := by
    cases q : wi e.2.2 with
    | true => rfl
    | false =>
      have : (lstE (addL (addL [] a) b)).any (fun e : T4 => !(within e.2.2.1 1099511627776 && within e.2.2.2 1099511627776)) = true := List.any_eq_true.2 ⟨e, he, by show (!(wi e.2.2)) = true; rw [q]; rfl⟩
      rw [h2] at this; cases this
  have hz : e.2.2 ≠ (0, 0) := lst_nz _ e he
  have hc : e.2.2 = pad (cnt a (cel e)) (cnt b (cel e)) := by rw [← sum_cnt, cnt_mem (strict_nodup (sum_strict a b)) he]
  have hcell : ∃ x : T4, gdB x.1 x.2.1 x.2.2.1 x.2.2.2 = true ∧ cel x = cel e := by
    by_cases q : cel e ∈ a.map cel
    · obtain ⟨x, hx, hxe⟩ := List.mem_map.1 q
      exact ⟨x, ha.good x hx, hxe⟩
    by_cases r : cel e ∈ b.map cel
    · obtain ⟨x, hx, hxe⟩ := List.mem_map.1 r
      exact ⟨x, hb.good x hx, hxe⟩
    rw [cnt_not q, cnt_not r] at hc
    exact absurd hc hz
  obtain ⟨x, hx, hxe⟩ := hcell
  have hx' := gdB_iff.1 hx
  have e1 : x.1 = e.1 := congrArg (fun p : Int × Int => p.1) hxe
  have e2 : x.2.1 = e.2.1 := congrArg (fun p : Int × Int => p.2) hxe
  have hw' : within e.2.2.1 1099511627776 = true ∧ within e.2.2.2 1099511627776 = true := by rw [← Bool.and_eq_true]; exact hw
  rw [within_iff, within_iff] at hw'
  refine gdB_iff.2 ⟨hw'.1, hw'.2, ?_, by rw [← e1]; exact hx'.2.2.2.1, by rw [← e2]; exact hx'.2.2.2.2⟩
  by_cases q : e.2.2.1 = 0
  · right
    intro r
    exact hz (Prod.ext q r)
  exact .inl q
theorem entry_c (H : AHeap) (tx ty : Int) (s : AV) (d : List Int) (nx : Nat) (q : AV) (b : List Int) (hs : Sl H 1 s d.length (ints .u8 d)) (hq : Sl H 1 q b.length (ints .u8 b)) (hB : ∀ c ∈ b, 0 ≤ c ∧ c ≤ 255) (hl : b.length ≤ 1000000000) (hnx : nx ≤ 1000) (htx : -1152921504606846976 ≤ 16 * tx ∧ 16 * tx ≤ 1152921504606846976 - 16) (hty : -1152921504606846976 ≤ 16 * ty ∧ 16 * ty ≤ 1152921504606846976 - 16) : ACalls Tryz.prog 24 [.agg [iV tx, iV ty, s], iV ((nx : Nat) : Int), q] H (fun v H' => v = .tup [.agg [iV (((entR tx ty nx b).1).1), iV (((entR tx ty nx b).1).2.1), iV (((entR tx ty nx b).1).2.2.1), iV (((entR tx ty nx b).1).2.2.2)], iV (((entR tx ty nx b).2.1 : Nat) : Int), .sl (some (H.length, 0)) (((entR tx ty nx b).2.2.1).length) (capG ((entR tx ty nx b).2.2.1).length), iV ((entR tx ty nx b).2.2.2)] ∧ H' = H ++ [.cells (ownG ((entR tx ty nx b).2.2.1).length) 1 (ints .u8 ((entR tx ty nx b).2.2.1))]) := by
  obtain ⟨bs, os, cs, rfl, hbs⟩ := hs
  have hbls := getElem?_lt hbs
  have hb0s := fun l => get_app (l := l) hbs
  obtain ⟨bq, oq, cq, rfl, hbq⟩ := hq
  have hblq := getElem?_lt hbq
  have hb0q := fun l => get_app (l := l) hbq
  have hf1 := rdU_suf b 0 0
  have hB1 := suf_B hf1 hB
  have hf2 := rdI_suf (rdU 0 0 b).2.1
  have hB2 := suf_B hf2 hB1
  have hf3 := rdI_suf (rdI (rdU 0 0 b).2.1).2.1
  have hl1 := hf1.length_le
  have hl2 := hf2.length_le
  have hl3 := hf3.length_le
  refine AcT true Tryz.func24 ?_; intro hbel Q hQ
  have g'1 := (jn @hbs (jn @hb0s (jn @hbq (jn @hb0q (jn @rem_16 @quo_16)))))
  refine runTf g'1 ?_
  refine cv (rduint_c _ _ b (⟨_, _, _, rfl, by first | exact hb0q _ | exact hbq⟩) (by first | assumption | exact hB) (by omega)) ?_
  refine rcs g'1 (fun h1 h1d _ => ?_) (fun h1 h1d _ => ?_)
  · have h1n := bnT h1
    have g'2 := (jn h1 (jn h1n (jn @int_bne (jn @int_beq g'1))))
    refine runTf g'2 ?_
    refine hQ _ _ (end_byG (.inl rfl) hbel (x1 := .tup [.agg [iV 0, iV 0, iV 0, iV 0], iV 0, .sl none 0 (some 0), iV ((rdU 0 0 b).2.2)]) (l2 := [.cells false 1 []]) (.tup [.agg [iV 0, iV 0, iV 0, iV 0], iV 0, .sl (some (H.length, 0)) 0 (some 0), iV ((rdU 0 0 b).2.2)]) (resTf @add_nat1 Tryz.results24) [.cells false 1 []] rfl [3] (by decide) ⟨by first | (rw [entR_1 (by omega)]; done) | (rw [entR_1 (by omega)]; rfl) | (rw [entR_2 (by omega) (by omega)]; done) | (rw [entR_2 (by omega) (by omega)]; rfl) | (rw [entR_3 (by omega) (by omega) (by omega)]; done) | (rw [entR_3 (by omega) (by omega) (by omega)]; rfl) | (rw [entR_4 (by omega) (by omega) (by omega) (by omega)]; done) | (rw [entR_4 (by omega) (by omega) (by omega) (by omega)]; rfl) | (rw [entR_5 (by omega) (by omega) (by omega) (by omega) (by rw [Bool.and_eq_false_iff]; first | exact .inl (by assumption) | exact .inr (by assumption))]; done) | (rw [entR_5 (by omega) (by omega) (by omega) (by omega) (by rw [Bool.and_eq_false_iff]; first | exact .inl (by assumption) | exact .inr (by assumption))]; rfl) | (rw [entR_6 (by omega) (by omega) (by omega) (by omega) (by rw [Bool.and_eq_true]; exact ⟨by assumption, by assumption⟩) (by rw [Bool.and_eq_false_iff]; first | exact .inl (by assumption) | exact .inr (by assumption))]; done) | (rw [entR_6 (by omega) (by omega) (by omega) (by omega) (by rw [Bool.and_eq_true]; exact ⟨by assumption, by assumption⟩) (by rw [Bool.and_eq_false_iff]; first | exact .inl (by assumption) | exact .inr (by assumption))]; rfl) | (rw [entR_7 (by omega) (by omega) (by omega) (by omega) (by rw [Bool.and_eq_true]; exact ⟨by assumption, by assumption⟩) (by rw [Bool.and_eq_true]; exact ⟨by assumption, by assumption⟩)]; done) | (rw [entR_7 (by omega) (by omega) (by omega) (by omega) (by rw [Bool.and_eq_true]; exact ⟨by assumption, by assumption⟩) (by rw [Bool.and_eq_true]; exact ⟨by assumption, by assumption⟩)]; rfl), by first | (rw [entR_1 (by omega)]; done) | (rw [entR_1 (by omega)]; rfl) | (rw [entR_2 (by omega) (by omega)]; done) | (rw [entR_2 (by omega) (by omega)]; rfl) | (rw [entR_3 (by omega) (by omega) (by omega)]; done) | (rw [entR_3 (by omega) (by omega) (by omega)]; rfl) | (rw [entR_4 (by omega) (by omega) (by omega) (by omega)]; done) | (rw [entR_4 (by omega) (by omega) (by omega) (by omega)]; rfl) | (rw [entR_5 (by omega) (by omega) (by omega) (by omega) (by rw [Bool.and_eq_false_iff]; first | exact .inl (by assumption) | exact .inr (by assumption))]; done) | (rw [entR_5 (by omega) (by omega) (by omega) (by omega) (by rw [Bool.and_eq_false_iff]; first | exact .inl (by assumption) | exact .inr (by assumption))]; rfl) | (rw [entR_6 (by omega) (by omega) (by omega) (by omega) (by rw [Bool.and_eq_true]; exact ⟨by assumption, by assumption⟩) (by rw [Bool.and_eq_false_iff]; first | exact .inl (by assumption) | exact .inr (by assumption))]; done) | (rw [entR_6 (by omega) (by omega) (by omega) (by omega) (by rw [Bool.and_eq_true]; exact ⟨by assumption, by assumption⟩) (by rw [Bool.and_eq_false_iff]; first | exact .inl (by assumption) | exact .inr (by assumption))]; rfl) | (rw [entR_7 (by omega) (by omega) (by omega) (by omega) (by rw [Bool.and_eq_true]; exact ⟨by assumption, by assumption⟩) (by rw [Bool.and_eq_true]; exact ⟨by assumption, by assumption⟩)]; done) | (rw [entR_7 (by omega) (by omega) (by omega) (by omega) (by rw [Bool.and_eq_true]; exact ⟨by assumption, by assumption⟩) (by rw [Bool.and_eq_true]; exact ⟨by assumption, by assumption⟩)]; rfl)⟩ ?_)
    exact absW
  have h1n := bnT h1
  have g'3 := (jn h1 (jn h1n (jn @int_bne (jn @int_beq g'1))))
  refine runTf g'3 ?_
  refine cv (rdint_c _ _ ((rdU 0 0 b).2.1) (slA) (by first | assumption | exact hB) (by omega)) ?_
  refine rcs g'3 (fun h2 h2d _ => ?_) (fun h2 h2d _ => ?_)
  · have h2n := bnT h2
    have g'4 := j2 h2 h2n g'3
    refine runTf g'4 ?_
    refine hQ _ _ (end_byG (.inl rfl) hbel (x1 := .tup [.agg [iV 0, iV 0, iV 0, iV 0], iV 0, .sl none 0 (some 0), iV ((rdI ((rdU 0 0 b).2.1)).2.2)]) (l2 := [.cells false 1 []]) (.tup [.agg [iV 0, iV 0, iV 0, iV 0], iV 0, .sl (some (H.length, 0)) 0 (some 0), iV ((rdI ((rdU 0 0 b).2.1)).2.2)]) (resTf @add_nat1 Tryz.results24) [.cells false 1 []] rfl [4] (by decide) ⟨by first | (rw [entR_1 (by omega)]; done) | (rw [entR_1 (by omega)]; rfl) | (rw [entR_2 (by omega) (by omega)]; done) | (rw [entR_2 (by omega) (by omega)]; rfl) | (rw [entR_3 (by omega) (by omega) (by omega)]; done) | (rw [entR_3 (by omega) (by omega) (by omega)]; rfl) | (rw [entR_4 (by omega) (by omega) (by omega) (by omega)]; done) | (rw [entR_4 (by omega) (by omega) (by omega) (by omega)]; rfl) | (rw [entR_5 (by omega) (by omega) (by omega) (by omega) (by rw [Bool.and_eq_false_iff]; first | exact .inl (by assumption) | exact .inr (by assumption))]; done) | (rw [entR_5 (by omega) (by omega) (by omega) (by omega) (by rw [Bool.and_eq_false_iff]; first | exact .inl (by assumption) | exact .inr (by assumption))]; rfl) | (rw [entR_6 (by omega) (by omega) (by omega) (by omega) (by rw [Bool.and_eq_true]; exact ⟨by assumption, by assumption⟩) (by rw [Bool.and_eq_false_iff]; first | exact .inl (by assumption) | exact .inr (by assumption))]; done) | (rw [entR_6 (by omega) (by omega) (by omega) (by omega) (by rw [Bool.and_eq_true]; exact ⟨by assumption, by assumption⟩) (by rw [Bool.and_eq_false_iff]; first | exact .inl (by assumption) | exact .inr (by assumption))]; rfl) | (rw [entR_7 (by omega) (by omega) (by omega) (by omega) (by rw [Bool.and_eq_true]; exact ⟨by assumption, by assumption⟩) (by rw [Bool.and_eq_true]; exact ⟨by assumption, by assumption⟩)]; done) | (rw [entR_7 (by omega) (by omega) (by omega) (by omega) (by rw [Bool.and_eq_true]; exact ⟨by assumption, by assumption⟩) (by rw [Bool.and_eq_true]; exact ⟨by assumption, by assumption⟩)]; rfl), by first | (rw [entR_1 (by omega)]; done) | (rw [entR_1 (by omega)]; rfl) | (rw [entR_2 (by omega) (by omega)]; done) | (rw [entR_2 (by omega) (by omega)]; rfl) | (rw [entR_3 (by omega) (by omega) (by omega)]; done) | (rw [entR_3 (by omega) (by omega) (by omega)]; rfl) | (rw [entR_4 (by omega) (by omega) (by omega) (by omega)]; done) | (rw [entR_4 (by omega) (by omega) (by omega) (by omega)]; rfl) | (rw [entR_5 (by omega) (by omega) (by omega) (by omega) (by rw [Bool.and_eq_false_iff]; first | exact .inl (by assumption) | exact .inr (by assumption))]; done) | (rw [entR_5 (by omega) (by omega) (by omega) (by omega) (by rw [Bool.and_eq_false_iff]; first | exact .inl (by assumption) | exact .inr (by assumption))]; rfl) | (rw [entR_6 (by omega) (by omega) (by omega) (by omega) (by rw [Bool.and_eq_true]; exact ⟨by assumption, by assumption⟩) (by rw [Bool.and_eq_false_iff]; first | exact .inl (by assumption) | exact .inr (by assumption))]; done) | (rw [entR_6 (by omega) (by omega) (by omega) (by omega) (by rw [Bool.and_eq_true]; exact ⟨by assumption, by assumption⟩) (by rw [Bool.and_eq_false_iff]; first | exact .inl (by assumption) | exact .inr (by assumption))]; rfl) | (rw [entR_7 (by omega) (by omega) (by omega) (by omega) (by rw [Bool.and_eq_true]; exact ⟨by assumption, by assumption⟩) (by rw [Bool.and_eq_true]; exact ⟨by assumption, by assumption⟩)]; done) | (rw [entR_7 (by omega) (by omega) (by omega) (by omega) (by rw [Bool.and_eq_true]; exact ⟨by assumption, by assumption⟩) (by rw [Bool.and_eq_true]; exact ⟨by assumption, by assumption⟩)]; rfl)⟩ ?_)
    exact absW
  have h2n := bnT h2
  have g'5 := j2 h2 h2n g'3
  refine runTf g'5 ?_
  refine cv (rdint_c _ _ ((rdI ((rdU 0 0 b).2.1)).2.1) (slA) (by first | assumption | exact hB) (by omega)) ?_
  refine rcs g'5 (fun h3 h3d _ => ?_) (fun h3 h3d _ => ?_)
  · have h3n := bnT h3
    have g'6 := j2 h3 h3n g'5
    refine runTf g'6 ?_
    refine hQ _ _ (end_byG (.inl rfl) hbel (x1 := .tup [.agg [iV 0, iV 0, iV 0, iV 0], iV 0, .sl none 0 (some 0), iV ((rdI ((rdI ((rdU 0 0 b).2.1)).2.1)).2.2)]) (l2 := [.cells false 1 []]) (.tup [.agg [iV 0, iV 0, iV 0, iV 0], iV 0, .sl (some (H.length, 0)) 0 (some 0), iV ((rdI ((rdI ((rdU 0 0 b).2.1)).2.1)).2.2)]) (resTf @add_nat1 Tryz.results24) [.cells false 1 []] rfl [5] (by decide) ⟨by first | (rw [entR_1 (by omega)]; done) | (rw [entR_1 (by omega)]; rfl) | (rw [entR_2 (by omega) (by omega)]; done) | (rw [entR_2 (by omega) (by omega)]; rfl) | (rw [entR_3 (by omega) (by omega) (by omega)]; done) | (rw [entR_3 (by omega) (by omega) (by omega)]; rfl) | (rw [entR_4 (by omega) (by omega) (by omega) (by omega)]; done) | (rw [entR_4 (by omega) (by omega) (by omega) (by omega)]; rfl) | (rw [entR_5 (by omega) (by omega) (by omega) (by omega) (by rw [Bool.and_eq_false_iff]; first | exact .inl (by assumption) | exact .inr (by assumption))]; done) | (rw [entR_5 (by omega) (by omega) (by omega) (by omega) (by rw [Bool.and_eq_false_iff]; first | exact .inl (by assumption) | exact .inr (by assumption))]; rfl) | (rw [entR_6 (by omega) (by omega) (by omega) (by omega) (by rw [Bool.and_eq_true]; exact ⟨by assumption, by assumption⟩) (by rw [Bool.and_eq_false_iff]; first | exact .inl (by assumption) | exact .inr (by assumption))]; done) | (rw [entR_6 (by omega) (by omega) (by omega) (by omega) (by rw [Bool.and_eq_true]; exact ⟨by assumption, by assumption⟩) (by rw [Bool.and_eq_false_iff]; first | exact .inl (by assumption) | exact .inr (by assumption))]; rfl) | (rw [entR_7 (by omega) (by omega) (by omega) (by omega) (by rw [Bool.and_eq_true]; exact ⟨by assumption, by assumption⟩) (by rw [Bool.and_eq_true]; exact ⟨by assumption, by assumption⟩)]; done) | (rw [entR_7 (by omega) (by omega) (by omega) (by omega) (by rw [Bool.and_eq_true]; exact ⟨by assumption, by assumption⟩) (by rw [Bool.and_eq_true]; exact ⟨by assumption, by assumption⟩)]; rfl), by first | (rw [entR_1 (by omega)]; done) | (rw [entR_1 (by omega)]; rfl) | (rw [entR_2 (by omega) (by omega)]; done) | (rw [entR_2 (by omega) (by omega)]; rfl) | (rw [entR_3 (by omega) (by omega) (by omega)]; done) | (rw [entR_3 (by omega) (by omega) (by omega)]; rfl) | (rw [entR_4 (by omega) (by omega) (by omega) (by omega)]; done) | (rw [entR_4 (by omega) (by omega) (by omega) (by omega)]; rfl) | (rw [entR_5 (by omega) (by omega) (by omega) (by omega) (by rw [Bool.and_eq_false_iff]; first | exact .inl (by assumption) | exact .inr (by assumption))]; done) | (rw [entR_5 (by omega) (by omega) (by omega) (by omega) (by rw [Bool.and_eq_false_iff]; first | exact .inl (by assumption) | exact .inr (by assumption))]; rfl) | (rw [entR_6 (by omega) (by omega) (by omega) (by omega) (by rw [Bool.and_eq_true]; exact ⟨by assumption, by assumption⟩) (by rw [Bool.and_eq_false_iff]; first | exact .inl (by assumption) | exact .inr (by assumption))]; done) | (rw [entR_6 (by omega) (by omega) (by omega) (by omega) (by rw [Bool.and_eq_true]; exact ⟨by assumption, by assumption⟩) (by rw [Bool.and_eq_false_iff]; first | exact .inl (by assumption) | exact .inr (by assumption))]; rfl) | (rw [entR_7 (by omega) (by omega) (by omega) (by omega) (by rw [Bool.and_eq_true]; exact ⟨by assumption, by assumption⟩) (by rw [Bool.and_eq_true]; exact ⟨by assumption, by assumption⟩)]; done) | (rw [entR_7 (by omega) (by omega) (by omega) (by omega) (by rw [Bool.and_eq_true]; exact ⟨by assumption, by assumption⟩) (by rw [Bool.and_eq_true]; exact ⟨by assumption, by assumption⟩)]; rfl)⟩ ?_)
    exact absW
  have h3n := bnT h3
  have g'7 := j2 h3 h3n g'5
  refine rgs g'7 (fun h4 h4d g'8 => ?_) (fun h4 h4d g'31 => ?_)
  · refine rgs g'8 (fun h5 h5d g'9 => ?_) (fun h5 h5d g'30 => ?_)
    · refine rgs g'9 (fun h6 h6d _ => ?_) (fun h6 h6d _ => ?_)
      · have h6n := bnT h6
        have g'10 := j2 h6 h6n g'9
        refine rcs g'10 (fun h7 h7d _ => ?_) (fun h7 h7d _ => ?_)
        · have h7n := bnT h7
          have g'11 := j2 h7 h7n g'10
          refine runTf g'11 ?_
          refine hQ _ _ (end_byG (.inl rfl) hbel (x1 := .tup [.agg [iV 0, iV 0, iV 0, iV 0], iV 0, .sl none 0 (some 0), iV 3]) (l2 := [.cells false 1 []]) (.tup [.agg [iV 0, iV 0, iV 0, iV 0], iV 0, .sl (some (H.length, 0)) 0 (some 0), iV 3]) (resTf @add_nat1 Tryz.results24) [.cells false 1 []] rfl [5] (by decide) ⟨by first | (rw [entR_1 (by omega)]; done) | (rw [entR_1 (by omega)]; rfl) | (rw [entR_2 (by omega) (by omega)]; done) | (rw [entR_2 (by omega) (by omega)]; rfl) | (rw [entR_3 (by omega) (by omega) (by omega)]; done) | (rw [entR_3 (by omega) (by omega) (by omega)]; rfl) | (rw [entR_4 (by omega) (by omega) (by omega) (by omega)]; done) | (rw [entR_4 (by omega) (by omega) (by omega) (by omega)]; rfl) | (rw [entR_5 (by omega) (by omega) (by omega) (by omega) (by rw [Bool.and_eq_false_iff]; first | exact .inl (by assumption) | exact .inr (by assumption))]; done) | (rw [entR_5 (by omega) (by omega) (by omega) (by omega) (by rw [Bool.and_eq_false_iff]; first | exact .inl (by assumption) | exact .inr (by assumption))]; rfl) | (rw [entR_6 (by omega) (by omega) (by omega) (by omega) (by rw [Bool.and_eq_true]; exact ⟨by assumption, by assumption⟩) (by rw [Bool.and_eq_false_iff]; first | exact .inl (by assumption) | exact .inr (by assumption))]; done) | (rw [entR_6 (by omega) (by omega) (by omega) (by omega) (by rw [Bool.and_eq_true]; exact ⟨by assumption, by assumption⟩) (by rw [Bool.and_eq_false_iff]; first | exact .inl (by assumption) | exact .inr (by assumption))]; rfl) | (rw [entR_7 (by omega) (by omega) (by omega) (by omega) (by rw [Bool.and_eq_true]; exact ⟨by assumption, by assumption⟩) (by rw [Bool.and_eq_true]; exact ⟨by assumption, by assumption⟩)]; done) | (rw [entR_7 (by omega) (by omega) (by omega) (by omega) (by rw [Bool.and_eq_true]; exact ⟨by assumption, by assumption⟩) (by rw [Bool.and_eq_true]; exact ⟨by assumption, by assumption⟩)]; rfl), by first | (rw [entR_1 (by omega)]; done) | (rw [entR_1 (by omega)]; rfl) | (rw [entR_2 (by omega) (by omega)]; done) | (rw [entR_2 (by omega) (by omega)]; rfl) | (rw [entR_3 (by omega) (by omega) (by omega)]; done) | (rw [entR_3 (by omega) (by omega) (by omega)]; rfl) | (rw [entR_4 (by omega) (by omega) (by omega) (by omega)]; done) | (rw [entR_4 (by omega) (by omega) (by omega) (by omega)]; rfl) | (rw [entR_5 (by omega) (by omega) (by omega) (by omega) (by rw [Bool.and_eq_false_iff]; first | exact .inl (by assumption) | exact .inr (by assumption))]; done) | (rw [entR_5 (by omega) (by omega) (by omega) (by omega) (by rw [Bool.and_eq_false_iff]; first | exact .inl (by assumption) | exact .inr (by assumption))]; rfl) | (rw [entR_6 (by omega) (by omega) (by omega) (by omega) (by rw [Bool.and_eq_true]; exact ⟨by assumption, by assumption⟩) (by rw [Bool.and_eq_false_iff]; first | exact .inl (by assumption) | exact .inr (by assumption))]; done) | (rw [entR_6 (by omega) (by omega) (by omega) (by omega) (by rw [Bool.and_eq_true]; exact ⟨by assumption, by assumption⟩) (by rw [Bool.and_eq_false_iff]; first | exact .inl (by assumption) | exact .inr (by assumption))]; rfl) | (rw [entR_7 (by omega) (by omega) (by omega) (by omega) (by rw [Bool.and_eq_true]; exact ⟨by assumption, by assumption⟩) (by rw [Bool.and_eq_true]; exact ⟨by assumption, by assumption⟩)]; done) | (rw [entR_7 (by omega) (by omega) (by omega) (by omega) (by rw [Bool.and_eq_true]; exact ⟨by assumption, by assumption⟩) (by rw [Bool.and_eq_true]; exact ⟨by assumption, by assumption⟩)]; rfl)⟩ ?_)
          exact absW
        have h7n := bnT h7
        have g'12 := j2 h7 h7n g'10
        refine runTf g'12 ?_
        refine cv (tsize_c _ _ _ (by decide)) ?_
        refine rgs g'12 (fun h8 h8d g'13 => ?_) (fun h8 h8d g'20 => ?_)
        · refine runTf g'13 ?_
          refine cv (tsize_c _ _ _ (by decide)) ?_
          refine rcs g'13 (fun h9 h9d g'14 => ?_) (fun h9 h9d g'15 => ?_)
          · refine runTf g'14 ?_
            refine hQ _ _ (end_byG (.inl rfl) hbel (x1 := .tup [.agg [iV 0, iV 0, iV 0, iV 0], iV 0, .sl none 0 (some 0), iV 2]) (l2 := [.cells false 1 []]) (.tup [.agg [iV 0, iV 0, iV 0, iV 0], iV 0, .sl (some (H.length, 0)) 0 (some 0), iV 2]) (resTf @add_nat1 Tryz.results24) [.cells false 1 []] rfl [5] (by decide) ⟨by first | (rw [entR_1 (by omega)]; done) | (rw [entR_1 (by omega)]; rfl) | (rw [entR_2 (by omega) (by omega)]; done) | (rw [entR_2 (by omega) (by omega)]; rfl) | (rw [entR_3 (by omega) (by omega) (by omega)]; done) | (rw [entR_3 (by omega) (by omega) (by omega)]; rfl) | (rw [entR_4 (by omega) (by omega) (by omega) (by omega)]; done) | (rw [entR_4 (by omega) (by omega) (by omega) (by omega)]; rfl) | (rw [entR_5 (by omega) (by omega) (by omega) (by omega) (by rw [Bool.and_eq_false_iff]; first | exact .inl (by assumption) | exact .inr (by assumption))]; done) | (rw [entR_5 (by omega) (by omega) (by omega) (by omega) (by rw [Bool.and_eq_false_iff]; first | exact .inl (by assumption) | exact .inr (by assumption))]; rfl) | (rw [entR_6 (by omega) (by omega) (by omega) (by omega) (by rw [Bool.and_eq_true]; exact ⟨by assumption, by assumption⟩) (by rw [Bool.and_eq_false_iff]; first | exact .inl (by assumption) | exact .inr (by assumption))]; done) | (rw [entR_6 (by omega) (by omega) (by omega) (by omega) (by rw [Bool.and_eq_true]; exact ⟨by assumption, by assumption⟩) (by rw [Bool.and_eq_false_iff]; first | exact .inl (by assumption) | exact .inr (by assumption))]; rfl) | (rw [entR_7 (by omega) (by omega) (by omega) (by omega) (by rw [Bool.and_eq_true]; exact ⟨by assumption, by assumption⟩) (by rw [Bool.and_eq_true]; exact ⟨by assumption, by assumption⟩)]; done) | (rw [entR_7 (by omega) (by omega) (by omega) (by omega) (by rw [Bool.and_eq_true]; exact ⟨by assumption, by assumption⟩) (by rw [Bool.and_eq_true]; exact ⟨by assumption, by assumption⟩)]; rfl), by first | (rw [entR_1 (by omega)]; done) | (rw [entR_1 (by omega)]; rfl) | (rw [entR_2 (by omega) (by omega)]; done) | (rw [entR_2 (by omega) (by omega)]; rfl) | (rw [entR_3 (by omega) (by omega) (by omega)]; done) | (rw [entR_3 (by omega) (by omega) (by omega)]; rfl) | (rw [entR_4 (by omega) (by omega) (by omega) (by omega)]; done) | (rw [entR_4 (by omega) (by omega) (by omega) (by omega)]; rfl) | (rw [entR_5 (by omega) (by omega) (by omega) (by omega) (by rw [Bool.and_eq_false_iff]; first | exact .inl (by assumption) | exact .inr (by assumption))]; done) | (rw [entR_5 (by omega) (by omega) (by omega) (by omega) (by rw [Bool.and_eq_false_iff]; first | exact .inl (by assumption) | exact .inr (by assumption))]; rfl) | (rw [entR_6 (by omega) (by omega) (by omega) (by omega) (by rw [Bool.and_eq_true]; exact ⟨by assumption, by assumption⟩) (by rw [Bool.and_eq_false_iff]; first | exact .inl (by assumption) | exact .inr (by assumption))]; done) | (rw [entR_6 (by omega) (by omega) (by omega) (by omega) (by rw [Bool.and_eq_true]; exact ⟨by assumption, by assumption⟩) (by rw [Bool.and_eq_false_iff]; first | exact .inl (by assumption) | exact .inr (by assumption))]; rfl) | (rw [entR_7 (by omega) (by omega) (by omega) (by omega) (by rw [Bool.and_eq_true]; exact ⟨by assumption, by assumption⟩) (by rw [Bool.and_eq_true]; exact ⟨by assumption, by assumption⟩)]; done) | (rw [entR_7 (by omega) (by omega) (by omega) (by omega) (by rw [Bool.and_eq_true]; exact ⟨by assumption, by assumption⟩) (by rw [Bool.and_eq_true]; exact ⟨by assumption, by assumption⟩)]; rfl)⟩ ?_)
            exact absW
          refine runTf g'15 ?_
          refine cv (tsize_c _ _ _ (by decide)) ?_
          refine rgs g'15 (fun h10 h10d g'16 => ?_) (fun h10 h10d g'19 => ?_)
          · refine runTf g'16 ?_
            refine cv (tsize_c _ _ _ (by decide)) ?_
            refine rcs g'16 (fun h11 h11d g'17 => ?_) (fun h11 h11d g'18 => ?_)
            · refine runTf g'17 ?_
              refine hQ _ _ (end_byG (.inl rfl) hbel (x1 := .tup [.agg [iV 0, iV 0, iV 0, iV 0], iV 0, .sl none 0 (some 0), iV 1]) (l2 := [.cells false 1 []]) (.tup [.agg [iV 0, iV 0, iV 0, iV 0], iV 0, .sl (some (H.length, 0)) 0 (some 0), iV 1]) (resTf @add_nat1 Tryz.results24) [.cells false 1 []] rfl [6] (by decide) ⟨by first | (rw [entR_1 (by omega)]; done) | (rw [entR_1 (by omega)]; rfl) | (rw [entR_2 (by omega) (by omega)]; done) | (rw [entR_2 (by omega) (by omega)]; rfl) | (rw [entR_3 (by omega) (by omega) (by omega)]; done) | (rw [entR_3 (by omega) (by omega) (by omega)]; rfl) | (rw [entR_4 (by omega) (by omega) (by omega) (by omega)]; done) | (rw [entR_4 (by omega) (by omega) (by omega) (by omega)]; rfl) | (rw [entR_5 (by omega) (by omega) (by omega) (by omega) (by rw [Bool.and_eq_false_iff]; first | exact .inl (by assumption) | exact .inr (by assumption))]; done) | (rw [entR_5 (by omega) (by omega) (by omega) (by omega) (by rw [Bool.and_eq_false_iff]; first | exact .inl (by assumption) | exact .inr (by assumption))]; rfl) | (rw [entR_6 (by omega) (by omega) (by omega) (by omega) (by rw [Bool.and_eq_true]; exact ⟨by assumption, by assumption⟩) (by rw [Bool.and_eq_false_iff]; first | exact .inl (by assumption) | exact .inr (by assumption))]; done) | (rw [entR_6 (by omega) (by omega) (by omega) (by omega) (by rw [Bool.and_eq_true]; exact ⟨by assumption, by assumption⟩) (by rw [Bool.and_eq_false_iff]; first | exact .inl (by assumption) | exact .inr (by assumption))]; rfl) | (rw [entR_7 (by omega) (by omega) (by omega) (by omega) (by rw [Bool.and_eq_true]; exact ⟨by assumption, by assumption⟩) (by rw [Bool.and_eq_true]; exact ⟨by assumption, by assumption⟩)]; done) | (rw [entR_7 (by omega) (by omega) (by omega) (by omega) (by rw [Bool.and_eq_true]; exact ⟨by assumption, by assumption⟩) (by rw [Bool.and_eq_true]; exact ⟨by assumption, by assumption⟩)]; rfl), by first | (rw [entR_1 (by omega)]; done) | (rw [entR_1 (by omega)]; rfl) | (rw [entR_2 (by omega) (by omega)]; done) | (rw [entR_2 (by omega) (by omega)]; rfl) | (rw [entR_3 (by omega) (by omega) (by omega)]; done) | (rw [entR_3 (by omega) (by omega) (by omega)]; rfl) | (rw [entR_4 (by omega) (by omega) (by omega) (by omega)]; done) | (rw [entR_4 (by omega) (by omega) (by omega) (by omega)]; rfl) | (rw [entR_5 (by omega) (by omega) (by omega) (by omega) (by rw [Bool.and_eq_false_iff]; first | exact .inl (by assumption) | exact .inr (by assumption))]; done) | (rw [entR_5 (by omega) (by omega) (by omega) (by omega) (by rw [Bool.and_eq_false_iff]; first | exact .inl (by assumption) | exact .inr (by assumption))]; rfl) | (rw [entR_6 (by omega) (by omega) (by omega) (by omega) (by rw [Bool.and_eq_true]; exact ⟨by assumption, by assumption⟩) (by rw [Bool.and_eq_false_iff]; first | exact .inl (by assumption) | exact .inr (by assumption))]; done) | (rw [entR_6 (by omega) (by omega) (by omega) (by omega) (by rw [Bool.and_eq_true]; exact ⟨by assumption, by assumption⟩) (by rw [Bool.and_eq_false_iff]; first | exact .inl (by assumption) | exact .inr (by assumption))]; rfl) | (rw [entR_7 (by omega) (by omega) (by omega) (by omega) (by rw [Bool.and_eq_true]; exact ⟨by assumption, by assumption⟩) (by rw [Bool.and_eq_true]; exact ⟨by assumption, by assumption⟩)]; done) | (rw [entR_7 (by omega) (by omega) (by omega) (by omega) (by rw [Bool.and_eq_true]; exact ⟨by assumption, by assumption⟩) (by rw [Bool.and_eq_true]; exact ⟨by assumption, by assumption⟩)]; rfl)⟩ ?_)
              exact absW
            refine runTf g'18 ?_
            refine hQ _ _ (end_byG (.inl rfl) hbel (x1 := .tup [.agg [iV ((16 * tx) + (((nx + (rdU 0 0 b).1) % 16 : Nat) : Int)), iV ((16 * ty) + (((nx + (rdU 0 0 b).1) / 16 : Nat) : Int)), iV ((rdI ((rdU 0 0 b).2.1)).1), iV ((rdI ((rdI ((rdU 0 0 b).2.1)).2.1)).1)], iV ((nx + (rdU 0 0 b).1 + 1 : Nat) : Int), .sl (some (H.length + 4, 0)) (((rdI ((rdI ((rdU 0 0 b).2.1)).2.1)).2.1).length) (capG ((rdI ((rdI ((rdU 0 0 b).2.1)).2.1)).2.1).length), iV 0]) (l2 := [.cells (ownG ((rdI ((rdI ((rdU 0 0 b).2.1)).2.1)).2.1).length) 1 (ints .u8 ((rdI ((rdI ((rdU 0 0 b).2.1)).2.1)).2.1))]) (.tup [.agg [iV ((16 * tx) + (((nx + (rdU 0 0 b).1) % 16 : Nat) : Int)), iV ((16 * ty) + (((nx + (rdU 0 0 b).1) / 16 : Nat) : Int)), iV ((rdI ((rdU 0 0 b).2.1)).1), iV ((rdI ((rdI ((rdU 0 0 b).2.1)).2.1)).1)], iV ((nx + (rdU 0 0 b).1 + 1 : Nat) : Int), .sl (some (H.length, 0)) (((rdI ((rdI ((rdU 0 0 b).2.1)).2.1)).2.1).length) (capG ((rdI ((rdI ((rdU 0 0 b).2.1)).2.1)).2.1).length), iV 0]) (resTf @add_nat1 Tryz.results24) [] rfl [4] (by decide) ⟨by first | (rw [entR_1 (by omega)]; done) | (rw [entR_1 (by omega)]; rfl) | (rw [entR_2 (by omega) (by omega)]; done) | (rw [entR_2 (by omega) (by omega)]; rfl) | (rw [entR_3 (by omega) (by omega) (by omega)]; done) | (rw [entR_3 (by omega) (by omega) (by omega)]; rfl) | (rw [entR_4 (by omega) (by omega) (by omega) (by omega)]; done) | (rw [entR_4 (by omega) (by omega) (by omega) (by omega)]; rfl) | (rw [entR_5 (by omega) (by omega) (by omega) (by omega) (by rw [Bool.and_eq_false_iff]; first | exact .inl (by assumption) | exact .inr (by assumption))]; done) | (rw [entR_5 (by omega) (by omega) (by omega) (by omega) (by rw [Bool.and_eq_false_iff]; first | exact .inl (by assumption) | exact .inr (by assumption))]; rfl) | (rw [entR_6 (by omega) (by omega) (by omega) (by omega) (by rw [Bool.and_eq_true]; exact ⟨by assumption, by assumption⟩) (by rw [Bool.and_eq_false_iff]; first | exact .inl (by assumption) | exact .inr (by assumption))]; done) | (rw [entR_6 (by omega) (by omega) (by omega) (by omega) (by rw [Bool.and_eq_true]; exact ⟨by assumption, by assumption⟩) (by rw [Bool.and_eq_false_iff]; first | exact .inl (by assumption) | exact .inr (by assumption))]; rfl) | (rw [entR_7 (by omega) (by omega) (by omega) (by omega) (by rw [Bool.and_eq_true]; exact ⟨by assumption, by assumption⟩) (by rw [Bool.and_eq_true]; exact ⟨by assumption, by assumption⟩)]; done) | (rw [entR_7 (by omega) (by omega) (by omega) (by omega) (by rw [Bool.and_eq_true]; exact ⟨by assumption, by assumption⟩) (by rw [Bool.and_eq_true]; exact ⟨by assumption, by assumption⟩)]; rfl), by first | (rw [entR_1 (by omega)]; done) | (rw [entR_1 (by omega)]; rfl) | (rw [entR_2 (by omega) (by omega)]; done) | (rw [entR_2 (by omega) (by omega)]; rfl) | (rw [entR_3 (by omega) (by omega) (by omega)]; done) | (rw [entR_3 (by omega) (by omega) (by omega)]; rfl) | (rw [entR_4 (by omega) (by omega) (by omega) (by omega)]; done) | (rw [entR_4 (by omega) (by omega) (by omega) (by omega)]; rfl) | (rw [entR_5 (by omega) (by omega) (by omega) (by omega) (by rw [Bool.and_eq_false_iff]; first | exact .inl (by assumption) | exact .inr (by assumption))]; done) | (rw [entR_5 (by omega) (by omega) (by omega) (by omega) (by rw [Bool.and_eq_false_iff]; first | exact .inl (by assumption) | exact .inr (by assumption))]; rfl) | (rw [entR_6 (by omega) (by omega) (by omega) (by omega) (by rw [Bool.and_eq_true]; exact ⟨by assumption, by assumption⟩) (by rw [Bool.and_eq_false_iff]; first | exact .inl (by assumption) | exact .inr (by assumption))]; done) | (rw [entR_6 (by omega) (by omega) (by omega) (by omega) (by rw [Bool.and_eq_true]; exact ⟨by assumption, by assumption⟩) (by rw [Bool.and_eq_false_iff]; first | exact .inl (by assumption) | exact .inr (by assumption))]; rfl) | (rw [entR_7 (by omega) (by omega) (by omega) (by omega) (by rw [Bool.and_eq_true]; exact ⟨by assumption, by assumption⟩) (by rw [Bool.and_eq_true]; exact ⟨by assumption, by assumption⟩)]; done) | (rw [entR_7 (by omega) (by omega) (by omega) (by omega) (by rw [Bool.and_eq_true]; exact ⟨by assumption, by assumption⟩) (by rw [Bool.and_eq_true]; exact ⟨by assumption, by assumption⟩)]; rfl)⟩ ?_)
            exact absW
          refine runTf g'19 ?_
          refine hQ _ _ (end_byG (.inl rfl) hbel (x1 := .tup [.agg [iV 0, iV 0, iV 0, iV 0], iV 0, .sl none 0 (some 0), iV 1]) (l2 := [.cells false 1 []]) (.tup [.agg [iV 0, iV 0, iV 0, iV 0], iV 0, .sl (some (H.length, 0)) 0 (some 0), iV 1]) (resTf @add_nat1 Tryz.results24) [.cells false 1 []] rfl [6] (by decide) ⟨by first | (rw [entR_1 (by omega)]; done) | (rw [entR_1 (by omega)]; rfl) | (rw [entR_2 (by omega) (by omega)]; done) | (rw [entR_2 (by omega) (by omega)]; rfl) | (rw [entR_3 (by omega) (by omega) (by omega)]; done) | (rw [entR_3 (by omega) (by omega) (by omega)]; rfl) | (rw [entR_4 (by omega) (by omega) (by omega) (by omega)]; done) | (rw [entR_4 (by omega) (by omega) (by omega) (by omega)]; rfl) | (rw [entR_5 (by omega) (by omega) (by omega) (by omega) (by rw [Bool.and_eq_false_iff]; first | exact .inl (by assumption) | exact .inr (by assumption))]; done) | (rw [entR_5 (by omega) (by omega) (by omega) (by omega) (by rw [Bool.and_eq_false_iff]; first | exact .inl (by assumption) | exact .inr (by assumption))]; rfl) | (rw [entR_6 (by omega) (by omega) (by omega) (by omega) (by rw [Bool.and_eq_true]; exact ⟨by assumption, by assumption⟩) (by rw [Bool.and_eq_false_iff]; first | exact .inl (by assumption) | exact .inr (by assumption))]; done) | (rw [entR_6 (by omega) (by omega) (by omega) (by omega) (by rw [Bool.and_eq_true]; exact ⟨by assumption, by assumption⟩) (by rw [Bool.and_eq_false_iff]; first | exact .inl (by assumption) | exact .inr (by assumption))]; rfl) | (rw [entR_7 (by omega) (by omega) (by omega) (by omega) (by rw [Bool.and_eq_true]; exact ⟨by assumption, by assumption⟩) (by rw [Bool.and_eq_true]; exact ⟨by assumption, by assumption⟩)]; done) | (rw [entR_7 (by omega) (by omega) (by omega) (by omega) (by rw [Bool.and_eq_true]; exact ⟨by assumption, by assumption⟩) (by rw [Bool.and_eq_true]; exact ⟨by assumption, by assumption⟩)]; rfl), by first | (rw [entR_1 (by omega)]; done) | (rw [entR_1 (by omega)]; rfl) | (rw [entR_2 (by omega) (by omega)]; done) | (rw [entR_2 (by omega) (by omega)]; rfl) | (rw [entR_3 (by omega) (by omega) (by omega)]; done) | (rw [entR_3 (by omega) (by omega) (by omega)]; rfl) | (rw [entR_4 (by omega) (by omega) (by omega) (by omega)]; done) | (rw [entR_4 (by omega) (by omega) (by omega) (by omega)]; rfl) | (rw [entR_5 (by omega) (by omega) (by omega) (by omega) (by rw [Bool.and_eq_false_iff]; first | exact .inl (by assumption) | exact .inr (by assumption))]; done) | (rw [entR_5 (by omega) (by omega) (by omega) (by omega) (by rw [Bool.and_eq_false_iff]; first | exact .inl (by assumption) | exact .inr (by assumption))]; rfl) | (rw [entR_6 (by omega) (by omega) (by omega) (by omega) (by rw [Bool.and_eq_true]; exact ⟨by assumption, by assumption⟩) (by rw [Bool.and_eq_false_iff]; first | exact .inl (by assumption) | exact .inr (by assumption))]; done) | (rw [entR_6 (by omega) (by omega) (by omega) (by omega) (by rw [Bool.and_eq_true]; exact ⟨by assumption, by assumption⟩) (by rw [Bool.and_eq_false_iff]; first | exact .inl (by assumption) | exact .inr (by assumption))]; rfl) | (rw [entR_7 (by omega) (by omega) (by omega) (by omega) (by rw [Bool.and_eq_true]; exact ⟨by assumption, by assumption⟩) (by rw [Bool.and_eq_true]; exact ⟨by assumption, by assumption⟩)]; done) | (rw [entR_7 (by omega) (by omega) (by omega) (by omega) (by rw [Bool.and_eq_true]; exact ⟨by assumption, by assumption⟩) (by rw [Bool.and_eq_true]; exact ⟨by assumption, by assumption⟩)]; rfl)⟩ ?_)
          exact absW
        refine runTf g'20 ?_
        refine hQ _ _ (end_byG (.inl rfl) hbel (x1 := .tup [.agg [iV 0, iV 0, iV 0, iV 0], iV 0, .sl none 0 (some 0), iV 2]) (l2 := [.cells false 1 []]) (.tup [.agg [iV 0, iV 0, iV 0, iV 0], iV 0, .sl (some (H.length, 0)) 0 (some 0), iV 2]) (resTf @add_nat1 Tryz.results24) [.cells false 1 []] rfl [5] (by decide) ⟨by first | (rw [entR_1 (by omega)]; done) | (rw [entR_1 (by omega)]; rfl) | (rw [entR_2 (by omega) (by omega)]; done) | (rw [entR_2 (by omega) (by omega)]; rfl) | (rw [entR_3 (by omega) (by omega) (by omega)]; done) | (rw [entR_3 (by omega) (by omega) (by omega)]; rfl) | (rw [entR_4 (by omega) (by omega) (by omega) (by omega)]; done) | (rw [entR_4 (by omega) (by omega) (by omega) (by omega)]; rfl) | (rw [entR_5 (by omega) (by omega) (by omega) (by omega) (by rw [Bool.and_eq_false_iff]; first | exact .inl (by assumption) | exact .inr (by assumption))]; done) | (rw [entR_5 (by omega) (by omega) (by omega) (by omega) (by rw [Bool.and_eq_false_iff]; first | exact .inl (by assumption) | exact .inr (by assumption))]; rfl) | (rw [entR_6 (by omega) (by omega) (by omega) (by omega) (by rw [Bool.and_eq_true]; exact ⟨by assumption, by assumption⟩) (by rw [Bool.and_eq_false_iff]; first | exact .inl (by assumption) | exact .inr (by assumption))]; done) | (rw [entR_6 (by omega) (by omega) (by omega) (by omega) (by rw [Bool.and_eq_true]; exact ⟨by assumption, by assumption⟩) (by rw [Bool.and_eq_false_iff]; first | exact .inl (by assumption) | exact .inr (by assumption))]; rfl) | (rw [entR_7 (by omega) (by omega) (by omega) (by omega) (by rw [Bool.and_eq_true]; exact ⟨by assumption, by assumption⟩) (by rw [Bool.and_eq_true]; exact ⟨by assumption, by assumption⟩)]; done) | (rw [entR_7 (by omega) (by omega) (by omega) (by omega) (by rw [Bool.and_eq_true]; exact ⟨by assumption, by assumption⟩) (by rw [Bool.and_eq_true]; exact ⟨by assumption, by assumption⟩)]; rfl), by first | (rw [entR_1 (by omega)]; done) | (rw [entR_1 (by omega)]; rfl) | (rw [entR_2 (by omega) (by omega)]; done) | (rw [entR_2 (by omega) (by omega)]; rfl) | (rw [entR_3 (by omega) (by omega) (by omega)]; done) | (rw [entR_3 (by omega) (by omega) (by omega)]; rfl) | (rw [entR_4 (by omega) (by omega) (by omega) (by omega)]; done) | (rw [entR_4 (by omega) (by omega) (by omega) (by omega)]; rfl) | (rw [entR_5 (by omega) (by omega) (by omega) (by omega) (by rw [Bool.and_eq_false_iff]; first | exact .inl (by assumption) | exact .inr (by assumption))]; done) | (rw [entR_5 (by omega) (by omega) (by omega) (by omega) (by rw [Bool.and_eq_false_iff]; first | exact .inl (by assumption) | exact .inr (by assumption))]; rfl) | (rw [entR_6 (by omega) (by omega) (by omega) (by omega) (by rw [Bool.and_eq_true]; exact ⟨by assumption, by assumption⟩) (by rw [Bool.and_eq_false_iff]; first | exact .inl (by assumption) | exact .inr (by assumption))]; done) | (rw [entR_6 (by omega) (by omega) (by omega) (by omega) (by rw [Bool.and_eq_true]; exact ⟨by assumption, by assumption⟩) (by rw [Bool.and_eq_false_iff]; first | exact .inl (by assumption) | exact .inr (by assumption))]; rfl) | (rw [entR_7 (by omega) (by omega) (by omega) (by omega) (by rw [Bool.and_eq_true]; exact ⟨by assumption, by assumption⟩) (by rw [Bool.and_eq_true]; exact ⟨by assumption, by assumption⟩)]; done) | (rw [entR_7 (by omega) (by omega) (by omega) (by omega) (by rw [Bool.and_eq_true]; exact ⟨by assumption, by assumption⟩) (by rw [Bool.and_eq_true]; exact ⟨by assumption, by assumption⟩)]; rfl)⟩ ?_)
        exact absW
      have h6n := bnT h6
      have g'21 := j2 h6 h6n g'9
      refine runTf g'21 ?_
      refine cv (tsize_c _ _ _ (by decide)) ?_
      refine rgs g'21 (fun h12 h12d g'22 => ?_) (fun h12 h12d g'29 => ?_)
      · refine runTf g'22 ?_
        refine cv (tsize_c _ _ _ (by decide)) ?_
        refine rcs g'22 (fun h13 h13d g'23 => ?_) (fun h13 h13d g'24 => ?_)
        · refine runTf g'23 ?_
          refine hQ _ _ (end_byG (.inl rfl) hbel (x1 := .tup [.agg [iV 0, iV 0, iV 0, iV 0], iV 0, .sl none 0 (some 0), iV 2]) (l2 := [.cells false 1 []]) (.tup [.agg [iV 0, iV 0, iV 0, iV 0], iV 0, .sl (some (H.length, 0)) 0 (some 0), iV 2]) (resTf @add_nat1 Tryz.results24) [.cells false 1 []] rfl [5] (by decide) ⟨by first | (rw [entR_1 (by omega)]; done) | (rw [entR_1 (by omega)]; rfl) | (rw [entR_2 (by omega) (by omega)]; done) | (rw [entR_2 (by omega) (by omega)]; rfl) | (rw [entR_3 (by omega) (by omega) (by omega)]; done) | (rw [entR_3 (by omega) (by omega) (by omega)]; rfl) | (rw [entR_4 (by omega) (by omega) (by omega) (by omega)]; done) | (rw [entR_4 (by omega) (by omega) (by omega) (by omega)]; rfl) | (rw [entR_5 (by omega) (by omega) (by omega) (by omega) (by rw [Bool.and_eq_false_iff]; first | exact .inl (by assumption) | exact .inr (by assumption))]; done) | (rw [entR_5 (by omega) (by omega) (by omega) (by omega) (by rw [Bool.and_eq_false_iff]; first | exact .inl (by assumption) | exact .inr (by assumption))]; rfl) | (rw [entR_6 (by omega) (by omega) (by omega) (by omega) (by rw [Bool.and_eq_true]; exact ⟨by assumption, by assumption⟩) (by rw [Bool.and_eq_false_iff]; first | exact .inl (by assumption) | exact .inr (by assumption))]; done) | (rw [entR_6 (by omega) (by omega) (by omega) (by omega) (by rw [Bool.and_eq_true]; exact ⟨by assumption, by assumption⟩) (by rw [Bool.and_eq_false_iff]; first | exact .inl (by assumption) | exact .inr (by assumption))]; rfl) | (rw [entR_7 (by omega) (by omega) (by omega) (by omega) (by rw [Bool.and_eq_true]; exact ⟨by assumption, by assumption⟩) (by rw [Bool.and_eq_true]; exact ⟨by assumption, by assumption⟩)]; done) | (rw [entR_7 (by omega) (by omega) (by omega) (by omega) (by rw [Bool.and_eq_true]; exact ⟨by assumption, by assumption⟩) (by rw [Bool.and_eq_true]; exact ⟨by assumption, by assumption⟩)]; rfl), by first | (rw [entR_1 (by omega)]; done) | (rw [entR_1 (by omega)]; rfl) | (rw [entR_2 (by omega) (by omega)]; done) | (rw [entR_2 (by omega) (by omega)]; rfl) | (rw [entR_3 (by omega) (by omega) (by omega)]; done) | (rw [entR_3 (by omega) (by omega) (by omega)]; rfl) | (rw [entR_4 (by omega) (by omega) (by omega) (by omega)]; done) | (rw [entR_4 (by omega) (by omega) (by omega) (by omega)]; rfl) | (rw [entR_5 (by omega) (by omega) (by omega) (by omega) (by rw [Bool.and_eq_false_iff]; first | exact .inl (by assumption) | exact .inr (by assumption))]; done) | (rw [entR_5 (by omega) (by omega) (by omega) (by omega) (by rw [Bool.and_eq_false_iff]; first | exact .inl (by assumption) | exact .inr (by assumption))]; rfl) | (rw [entR_6 (by omega) (by omega) (by omega) (by omega) (by rw [Bool.and_eq_true]; exact ⟨by assumption, by assumption⟩) (by rw [Bool.and_eq_false_iff]; first | exact .inl (by assumption) | exact .inr (by assumption))]; done) | (rw [entR_6 (by omega) (by omega) (by omega) (by omega) (by rw [Bool.and_eq_true]; exact ⟨by assumption, by assumption⟩) (by rw [Bool.and_eq_false_iff]; first | exact .inl (by assumption) | exact .inr (by assumption))]; rfl) | (rw [entR_7 (by omega) (by omega) (by omega) (by omega) (by rw [Bool.and_eq_true]; exact ⟨by assumption, by assumption⟩) (by rw [Bool.and_eq_true]; exact ⟨by assumption, by assumption⟩)]; done) | (rw [entR_7 (by omega) (by omega) (by omega) (by omega) (by rw [Bool.and_eq_true]; exact ⟨by assumption, by assumption⟩) (by rw [Bool.and_eq_true]; exact ⟨by assumption, by assumption⟩)]; rfl)⟩ ?_)
          exact absW
        refine runTf g'24 ?_
        refine cv (tsize_c _ _ _ (by decide)) ?_
        refine rgs g'24 (fun h14 h14d g'25 => ?_) (fun h14 h14d g'28 => ?_)
        · refine runTf g'25 ?_
          refine cv (tsize_c _ _ _ (by decide)) ?_
          refine rcs g'25 (fun h15 h15d g'26 => ?_) (fun h15 h15d g'27 => ?_)
          · refine runTf g'26 ?_
            refine hQ _ _ (end_byG (.inl rfl) hbel (x1 := .tup [.agg [iV 0, iV 0, iV 0, iV 0], iV 0, .sl none 0 (some 0), iV 1]) (l2 := [.cells false 1 []]) (.tup [.agg [iV 0, iV 0, iV 0, iV 0], iV 0, .sl (some (H.length, 0)) 0 (some 0), iV 1]) (resTf @add_nat1 Tryz.results24) [.cells false 1 []] rfl [6] (by decide) ⟨by first | (rw [entR_1 (by omega)]; done) | (rw [entR_1 (by omega)]; rfl) | (rw [entR_2 (by omega) (by omega)]; done) | (rw [entR_2 (by omega) (by omega)]; rfl) | (rw [entR_3 (by omega) (by omega) (by omega)]; done) | (rw [entR_3 (by omega) (by omega) (by omega)]; rfl) | (rw [entR_4 (by omega) (by omega) (by omega) (by omega)]; done) | (rw [entR_4 (by omega) (by omega) (by omega) (by omega)]; rfl) | (rw [entR_5 (by omega) (by omega) (by omega) (by omega) (by rw [Bool.and_eq_false_iff]; first | exact .inl (by assumption) | exact .inr (by assumption))]; done) | (rw [entR_5 (by omega) (by omega) (by omega) (by omega) (by rw [Bool.and_eq_false_iff]; first | exact .inl (by assumption) | exact .inr (by assumption))]; rfl) | (rw [entR_6 (by omega) (by omega) (by omega) (by omega) (by rw [Bool.and_eq_true]; exact ⟨by assumption, by assumption⟩) (by rw [Bool.and_eq_false_iff]; first | exact .inl (by assumption) | exact .inr (by assumption))]; done) | (rw [entR_6 (by omega) (by omega) (by omega) (by omega) (by rw [Bool.and_eq_true]; exact ⟨by assumption, by assumption⟩) (by rw [Bool.and_eq_false_iff]; first | exact .inl (by assumption) | exact .inr (by assumption))]; rfl) | (rw [entR_7 (by omega) (by omega) (by omega) (by omega) (by rw [Bool.and_eq_true]; exact ⟨by assumption, by assumption⟩) (by rw [Bool.and_eq_true]; exact ⟨by assumption, by assumption⟩)]; done) | (rw [entR_7 (by omega) (by omega) (by omega) (by omega) (by rw [Bool.and_eq_true]; exact ⟨by assumption, by assumption⟩) (by rw [Bool.and_eq_true]; exact ⟨by assumption, by assumption⟩)]; rfl), by first | (rw [entR_1 (by omega)]; done) | (rw [entR_1 (by omega)]; rfl) | (rw [entR_2 (by omega) (by omega)]; done) | (rw [entR_2 (by omega) (by omega)]; rfl) | (rw [entR_3 (by omega) (by omega) (by omega)]; done) | (rw [entR_3 (by omega) (by omega) (by omega)]; rfl) | (rw [entR_4 (by omega) (by omega) (by omega) (by omega)]; done) | (rw [entR_4 (by omega) (by omega) (by omega) (by omega)]; rfl) | (rw [entR_5 (by omega) (by omega) (by omega) (by omega) (by rw [Bool.and_eq_false_iff]; first | exact .inl (by assumption) | exact .inr (by assumption))]; done) | (rw [entR_5 (by omega) (by omega) (by omega) (by omega) (by rw [Bool.and_eq_false_iff]; first | exact .inl (by assumption) | exact .inr (by assumption))]; rfl) | (rw [entR_6 (by omega) (by omega) (by omega) (by omega) (by rw [Bool.and_eq_true]; exact ⟨by assumption, by assumption⟩) (by rw [Bool.and_eq_false_iff]; first | exact .inl (by assumption) | exact .inr (by assumption))]; done) | (rw [entR_6 (by omega) (by omega) (by omega) (by omega) (by rw [Bool.and_eq_true]; exact ⟨by assumption, by assumption⟩) (by rw [Bool.and_eq_false_iff]; first | exact .inl (by assumption) | exact .inr (by assumption))]; rfl) | (rw [entR_7 (by omega) (by omega) (by omega) (by omega) (by rw [Bool.and_eq_true]; exact ⟨by assumption, by assumption⟩) (by rw [Bool.and_eq_true]; exact ⟨by assumption, by assumption⟩)]; done) | (rw [entR_7 (by omega) (by omega) (by omega) (by omega) (by rw [Bool.and_eq_true]; exact ⟨by assumption, by assumption⟩) (by rw [Bool.and_eq_true]; exact ⟨by assumption, by assumption⟩)]; rfl)⟩ ?_)
            exact absW
          refine runTf g'27 ?_
          refine hQ _ _ (end_byG (.inl rfl) hbel (x1 := .tup [.agg [iV ((16 * tx) + (((nx + (rdU 0 0 b).1) % 16 : Nat) : Int)), iV ((16 * ty) + (((nx + (rdU 0 0 b).1) / 16 : Nat) : Int)), iV ((rdI ((rdU 0 0 b).2.1)).1), iV ((rdI ((rdI ((rdU 0 0 b).2.1)).2.1)).1)], iV ((nx + (rdU 0 0 b).1 + 1 : Nat) : Int), .sl (some (H.length + 4, 0)) (((rdI ((rdI ((rdU 0 0 b).2.1)).2.1)).2.1).length) (capG ((rdI ((rdI ((rdU 0 0 b).2.1)).2.1)).2.1).length), iV 0]) (l2 := [.cells (ownG ((rdI ((rdI ((rdU 0 0 b).2.1)).2.1)).2.1).length) 1 (ints .u8 ((rdI ((rdI ((rdU 0 0 b).2.1)).2.1)).2.1))]) (.tup [.agg [iV ((16 * tx) + (((nx + (rdU 0 0 b).1) % 16 : Nat) : Int)), iV ((16 * ty) + (((nx + (rdU 0 0 b).1) / 16 : Nat) : Int)), iV ((rdI ((rdU 0 0 b).2.1)).1), iV ((rdI ((rdI ((rdU 0 0 b).2.1)).2.1)).1)], iV ((nx + (rdU 0 0 b).1 + 1 : Nat) : Int), .sl (some (H.length, 0)) (((rdI ((rdI ((rdU 0 0 b).2.1)).2.1)).2.1).length) (capG ((rdI ((rdI ((rdU 0 0 b).2.1)).2.1)).2.1).length), iV 0]) (resTf @add_nat1 Tryz.results24) [] rfl [4] (by decide) ⟨by first | (rw [entR_1 (by omega)]; done) | (rw [entR_1 (by omega)]; rfl) | (rw [entR_2 (by omega) (by omega)]; done) | (rw [entR_2 (by omega) (by omega)]; rfl) | (rw [entR_3 (by omega) (by omega) (by omega)]; done) | (rw [entR_3 (by omega) (by omega) (by omega)]; rfl) | (rw [entR_4 (by omega) (by omega) (by omega) (by omega)]; done) | (rw [entR_4 (by omega) (by omega) (by omega) (by omega)]; rfl) | (rw [entR_5 (by omega) (by omega) (by omega) (by omega) (by rw [Bool.and_eq_false_iff]; first | exact .inl (by assumption) | exact .inr (by assumption))]; done) | (rw [entR_5 (by omega) (by omega) (by omega) (by omega) (by rw [Bool.and_eq_false_iff]; first | exact .inl (by assumption) | exact .inr (by assumption))]; rfl) | (rw [entR_6 (by omega) (by omega) (by omega) (by omega) (by rw [Bool.and_eq_true]; exact ⟨by assumption, by assumption⟩) (by rw [Bool.and_eq_false_iff]; first | exact .inl (by assumption) | exact .inr (by assumption))]; done) | (rw [entR_6 (by omega) (by omega) (by omega) (by omega) (by rw [Bool.and_eq_true]; exact ⟨by assumption, by assumption⟩) (by rw [Bool.and_eq_false_iff]; first | exact .inl (by assumption) | exact .inr (by assumption))]; rfl) | (rw [entR_7 (by omega) (by omega) (by omega) (by omega) (by rw [Bool.and_eq_true]; exact ⟨by assumption, by assumption⟩) (by rw [Bool.and_eq_true]; exact ⟨by assumption, by assumption⟩)]; done) | (rw [entR_7 (by omega) (by omega) (by omega) (by omega) (by rw [Bool.and_eq_true]; exact ⟨by assumption, by assumption⟩) (by rw [Bool.and_eq_true]; exact ⟨by assumption, by assumption⟩)]; rfl), by first | (rw [entR_1 (by omega)]; done) | (rw [entR_1 (by omega)]; rfl) | (rw [entR_2 (by omega) (by omega)]; done) | (rw [entR_2 (by omega) (by omega)]; rfl) | (rw [entR_3 (by omega) (by omega) (by omega)]; done) | (rw [entR_3 (by omega) (by omega) (by omega)]; rfl) | (rw [entR_4 (by omega) (by omega) (by omega) (by omega)]; done) | (rw [entR_4 (by omega) (by omega) (by omega) (by omega)]; rfl) | (rw [entR_5 (by omega) (by omega) (by omega) (by omega) (by rw [Bool.and_eq_false_iff]; first | exact .inl (by assumption) | exact .inr (by assumption))]; done) | (rw [entR_5 (by omega) (by omega) (by omega) (by omega) (by rw [Bool.and_eq_false_iff]; first | exact .inl (by assumption) | exact .inr (by assumption))]; rfl) | (rw [entR_6 (by omega) (by omega) (by omega) (by omega) (by rw [Bool.and_eq_true]; exact ⟨by assumption, by assumption⟩) (by rw [Bool.and_eq_false_iff]; first | exact .inl (by assumption) | exact .inr (by assumption))]; done) | (rw [entR_6 (by omega) (by omega) (by omega) (by omega) (by rw [Bool.and_eq_true]; exact ⟨by assumption, by assumption⟩) (by rw [Bool.and_eq_false_iff]; first | exact .inl (by assumption) | exact .inr (by assumption))]; rfl) | (rw [entR_7 (by omega) (by omega) (by omega) (by omega) (by rw [Bool.and_eq_true]; exact ⟨by assumption, by assumption⟩) (by rw [Bool.and_eq_true]; exact ⟨by assumption, by assumption⟩)]; done) | (rw [entR_7 (by omega) (by omega) (by omega) (by omega) (by rw [Bool.and_eq_true]; exact ⟨by assumption, by assumption⟩) (by rw [Bool.and_eq_true]; exact ⟨by assumption, by assumption⟩)]; rfl)⟩ ?_)
          exact absW
        refine runTf g'28 ?_
        refine hQ _ _ (end_byG (.inl rfl) hbel (x1 := .tup [.agg [iV 0, iV 0, iV 0, iV 0], iV 0, .sl none 0 (some 0), iV 1]) (l2 := [.cells false 1 []]) (.tup [.agg [iV 0, iV 0, iV 0, iV 0], iV 0, .sl (some (H.length, 0)) 0 (some 0), iV 1]) (resTf @add_nat1 Tryz.results24) [.cells false 1 []] rfl [6] (by decide) ⟨by first | (rw [entR_1 (by omega)]; done) | (rw [entR_1 (by omega)]; rfl) | (rw [entR_2 (by omega) (by omega)]; done) | (rw [entR_2 (by omega) (by omega)]; rfl) | (rw [entR_3 (by omega) (by omega) (by omega)]; done) | (rw [entR_3 (by omega) (by omega) (by omega)]; rfl) | (rw [entR_4 (by omega) (by omega) (by omega) (by omega)]; done) | (rw [entR_4 (by omega) (by omega) (by omega) (by omega)]; rfl) | (rw [entR_5 (by omega) (by omega) (by omega) (by omega) (by rw [Bool.and_eq_false_iff]; first | exact .inl (by assumption) | exact .inr (by assumption))]; done) | (rw [entR_5 (by omega) (by omega) (by omega) (by omega) (by rw [Bool.and_eq_false_iff]; first | exact .inl (by assumption) | exact .inr (by assumption))]; rfl) | (rw [entR_6 (by omega) (by omega) (by omega) (by omega) (by rw [Bool.and_eq_true]; exact ⟨by assumption, by assumption⟩) (by rw [Bool.and_eq_false_iff]; first | exact .inl (by assumption) | exact .inr (by assumption))]; done) | (rw [entR_6 (by omega) (by omega) (by omega) (by omega) (by rw [Bool.and_eq_true]; exact ⟨by assumption, by assumption⟩) (by rw [Bool.and_eq_false_iff]; first | exact .inl (by assumption) | exact .inr (by assumption))]; rfl) | (rw [entR_7 (by omega) (by omega) (by omega) (by omega) (by rw [Bool.and_eq_true]; exact ⟨by assumption, by assumption⟩) (by rw [Bool.and_eq_true]; exact ⟨by assumption, by assumption⟩)]; done) | (rw [entR_7 (by omega) (by omega) (by omega) (by omega) (by rw [Bool.and_eq_true]; exact ⟨by assumption, by assumption⟩) (by rw [Bool.and_eq_true]; exact ⟨by assumption, by assumption⟩)]; rfl), by first | (rw [entR_1 (by omega)]; done) | (rw [entR_1 (by omega)]; rfl) | (rw [entR_2 (by omega) (by omega)]; done) | (rw [entR_2 (by omega) (by omega)]; rfl) | (rw [entR_3 (by omega) (by omega) (by omega)]; done) | (rw [entR_3 (by omega) (by omega) (by omega)]; rfl) | (rw [entR_4 (by omega) (by omega) (by omega) (by omega)]; done) | (rw [entR_4 (by omega) (by omega) (by omega) (by omega)]; rfl) | (rw [entR_5 (by omega) (by omega) (by omega) (by omega) (by rw [Bool.and_eq_false_iff]; first | exact .inl (by assumption) | exact .inr (by assumption))]; done) | (rw [entR_5 (by omega) (by omega) (by omega) (by omega) (by rw [Bool.and_eq_false_iff]; first | exact .inl (by assumption) | exact .inr (by assumption))]; rfl) | (rw [entR_6 (by omega) (by omega) (by omega) (by omega) (by rw [Bool.and_eq_true]; exact ⟨by assumption, by assumption⟩) (by rw [Bool.and_eq_false_iff]; first | exact .inl (by assumption) | exact .inr (by assumption))]; done) | (rw [entR_6 (by omega) (by omega) (by omega) (by omega) (by rw [Bool.and_eq_true]; exact ⟨by assumption, by assumption⟩) (by rw [Bool.and_eq_false_iff]; first | exact .inl (by assumption) | exact .inr (by assumption))]; rfl) | (rw [entR_7 (by omega) (by omega) (by omega) (by omega) (by rw [Bool.and_eq_true]; exact ⟨by assumption, by assumption⟩) (by rw [Bool.and_eq_true]; exact ⟨by assumption, by assumption⟩)]; done) | (rw [entR_7 (by omega) (by omega) (by omega) (by omega) (by rw [Bool.and_eq_true]; exact ⟨by assumption, by assumption⟩) (by rw [Bool.and_eq_true]; exact ⟨by assumption, by assumption⟩)]; rfl)⟩ ?_)
        exact absW
      refine runTf g'29 ?_
      refine hQ _ _ (end_byG (.inl rfl) hbel (x1 := .tup [.agg [iV 0, iV 0, iV 0, iV 0], iV 0, .sl none 0 (some 0), iV 2]) (l2 := [.cells false 1 []]) (.tup [.agg [iV 0, iV 0, iV 0, iV 0], iV 0, .sl (some (H.length, 0)) 0 (some 0), iV 2]) (resTf @add_nat1 Tryz.results24) [.cells false 1 []] rfl [5] (by decide) ⟨by first | (rw [entR_1 (by omega)]; done) | (rw [entR_1 (by omega)]; rfl) | (rw [entR_2 (by omega) (by omega)]; done) | (rw [entR_2 (by omega) (by omega)]; rfl) | (rw [entR_3 (by omega) (by omega) (by omega)]; done) | (rw [entR_3 (by omega) (by omega) (by omega)]; rfl) | (rw [entR_4 (by omega) (by omega) (by omega) (by omega)]; done) | (rw [entR_4 (by omega) (by omega) (by omega) (by omega)]; rfl) | (rw [entR_5 (by omega) (by omega) (by omega) (by omega) (by rw [Bool.and_eq_false_iff]; first | exact .inl (by assumption) | exact .inr (by assumption))]; done) | (rw [entR_5 (by omega) (by omega) (by omega) (by omega) (by rw [Bool.and_eq_false_iff]; first | exact .inl (by assumption) | exact .inr (by assumption))]; rfl) | (rw [entR_6 (by omega) (by omega) (by omega) (by omega) (by rw [Bool.and_eq_true]; exact ⟨by assumption, by assumption⟩) (by rw [Bool.and_eq_false_iff]; first | exact .inl (by assumption) | exact .inr (by assumption))]; done) | (rw [entR_6 (by omega) (by omega) (by omega) (by omega) (by rw [Bool.and_eq_true]; exact ⟨by assumption, by assumption⟩) (by rw [Bool.and_eq_false_iff]; first | exact .inl (by assumption) | exact .inr (by assumption))]; rfl) | (rw [entR_7 (by omega) (by omega) (by omega) (by omega) (by rw [Bool.and_eq_true]; exact ⟨by assumption, by assumption⟩) (by rw [Bool.and_eq_true]; exact ⟨by assumption, by assumption⟩)]; done) | (rw [entR_7 (by omega) (by omega) (by omega) (by omega) (by rw [Bool.and_eq_true]; exact ⟨by assumption, by assumption⟩) (by rw [Bool.and_eq_true]; exact ⟨by assumption, by assumption⟩)]; rfl), by first | (rw [entR_1 (by omega)]; done) | (rw [entR_1 (by omega)]; rfl) | (rw [entR_2 (by omega) (by omega)]; done) | (rw [entR_2 (by omega) (by omega)]; rfl) | (rw [entR_3 (by omega) (by omega) (by omega)]; done) | (rw [entR_3 (by omega) (by omega) (by omega)]; rfl) | (rw [entR_4 (by omega) (by omega) (by omega) (by omega)]; done) | (rw [entR_4 (by omega) (by omega) (by omega) (by omega)]; rfl) | (rw [entR_5 (by omega) (by omega) (by omega) (by omega) (by rw [Bool.and_eq_false_iff]; first | exact .inl (by assumption) | exact .inr (by assumption))]; done) | (rw [entR_5 (by omega) (by omega) (by omega) (by omega) (by rw [Bool.and_eq_false_iff]; first | exact .inl (by assumption) | exact .inr (by assumption))]; rfl) | (rw [entR_6 (by omega) (by omega) (by omega) (by omega) (by rw [Bool.and_eq_true]; exact ⟨by assumption, by assumption⟩) (by rw [Bool.and_eq_false_iff]; first | exact .inl (by assumption) | exact .inr (by assumption))]; done) | (rw [entR_6 (by omega) (by omega) (by omega) (by omega) (by rw [Bool.and_eq_true]; exact ⟨by assumption, by assumption⟩) (by rw [Bool.and_eq_false_iff]; first | exact .inl (by assumption) | exact .inr (by assumption))]; rfl) | (rw [entR_7 (by omega) (by omega) (by omega) (by omega) (by rw [Bool.and_eq_true]; exact ⟨by assumption, by assumption⟩) (by rw [Bool.and_eq_true]; exact ⟨by assumption, by assumption⟩)]; done) | (rw [entR_7 (by omega) (by omega) (by omega) (by omega) (by rw [Bool.and_eq_true]; exact ⟨by assumption, by assumption⟩) (by rw [Bool.and_eq_true]; exact ⟨by assumption, by assumption⟩)]; rfl)⟩ ?_)
      exact absW
    refine runTf g'30 ?_
    refine hQ _ _ (end_byG (.inl rfl) hbel (x1 := .tup [.agg [iV 0, iV 0, iV 0, iV 0], iV 0, .sl none 0 (some 0), iV 3]) (l2 := [.cells false 1 []]) (.tup [.agg [iV 0, iV 0, iV 0, iV 0], iV 0, .sl (some (H.length, 0)) 0 (some 0), iV 3]) (resTf @add_nat1 Tryz.results24) [.cells false 1 []] rfl [5] (by decide) ⟨by first | (rw [entR_1 (by omega)]; done) | (rw [entR_1 (by omega)]; rfl) | (rw [entR_2 (by omega) (by omega)]; done) | (rw [entR_2 (by omega) (by omega)]; rfl) | (rw [entR_3 (by omega) (by omega) (by omega)]; done) | (rw [entR_3 (by omega) (by omega) (by omega)]; rfl) | (rw [entR_4 (by omega) (by omega) (by omega) (by omega)]; done) | (rw [entR_4 (by omega) (by omega) (by omega) (by omega)]; rfl) | (rw [entR_5 (by omega) (by omega) (by omega) (by omega) (by rw [Bool.and_eq_false_iff]; first | exact .inl (by assumption) | exact .inr (by assumption))]; done) | (rw [entR_5 (by omega) (by omega) (by omega) (by omega) (by rw [Bool.and_eq_false_iff]; first | exact .inl (by assumption) | exact .inr (by assumption))]; rfl) | (rw [entR_6 (by omega) (by omega) (by omega) (by omega) (by rw [Bool.and_eq_true]; exact ⟨by assumption, by assumption⟩) (by rw [Bool.and_eq_false_iff]; first | exact .inl (by assumption) | exact .inr (by assumption))]; done) | (rw [entR_6 (by omega) (by omega) (by omega) (by omega) (by rw [Bool.and_eq_true]; exact ⟨by assumption, by assumption⟩) (by rw [Bool.and_eq_false_iff]; first | exact .inl (by assumption) | exact .inr (by assumption))]; rfl) | (rw [entR_7 (by omega) (by omega) (by omega) (by omega) (by rw [Bool.and_eq_true]; exact ⟨by assumption, by assumption⟩) (by rw [Bool.and_eq_true]; exact ⟨by assumption, by assumption⟩)]; done) | (rw [entR_7 (by omega) (by omega) (by omega) (by omega) (by rw [Bool.and_eq_true]; exact ⟨by assumption, by assumption⟩) (by rw [Bool.and_eq_true]; exact ⟨by assumption, by assumption⟩)]; rfl), by first | (rw [entR_1 (by omega)]; done) | (rw [entR_1 (by omega)]; rfl) | (rw [entR_2 (by omega) (by omega)]; done) | (rw [entR_2 (by omega) (by omega)]; rfl) | (rw [entR_3 (by omega) (by omega) (by omega)]; done) | (rw [entR_3 (by omega) (by omega) (by omega)]; rfl) | (rw [entR_4 (by omega) (by omega) (by omega) (by omega)]; done) | (rw [entR_4 (by omega) (by omega) (by omega) (by omega)]; rfl) | (rw [entR_5 (by omega) (by omega) (by omega) (by omega) (by rw [Bool.and_eq_false_iff]; first | exact .inl (by assumption) | exact .inr (by assumption))]; done) | (rw [entR_5 (by omega) (by omega) (by omega) (by omega) (by rw [Bool.and_eq_false_iff]; first | exact .inl (by assumption) | exact .inr (by assumption))]; rfl) | (rw [entR_6 (by omega) (by omega) (by omega) (by omega) (by rw [Bool.and_eq_true]; exact ⟨by assumption, by assumption⟩) (by rw [Bool.and_eq_false_iff]; first | exact .inl (by assumption) | exact .inr (by assumption))]; done) | (rw [entR_6 (by omega) (by omega) (by omega) (by omega) (by rw [Bool.and_eq_true]; exact ⟨by assumption, by assumption⟩) (by rw [Bool.and_eq_false_iff]; first | exact .inl (by assumption) | exact .inr (by assumption))]; rfl) | (rw [entR_7 (by omega) (by omega) (by omega) (by omega) (by rw [Bool.and_eq_true]; exact ⟨by assumption, by assumption⟩) (by rw [Bool.and_eq_true]; exact ⟨by assumption, by assumption⟩)]; done) | (rw [entR_7 (by omega) (by omega) (by omega) (by omega) (by rw [Bool.and_eq_true]; exact ⟨by assumption, by assumption⟩) (by rw [Bool.and_eq_true]; exact ⟨by assumption, by assumption⟩)]; rfl)⟩ ?_)
    exact absW
  refine runTf g'31 ?_
  refine hQ _ _ (end_byG (.inl rfl) hbel (x1 := .tup [.agg [iV 0, iV 0, iV 0, iV 0], iV 0, .sl none 0 (some 0), iV 3]) (l2 := [.cells false 1 []]) (.tup [.agg [iV 0, iV 0, iV 0, iV 0], iV 0, .sl (some (H.length, 0)) 0 (some 0), iV 3]) (resTf @add_nat1 Tryz.results24) [.cells false 1 []] rfl [5] (by decide) ⟨by first | (rw [entR_1 (by omega)]; done) | (rw [entR_1 (by omega)]; rfl) | (rw [entR_2 (by omega) (by omega)]; done) | (rw [entR_2 (by omega) (by omega)]; rfl) | (rw [entR_3 (by omega) (by omega) (by omega)]; done) | (rw [entR_3 (by omega) (by omega) (by omega)]; rfl) | (rw [entR_4 (by omega) (by omega) (by omega) (by omega)]; done) | (rw [entR_4 (by omega) (by omega) (by omega) (by omega)]; rfl) | (rw [entR_5 (by omega) (by omega) (by omega) (by omega) (by rw [Bool.and_eq_false_iff]; first | exact .inl (by assumption) | exact .inr (by assumption))]; done) | (rw [entR_5 (by omega) (by omega) (by omega) (by omega) (by rw [Bool.and_eq_false_iff]; first | exact .inl (by assumption) | exact .inr (by assumption))]; rfl) | (rw [entR_6 (by omega) (by omega) (by omega) (by omega) (by rw [Bool.and_eq_true]; exact ⟨by assumption, by assumption⟩) (by rw [Bool.and_eq_false_iff]; first | exact .inl (by assumption) | exact .inr (by assumption))]; done) | (rw [entR_6 (by omega) (by omega) (by omega) (by omega) (by rw [Bool.and_eq_true]; exact ⟨by assumption, by assumption⟩) (by rw [Bool.and_eq_false_iff]; first | exact .inl (by assumption) | exact .inr (by assumption))]; rfl) | (rw [entR_7 (by omega) (by omega) (by omega) (by omega) (by rw [Bool.and_eq_true]; exact ⟨by assumption, by assumption⟩) (by rw [Bool.and_eq_true]; exact ⟨by assumption, by assumption⟩)]; done) | (rw [entR_7 (by omega) (by omega) (by omega) (by omega) (by rw [Bool.and_eq_true]; exact ⟨by assumption, by assumption⟩) (by rw [Bool.and_eq_true]; exact ⟨by assumption, by assumption⟩)]; rfl), by first | (rw [entR_1 (by omega)]; done) | (rw [entR_1 (by omega)]; rfl) | (rw [entR_2 (by omega) (by omega)]; done) | (rw [entR_2 (by omega) (by omega)]; rfl) | (rw [entR_3 (by omega) (by omega) (by omega)]; done) | (rw [entR_3 (by omega) (by omega) (by omega)]; rfl) | (rw [entR_4 (by omega) (by omega) (by omega) (by omega)]; done) | (rw [entR_4 (by omega) (by omega) (by omega) (by omega)]; rfl) | (rw [entR_5 (by omega) (by omega) (by omega) (by omega) (by rw [Bool.and_eq_false_iff]; first | exact .inl (by assumption) | exact .inr (by assumption))]; done) | (rw [entR_5 (by omega) (by omega) (by omega) (by omega) (by rw [Bool.and_eq_false_iff]; first | exact .inl (by assumption) | exact .inr (by assumption))]; rfl) | (rw [entR_6 (by omega) (by omega) (by omega) (by omega) (by rw [Bool.and_eq_true]; exact ⟨by assumption, by assumption⟩) (by rw [Bool.and_eq_false_iff]; first | exact .inl (by assumption) | exact .inr (by assumption))]; done) | (rw [entR_6 (by omega) (by omega) (by omega) (by omega) (by rw [Bool.and_eq_true]; exact ⟨by assumption, by assumption⟩) (by rw [Bool.and_eq_false_iff]; first | exact .inl (by assumption) | exact .inr (by assumption))]; rfl) | (rw [entR_7 (by omega) (by omega) (by omega) (by omega) (by rw [Bool.and_eq_true]; exact ⟨by assumption, by assumption⟩) (by rw [Bool.and_eq_true]; exact ⟨by assumption, by assumption⟩)]; done) | (rw [entR_7 (by omega) (by omega) (by omega) (by omega) (by rw [Bool.and_eq_true]; exact ⟨by assumption, by assumption⟩) (by rw [Bool.and_eq_true]; exact ⟨by assumption, by assumption⟩)]; rfl)⟩ ?_)
  exact absW
theorem unpack_c (H : AHeap) (s : AV) (l : List Tl) (hs : Sl H 3 s l.length (tlR l)) (hl : l.length ≤ 1000) (hok : tlOk H l) : ACalls Tryz.prog 10 [s] H (fun v H' => v = .tup [.sl (some (H.length, 0)) (((unpR l).1).length) (capG ((unpR l).1).length), iV ((unpR l).2)] ∧ H' = H ++ [.cells (ownG ((unpR l).1).length) 4 (r4 ((unpR l).1))]) := by
  obtain ⟨bs, os, cs, rfl, hbs⟩ := hs
  have hbls := getElem?_lt hbs
  have hb0s := fun l => get_app (l := l) hbs
  refine AcT true Tryz.func10 ?_; intro hbel Q hQ
  have g'1 := (jn @hbs @hb0s)
  refine runTf g'1 ?_
  refine glp (fun k F Hx => ∃ i : Nat, ∃ acc : List T4, i + k = l.length ∧ unpF adA none l [] = unpF adA (pvT l i) (l.drop i) acc ∧ UnpO l i acc ∧ acc.length ≤ 256 * i ∧ F = [(0, .sl (some (bs, 0)) l.length cs), (4, .sl (some (H.length, 0)) acc.length (capG acc.length)), (11, .sl (some (bs, 0)) l.length cs), (12, iV ((l.length : Nat) : Int)), (13, iV ((i : Nat) : Int))] ∧ Hx = H ++ [.cells (ownG acc.length) 4 (r4 acc)]) (l.length) ?_ ?_
  · refine ⟨_, _, _, ⟨0, [], by omega, rfl, UnpO.nil, Nat.le_refl _, rfl, rfl⟩, Abs.byE hbel [.cells false 4 []] rfl [0] (by decide) ?_⟩
    exact absRf (jn @r4_append (jn @r4_cons (jn @r4_nil @mvs_r4)))
  rintro k0 F Hx ⟨i, acc, hm0, hun, hUI, hac, rfl, rfl⟩ J0 hJ0
  have g'2 := (jn @r4_len (jn @r4_one g'1))
  refine rcs g'2 (fun h1 h1d _ => ?_) (fun h1 h1d g'40 => ?_)
  · have hlt : i < l.length := by omega
    obtain ⟨bq, oq, cq, hsq, hbq⟩ := hok.at hlt
    have hblq := getElem?_lt hbq
    have hb0q := fun l' => get_app (l := l') hbq
    have hdl := (hok _ (tlG_mem hlt)).2.1
    have hdB := (hok _ (tlG_mem hlt)).2.2
    have q2 := tlR_p (l := l) (j := i) (by omega) hsq
    have g'3 := (jn h1 (jn h1d (jn @tlR_len (jn q2 g'2))))
    refine rgs g'3 (fun h3 h3d _ => ?_) (fun h3 h3d g'23 => ?_)
    · have hsfj : ((((i : Nat) : Int) - 1).toNat : Nat) < l.length := by omega
      have q4 := tlR_at0 (l := l) (j := (((i : Nat) : Int) - 1).toNat) (by omega)
      have q5 := tlR_at1 (l := l) (j := (((i : Nat) : Int) - 1).toNat) (by omega)
      have g'4 := (jn h3 (jn h3d (jn @hsfj (jn q4 (jn q5 g'3)))))
      refine runTf g'4 ?_
      refine cd (byrow_c _ _ _ _ _) ?_
      refine rgs g'4 (fun h6 h6d g'5 => ?_) (fun h6 h6d g'22 => ?_)
      · have hpo : okP l i := okP_of (j := (((i : Nat) : Int) - 1).toNat) (by omega) h6d
        refine runTf g'5 ?_
        refine cd (tsize_c _ _ _ (by decide)) ?_
        refine rgs g'5 (fun h7 h7d g'6 => ?_) (fun h7 h7d g'21 => ?_)
        · have hwx := within_iff.1 h7d
          have hwxb := h7d
          refine runTf g'6 ?_
          refine cd (tsize_c _ _ _ (by decide)) ?_
          refine rcs g'6 (fun h8 h8d g'7 => ?_) (fun h8 h8d g'8 => ?_)
          · have hfin : unpR l = ([], 1) := by unfold unpR; rw [unp_1 hun hlt (okT_3 h8d)]; rfl
            refine runTf g'7 ?_
            refine hQ _ _ (end_byG (.inl rfl) hbel (x1 := .tup [.sl none 0 (some 0), iV 1]) (l2 := [.cells false 4 []]) (.tup [.sl (some (H.length, 0)) 0 (some 0), iV 1]) (resT Tryz.results10) [.cells false 4 []] rfl [2] (by decide) ⟨by first | (rw [hfin]; done) | (rw [hfin]; rfl) | (rw [hfin]; simp only [srtE_len]; done) | (rw [hfin]; simp only [srtE_len]; rfl), by first | (rw [hfin]; done) | (rw [hfin]; rfl) | (rw [hfin]; simp only [srtE_len]; done) | (rw [hfin]; simp only [srtE_len]; rfl)⟩ ?_)
            exact absWf @mvs_r4
          have hwy := within_iff.1 h8d
          have hok2 := okT_4 hpo hwxb h8d
          have hU0 := hUI.inn hpo
          refine rcs g'8 (fun h9 h9d _ => ?_) (fun h9 h9d _ => ?_)
          · have h9n := bnT h9
            have hfin : unpR l = ([], 3) := by unfold unpR; rw [unp_3 hun hlt hok2 (List.eq_nil_of_length_eq_zero (by omega))]; rfl
            have g'9 := (jn h9 (jn h9n (jn @int_bne (jn @int_beq g'8))))
            refine runTf g'9 ?_
            refine hQ _ _ (end_byG (.inl rfl) hbel (x1 := .tup [.sl none 0 (some 0), iV 3]) (l2 := [.cells false 4 []]) (.tup [.sl (some (H.length, 0)) 0 (some 0), iV 3]) (resT Tryz.results10) [.cells false 4 []] rfl [2] (by decide) ⟨by first | (rw [hfin]; done) | (rw [hfin]; rfl) | (rw [hfin]; simp only [srtE_len]; done) | (rw [hfin]; simp only [srtE_len]; rfl), by first | (rw [hfin]; done) | (rw [hfin]; rfl) | (rw [hfin]; simp only [srtE_len]; done) | (rw [hfin]; simp only [srtE_len]; rfl)⟩ ?_)
            exact absWf @mvs_r4
          have h9n := bnT h9
          have hdn : (tlG l i).d ≠ [] := fun e => by rw [e] at h9d; exact h9d rfl
          have g'10 := (jn h9 (jn h9n (jn @int_bne (jn @int_beq g'8))))
          refine runTf g'10 ?_
          refine glp (fun k F Hx => ∃ c : Nat, ∃ nx : Nat, ∃ fu : Nat, ∃ q : List Int, ∃ ac : List T4, k = q.length ∧ (c = 0 → q = (tlG l i).d) ∧ tlE adA (tlG l i).x (tlG l i).y (tlG l i).d.length 0 (tlG l i).d acc = tlE adA (tlG l i).x (tlG l i).y fu nx q ac ∧ q.length ≤ fu ∧ UnpI (tlG l i).x (tlG l i).y nx ac ∧ nx ≤ 256 ∧ ac.length ≤ 256 * i + nx ∧ (∀ z ∈ q, 0 ≤ z ∧ z ≤ 255) ∧ q.length ≤ 1000000000 ∧ F = [(0, .sl (some (bs, 0)) l.length cs), (4, .sl (some (H.length + 1, 0)) ac.length (capG ac.length)), (6, .ptr (some (H.length, 0))), (7, iV ((nx : Nat) : Int)), (8, .sl (some (fl c bq (H.length + 2), 0)) q.length none), (11, .sl (some (bs, 0)) l.length cs), (12, iV ((l.length : Nat) : Int)), (13, iV ((i : Nat) : Int))] ∧ Hx = H ++ [.cells true 0 [iV ((tlG l i).x), iV ((tlG l i).y), .sl (some (bq, 0)) ((tlG l i).d.length) cq], .cells (ownG ac.length) 4 (r4 ac), .cells (owg c q.length) 1 (ints .u8 (fqI c q))]) ((tlG l i).d.length) ?_ ?_
          · refine ⟨_, _, _, ⟨0, 0, (tlG l i).d.length, (tlG l i).d, acc, by omega, (fun _ => rfl), rfl, (Nat.le_refl _), hU0, (by omega), (by omega), hdB, hdl, rfl, rfl⟩, Abs.byG hbel [.cells false 1 []] rfl [1, 0, 2] (by decide) ?_⟩
            exact absRf (jn @fl_0 (jn @fqI_0 (jn @owg_0 (jn @r4_append (jn @r4_cons (jn @r4_nil @mvs_r4))))))
          rintro k1 F Hx ⟨c, nx, fu, q, ac, hm1, hq0, htl, hfu, hU, hnx, hal, hBb, hql, rfl, rfl⟩ J1 hJ1
          obtain rfl | ⟨c0, rfl⟩ : c = 0 ∨ ∃ c0, c = c0 + 1 := by cases c; exact .inl rfl; exact .inr ⟨_, rfl⟩
          · obtain rfl : (tlG l i).d = q := (hq0 rfl).symm
            have g'11 := (jn @ints_len (jn @ints_ones (jn @fl_0 (jn @fqI_0 (jn @owg_0 g'10)))))
            refine rcs g'11 (fun h10 h10d g'12 => ?_) (fun h10 h10d g'15 => ?_)
            · refine runTf g'12 ?_
              refine cv (entry_c _ _ _ _ ((tlG l i).d) nx _ ((tlG l i).d) (⟨_, _, _, rfl, by first | exact hb0q _ | exact hbq⟩) (⟨_, _, _, rfl, by first | exact hb0q _ | exact hbq⟩) hBb (by omega) (by omega) (by omega) (by omega)) ?_
              refine rcs g'12 (fun h11 h11d _ => ?_) (fun h11 h11d _ => ?_)
              · have h11n := bnT h11
                have hfin : unpR l = ([], (entR (tlG l i).x (tlG l i).y nx (tlG l i).d).2.2.2) := by unfold unpR; rw [unp_e hun hlt hok2 hdn (htl.trans (tlE_e hfu (by omega) h11d)) h11d]; rfl
                have g'13 := j2 h11 h11n g'12
                refine runTf g'13 ?_
                refine hQ _ _ (end_byG (.inl rfl) hbel (x1 := .tup [.sl none 0 (some 0), iV ((entR ((tlG l i).x) ((tlG l i).y) nx ((tlG l i).d)).2.2.2)]) (l2 := [.cells false 4 []]) (.tup [.sl (some (H.length, 0)) 0 (some 0), iV ((entR ((tlG l i).x) ((tlG l i).y) nx ((tlG l i).d)).2.2.2)]) (resT Tryz.results10) [.cells false 4 []] rfl [5] (by decide) ⟨by first | (rw [hfin]; done) | (rw [hfin]; rfl) | (rw [hfin]; simp only [srtE_len]; done) | (rw [hfin]; simp only [srtE_len]; rfl), by first | (rw [hfin]; done) | (rw [hfin]; rfl) | (rw [hfin]; simp only [srtE_len]; done) | (rw [hfin]; simp only [srtE_len]; rfl)⟩ ?_)
                exact absWf @mvs_r4
              have h11n := bnT h11
              obtain ⟨n, hn1, hn2, hn3, hn4, hn5, hn6, hn7, hn8, -⟩ := entR_ok h11d
              have hts := htl.trans (tlE_s hfu (by omega) h11d)
              have hU2 : UnpI (tlG l i).x (tlG l i).y (n + 1) (ac ++ [(entR (tlG l i).x (tlG l i).y nx (tlG l i).d).1]) := hU.add hn1 hn2 (by rw [hn8]) (by rw [hn8])
              have g'14 := (jn h11 (jn h11n (jn @prs_len (jn @capG_s g'12))))
              refine runTf g'14 ?_
              refine hJ1 _ _ ⟨(entR (tlG l i).x (tlG l i).y nx (tlG l i).d).2.2.1.length, by omega, _, _, _, ⟨0 + 1, (entR (tlG l i).x (tlG l i).y nx (tlG l i).d).2.1, fu - 1, (entR (tlG l i).x (tlG l i).y nx (tlG l i).d).2.2.1, (ac ++ [(entR (tlG l i).x (tlG l i).y nx (tlG l i).d).1]), by omega, (fun h => by omega), hts, (by omega), (by rw [hn3]; exact hU2), (by omega), (by simp only [List.length_append, List.length_cons, List.length_nil]; omega), (suf_B hn4 hBb), (by omega), rfl, rfl⟩, bS hbel [0, 6, 4] (absRf (jn @fl_s (jn @fqI_s (jn @owg_s (jn @fl_1 (jn @r4_append (jn @r4_cons (jn @r4_nil @mvs_r4))))))))⟩
            refine runTf g'15 ?_
            refine hJ0 _ _ ⟨k0 - 1, by omega, _, _, _, ⟨i + 1, ac, by omega, (unp_s hun hlt hok2 hdn (htl.trans (tlE_z (by omega))) rfl), (hU.out hnx), (by omega), rfl, rfl⟩, bS hbel [1] (absRf (jn @r4_append (jn @r4_cons (jn @r4_nil @mvs_r4))))⟩
          have g'16 := (jn @ints_len (jn @ints_ones (jn @fl_s (jn @fqI_s (jn @owg_s g'10)))))
          refine rcs g'16 (fun h12 h12d g'17 => ?_) (fun h12 h12d g'20 => ?_)
          · refine runTf g'17 ?_
            refine cv (entry_c _ _ _ _ ((tlG l i).d) nx _ q (⟨_, _, _, rfl, by first | exact hb0q _ | exact hbq⟩) (slA) hBb (by omega) (by omega) (by omega) (by omega)) ?_
            refine rcs g'17 (fun h13 h13d _ => ?_) (fun h13 h13d _ => ?_)
            · have h13n := bnT h13
              have hfin : unpR l = ([], (entR (tlG l i).x (tlG l i).y nx q).2.2.2) := by unfold unpR; rw [unp_e hun hlt hok2 hdn (htl.trans (tlE_e hfu (by omega) h13d)) h13d]; rfl
              have g'18 := j2 h13 h13n g'17
              refine runTf g'18 ?_
              refine hQ _ _ (end_byG (.inl rfl) hbel (x1 := .tup [.sl none 0 (some 0), iV ((entR ((tlG l i).x) ((tlG l i).y) nx q).2.2.2)]) (l2 := [.cells false 4 []]) (.tup [.sl (some (H.length, 0)) 0 (some 0), iV ((entR ((tlG l i).x) ((tlG l i).y) nx q).2.2.2)]) (resT Tryz.results10) [.cells false 4 []] rfl [5] (by decide) ⟨by first | (rw [hfin]; done) | (rw [hfin]; rfl) | (rw [hfin]; simp only [srtE_len]; done) | (rw [hfin]; simp only [srtE_len]; rfl), by first | (rw [hfin]; done) | (rw [hfin]; rfl) | (rw [hfin]; simp only [srtE_len]; done) | (rw [hfin]; simp only [srtE_len]; rfl)⟩ ?_)
              exact absWf @mvs_r4
            have h13n := bnT h13
            obtain ⟨n, hn1, hn2, hn3, hn4, hn5, hn6, hn7, hn8, -⟩ := entR_ok h13d
            have hts := htl.trans (tlE_s hfu (by omega) h13d)
            have hU2 : UnpI (tlG l i).x (tlG l i).y (n + 1) (ac ++ [(entR (tlG l i).x (tlG l i).y nx q).1]) := hU.add hn1 hn2 (by rw [hn8]) (by rw [hn8])
            have g'19 := (jn h13 (jn h13n (jn @prs_len (jn @capG_s g'17))))
            refine runTf g'19 ?_
            refine hJ1 _ _ ⟨(entR (tlG l i).x (tlG l i).y nx q).2.2.1.length, by omega, _, _, _, ⟨c0 + 1 + 1, (entR (tlG l i).x (tlG l i).y nx q).2.1, fu - 1, (entR (tlG l i).x (tlG l i).y nx q).2.2.1, (ac ++ [(entR (tlG l i).x (tlG l i).y nx q).1]), by omega, (fun h => by omega), hts, (by omega), (by rw [hn3]; exact hU2), (by omega), (by simp only [List.length_append, List.length_cons, List.length_nil]; omega), (suf_B hn4 hBb), (by omega), rfl, rfl⟩, bS hbel [0, 6, 4] (absRf (jn @fl_s (jn @fqI_s (jn @owg_s (jn @fl_1 (jn @r4_append (jn @r4_cons (jn @r4_nil @mvs_r4))))))))⟩
          refine runTf g'20 ?_
          refine hJ0 _ _ ⟨k0 - 1, by omega, _, _, _, ⟨i + 1, ac, by omega, (unp_s hun hlt hok2 hdn (htl.trans (tlE_z (by omega))) rfl), (hU.out hnx), (by omega), rfl, rfl⟩, bS hbel [1] (absRf (jn @r4_append (jn @r4_cons (jn @r4_nil @mvs_r4))))⟩
        have hfin : unpR l = ([], 1) := by unfold unpR; rw [unp_1 hun hlt (okT_2 h7d)]; rfl
        refine runTf g'21 ?_
        refine hQ _ _ (end_byG (.inl rfl) hbel (x1 := .tup [.sl none 0 (some 0), iV 1]) (l2 := [.cells false 4 []]) (.tup [.sl (some (H.length, 0)) 0 (some 0), iV 1]) (resT Tryz.results10) [.cells false 4 []] rfl [2] (by decide) ⟨by first | (rw [hfin]; done) | (rw [hfin]; rfl) | (rw [hfin]; simp only [srtE_len]; done) | (rw [hfin]; simp only [srtE_len]; rfl), by first | (rw [hfin]; done) | (rw [hfin]; rfl) | (rw [hfin]; simp only [srtE_len]; done) | (rw [hfin]; simp only [srtE_len]; rfl)⟩ ?_)
        exact absWf @mvs_r4
      have hfin : unpR l = ([], 1) := by unfold unpR; rw [unp_1 hun hlt (okT_1 (j := (((i : Nat) : Int) - 1).toNat) (by omega) h6d)]; rfl
      refine runTf g'22 ?_
      refine hQ _ _ (end_byG (.inl rfl) hbel (x1 := .tup [.sl none 0 (some 0), iV 1]) (l2 := [.cells false 4 []]) (.tup [.sl (some (H.length, 0)) 0 (some 0), iV 1]) (resT Tryz.results10) [.cells false 4 []] rfl [2] (by decide) ⟨by first | (rw [hfin]; done) | (rw [hfin]; rfl) | (rw [hfin]; simp only [srtE_len]; done) | (rw [hfin]; simp only [srtE_len]; rfl), by first | (rw [hfin]; done) | (rw [hfin]; rfl) | (rw [hfin]; simp only [srtE_len]; done) | (rw [hfin]; simp only [srtE_len]; rfl)⟩ ?_)
      exact absWf @mvs_r4
    have hpo : okP l i := fun j hj => by omega
    refine runTf g'23 ?_
    refine cd (tsize_c _ _ _ (by decide)) ?_
    refine rgs g'23 (fun h14 h14d g'24 => ?_) (fun h14 h14d g'39 => ?_)
    · have hwx := within_iff.1 h14d
      have hwxb := h14d
      refine runTf g'24 ?_
      refine cd (tsize_c _ _ _ (by decide)) ?_
      refine rcs g'24 (fun h15 h15d g'25 => ?_) (fun h15 h15d g'26 => ?_)
      · have hfin : unpR l = ([], 1) := by unfold unpR; rw [unp_1 hun hlt (okT_3 h15d)]; rfl
        refine runTf g'25 ?_
        refine hQ _ _ (end_byG (.inl rfl) hbel (x1 := .tup [.sl none 0 (some 0), iV 1]) (l2 := [.cells false 4 []]) (.tup [.sl (some (H.length, 0)) 0 (some 0), iV 1]) (resT Tryz.results10) [.cells false 4 []] rfl [2] (by decide) ⟨by first | (rw [hfin]; done) | (rw [hfin]; rfl) | (rw [hfin]; simp only [srtE_len]; done) | (rw [hfin]; simp only [srtE_len]; rfl), by first | (rw [hfin]; done) | (rw [hfin]; rfl) | (rw [hfin]; simp only [srtE_len]; done) | (rw [hfin]; simp only [srtE_len]; rfl)⟩ ?_)
        exact absWf @mvs_r4
      have hwy := within_iff.1 h15d
      have hok2 := okT_4 hpo hwxb h15d
      have hU0 := hUI.inn hpo
      refine rcs g'26 (fun h16 h16d _ => ?_) (fun h16 h16d _ => ?_)
      · have h16n := bnT h16
        have hfin : unpR l = ([], 3) := by unfold unpR; rw [unp_3 hun hlt hok2 (List.eq_nil_of_length_eq_zero (by omega))]; rfl
        have g'27 := (jn h16 (jn h16n (jn @int_bne (jn @int_beq g'26))))
        refine runTf g'27 ?_
        refine hQ _ _ (end_byG (.inl rfl) hbel (x1 := .tup [.sl none 0 (some 0), iV 3]) (l2 := [.cells false 4 []]) (.tup [.sl (some (H.length, 0)) 0 (some 0), iV 3]) (resT Tryz.results10) [.cells false 4 []] rfl [2] (by decide) ⟨by first | (rw [hfin]; done) | (rw [hfin]; rfl) | (rw [hfin]; simp only [srtE_len]; done) | (rw [hfin]; simp only [srtE_len]; rfl), by first | (rw [hfin]; done) | (rw [hfin]; rfl) | (rw [hfin]; simp only [srtE_len]; done) | (rw [hfin]; simp only [srtE_len]; rfl)⟩ ?_)
        exact absWf @mvs_r4
      have h16n := bnT h16
      have hdn : (tlG l i).d ≠ [] := fun e => by rw [e] at h16d; exact h16d rfl
      have g'28 := (jn h16 (jn h16n (jn @int_bne (jn @int_beq g'26))))
      refine runTf g'28 ?_
      refine glp (fun k F Hx => ∃ c : Nat, ∃ nx : Nat, ∃ fu : Nat, ∃ q : List Int, ∃ ac : List T4, k = q.length ∧ (c = 0 → q = (tlG l i).d) ∧ tlE adA (tlG l i).x (tlG l i).y (tlG l i).d.length 0 (tlG l i).d acc = tlE adA (tlG l i).x (tlG l i).y fu nx q ac ∧ q.length ≤ fu ∧ UnpI (tlG l i).x (tlG l i).y nx ac ∧ nx ≤ 256 ∧ ac.length ≤ 256 * i + nx ∧ (∀ z ∈ q, 0 ≤ z ∧ z ≤ 255) ∧ q.length ≤ 1000000000 ∧ F = [(0, .sl (some (bs, 0)) l.length cs), (4, .sl (some (H.length + 1, 0)) ac.length (capG ac.length)), (6, .ptr (some (H.length, 0))), (7, iV ((nx : Nat) : Int)), (8, .sl (some (fl c bq (H.length + 2), 0)) q.length none), (11, .sl (some (bs, 0)) l.length cs), (12, iV ((l.length : Nat) : Int)), (13, iV ((i : Nat) : Int))] ∧ Hx = H ++ [.cells true 0 [iV ((tlG l i).x), iV ((tlG l i).y), .sl (some (bq, 0)) ((tlG l i).d.length) cq], .cells (ownG ac.length) 4 (r4 ac), .cells (owg c q.length) 1 (ints .u8 (fqI c q))]) ((tlG l i).d.length) ?_ ?_
      · refine ⟨_, _, _, ⟨0, 0, (tlG l i).d.length, (tlG l i).d, acc, by omega, (fun _ => rfl), rfl, (Nat.le_refl _), hU0, (by omega), (by omega), hdB, hdl, rfl, rfl⟩, Abs.byG hbel [.cells false 1 []] rfl [1, 0, 2] (by decide) ?_⟩
        exact absRf (jn @fl_0 (jn @fqI_0 (jn @owg_0 (jn @r4_append (jn @r4_cons (jn @r4_nil @mvs_r4))))))
      rintro k1 F Hx ⟨c, nx, fu, q, ac, hm1, hq0, htl, hfu, hU, hnx, hal, hBb, hql, rfl, rfl⟩ J1 hJ1
      obtain rfl | ⟨c0, rfl⟩ : c = 0 ∨ ∃ c0, c = c0 + 1 := by cases c; exact .inl rfl; exact .inr ⟨_, rfl⟩
      · obtain rfl : (tlG l i).d = q := (hq0 rfl).symm
        have g'29 := (jn @ints_len (jn @ints_ones (jn @fl_0 (jn @fqI_0 (jn @owg_0 g'28)))))
        refine rcs g'29 (fun h17 h17d g'30 => ?_) (fun h17 h17d g'33 => ?_)
        · refine runTf g'30 ?_
          refine cv (entry_c _ _ _ _ ((tlG l i).d) nx _ ((tlG l i).d) (⟨_, _, _, rfl, by first | exact hb0q _ | exact hbq⟩) (⟨_, _, _, rfl, by first | exact hb0q _ | exact hbq⟩) hBb (by omega) (by omega) (by omega) (by omega)) ?_
          refine rcs g'30 (fun h18 h18d _ => ?_) (fun h18 h18d _ => ?_)
          · have h18n := bnT h18
            have hfin : unpR l = ([], (entR (tlG l i).x (tlG l i).y nx (tlG l i).d).2.2.2) := by unfold unpR; rw [unp_e hun hlt hok2 hdn (htl.trans (tlE_e hfu (by omega) h18d)) h18d]; rfl
            have g'31 := j2 h18 h18n g'30
            refine runTf g'31 ?_
            refine hQ _ _ (end_byG (.inl rfl) hbel (x1 := .tup [.sl none 0 (some 0), iV ((entR ((tlG l i).x) ((tlG l i).y) nx ((tlG l i).d)).2.2.2)]) (l2 := [.cells false 4 []]) (.tup [.sl (some (H.length, 0)) 0 (some 0), iV ((entR ((tlG l i).x) ((tlG l i).y) nx ((tlG l i).d)).2.2.2)]) (resT Tryz.results10) [.cells false 4 []] rfl [5] (by decide) ⟨by first | (rw [hfin]; done) | (rw [hfin]; rfl) | (rw [hfin]; simp only [srtE_len]; done) | (rw [hfin]; simp only [srtE_len]; rfl), by first | (rw [hfin]; done) | (rw [hfin]; rfl) | (rw [hfin]; simp only [srtE_len]; done) | (rw [hfin]; simp only [srtE_len]; rfl)⟩ ?_)
            exact absWf @mvs_r4
          have h18n := bnT h18
          obtain ⟨n, hn1, hn2, hn3, hn4, hn5, hn6, hn7, hn8, -⟩ := entR_ok h18d
          have hts := htl.trans (tlE_s hfu (by omega) h18d)
          have hU2 : UnpI (tlG l i).x (tlG l i).y (n + 1) (ac ++ [(entR (tlG l i).x (tlG l i).y nx (tlG l i).d).1]) := hU.add hn1 hn2 (by rw [hn8]) (by rw [hn8])
          have g'32 := (jn h18 (jn h18n (jn @prs_len (jn @capG_s g'30))))
          refine runTf g'32 ?_
          refine hJ1 _ _ ⟨(entR (tlG l i).x (tlG l i).y nx (tlG l i).d).2.2.1.length, by omega, _, _, _, ⟨0 + 1, (entR (tlG l i).x (tlG l i).y nx (tlG l i).d).2.1, fu - 1, (entR (tlG l i).x (tlG l i).y nx (tlG l i).d).2.2.1, (ac ++ [(entR (tlG l i).x (tlG l i).y nx (tlG l i).d).1]), by omega, (fun h => by omega), hts, (by omega), (by rw [hn3]; exact hU2), (by omega), (by simp only [List.length_append, List.length_cons, List.length_nil]; omega), (suf_B hn4 hBb), (by omega), rfl, rfl⟩, bS hbel [0, 6, 4] (absRf (jn @fl_s (jn @fqI_s (jn @owg_s (jn @fl_1 (jn @r4_append (jn @r4_cons (jn @r4_nil @mvs_r4))))))))⟩
        refine runTf g'33 ?_
        refine hJ0 _ _ ⟨k0 - 1, by omega, _, _, _, ⟨i + 1, ac, by omega, (unp_s hun hlt hok2 hdn (htl.trans (tlE_z (by omega))) rfl), (hU.out hnx), (by omega), rfl, rfl⟩, bS hbel [1] (absRf (jn @r4_append (jn @r4_cons (jn @r4_nil @mvs_r4))))⟩
      have g'34 := (jn @ints_len (jn @ints_ones (jn @fl_s (jn @fqI_s (jn @owg_s g'28)))))
      refine rcs g'34 (fun h19 h19d g'35 => ?_) (fun h19 h19d g'38 => ?_)
      · refine runTf g'35 ?_
        refine cv (entry_c _ _ _ _ ((tlG l i).d) nx _ q (⟨_, _, _, rfl, by first | exact hb0q _ | exact hbq⟩) (slA) hBb (by omega) (by omega) (by omega) (by omega)) ?_
        refine rcs g'35 (fun h20 h20d _ => ?_) (fun h20 h20d _ => ?_)
        · have h20n := bnT h20
          have hfin : unpR l = ([], (entR (tlG l i).x (tlG l i).y nx q).2.2.2) := by unfold unpR; rw [unp_e hun hlt hok2 hdn (htl.trans (tlE_e hfu (by omega) h20d)) h20d]; rfl
          have g'36 := j2 h20 h20n g'35
          refine runTf g'36 ?_
          refine hQ _ _ (end_byG (.inl rfl) hbel (x1 := .tup [.sl none 0 (some 0), iV ((entR ((tlG l i).x) ((tlG l i).y) nx q).2.2.2)]) (l2 := [.cells false 4 []]) (.tup [.sl (some (H.length, 0)) 0 (some 0), iV ((entR ((tlG l i).x) ((tlG l i).y) nx q).2.2.2)]) (resT Tryz.results10) [.cells false 4 []] rfl [5] (by decide) ⟨by first | (rw [hfin]; done) | (rw [hfin]; rfl) | (rw [hfin]; simp only [srtE_len]; done) | (rw [hfin]; simp only [srtE_len]; rfl), by first | (rw [hfin]; done) | (rw [hfin]; rfl) | (rw [hfin]; simp only [srtE_len]; done) | (rw [hfin]; simp only [srtE_len]; rfl)⟩ ?_)
          exact absWf @mvs_r4
        have h20n := bnT h20
        obtain ⟨n, hn1, hn2, hn3, hn4, hn5, hn6, hn7, hn8, -⟩ := entR_ok h20d
        have hts := htl.trans (tlE_s hfu (by omega) h20d)
        have hU2 : UnpI (tlG l i).x (tlG l i).y (n + 1) (ac ++ [(entR (tlG l i).x (tlG l i).y nx q).1]) := hU.add hn1 hn2 (by rw [hn8]) (by rw [hn8])
        have g'37 := (jn h20 (jn h20n (jn @prs_len (jn @capG_s g'35))))
        refine runTf g'37 ?_
        refine hJ1 _ _ ⟨(entR (tlG l i).x (tlG l i).y nx q).2.2.1.length, by omega, _, _, _, ⟨c0 + 1 + 1, (entR (tlG l i).x (tlG l i).y nx q).2.1, fu - 1, (entR (tlG l i).x (tlG l i).y nx q).2.2.1, (ac ++ [(entR (tlG l i).x (tlG l i).y nx q).1]), by omega, (fun h => by omega), hts, (by omega), (by rw [hn3]; exact hU2), (by omega), (by simp only [List.length_append, List.length_cons, List.length_nil]; omega), (suf_B hn4 hBb), (by omega), rfl, rfl⟩, bS hbel [0, 6, 4] (absRf (jn @fl_s (jn @fqI_s (jn @owg_s (jn @fl_1 (jn @r4_append (jn @r4_cons (jn @r4_nil @mvs_r4))))))))⟩
      refine runTf g'38 ?_
      refine hJ0 _ _ ⟨k0 - 1, by omega, _, _, _, ⟨i + 1, ac, by omega, (unp_s hun hlt hok2 hdn (htl.trans (tlE_z (by omega))) rfl), (hU.out hnx), (by omega), rfl, rfl⟩, bS hbel [1] (absRf (jn @r4_append (jn @r4_cons (jn @r4_nil @mvs_r4))))⟩
    have hfin : unpR l = ([], 1) := by unfold unpR; rw [unp_1 hun hlt (okT_2 h14d)]; rfl
    refine runTf g'39 ?_
    refine hQ _ _ (end_byG (.inl rfl) hbel (x1 := .tup [.sl none 0 (some 0), iV 1]) (l2 := [.cells false 4 []]) (.tup [.sl (some (H.length, 0)) 0 (some 0), iV 1]) (resT Tryz.results10) [.cells false 4 []] rfl [2] (by decide) ⟨by first | (rw [hfin]; done) | (rw [hfin]; rfl) | (rw [hfin]; simp only [srtE_len]; done) | (rw [hfin]; simp only [srtE_len]; rfl), by first | (rw [hfin]; done) | (rw [hfin]; rfl) | (rw [hfin]; simp only [srtE_len]; done) | (rw [hfin]; simp only [srtE_len]; rfl)⟩ ?_)
    exact absWf @mvs_r4
  have hdz : l.drop i = [] := List.drop_of_length_le (by omega)
  have hnd := hUI.nd
  have hfin : unpR l = (srtE acc, 0) := by unfold unpR; rw [hun, hdz]; rfl
  refine rcs g'40 (fun h21 h21d _ => ?_) (fun h21 h21d g'41 => ?_)
  · omega
  refine runTf g'41 ?_
  refine cvr g'41 (sortu_k _ _ _ _ acc [] (by rw [List.append_nil]; first | rfl | (simp; done)) (fun h => ownG_p h) hnd (by omega)) ?_
  refine hQ _ _ (end_byG (.inl rfl) hbel (x1 := .tup [.sl (some (H.length, 0)) acc.length (capG acc.length), iV 0]) (l2 := [.cells (ownG acc.length) 4 (r4 (srtE acc))]) (.tup [.sl (some (H.length, 0)) acc.length (capG acc.length), iV 0]) (resT Tryz.results10) [] rfl [0] (by decide) ⟨by first | (rw [hfin]; done) | (rw [hfin]; rfl) | (rw [hfin]; simp only [srtE_len]; done) | (rw [hfin]; simp only [srtE_len]; rfl), by first | (rw [hfin]; done) | (rw [hfin]; rfl) | (rw [hfin]; simp only [srtE_len]; done) | (rw [hfin]; simp only [srtE_len]; rfl)⟩ ?_)
  exact absWf @mvs_r4
theorem rput16_c (H : AHeap) (s : AV) (l : List T4) (x y : Int) (h p : Int) (hs : Sl H 4 s l.length (r4 l)) (hl : l.length ≤ 1000000) : ACalls Tryz.prog 59 [s, .agg [iV x, iV y, iV h, iV p]] H (fun v H' => v = .sl (some (H.length, 0)) ((putB l (x, y, h, p)).length) none ∧ H' = H ++ [.cells (ownG (putB l (x, y, h, p)).length) 4 (r4 (putB l (x, y, h, p)))]) := by
  obtain ⟨bs, os, cs, rfl, hbs⟩ := hs
  have hbls := getElem?_lt hbs
  have hb0s := fun l => get_app (l := l) hbs
  refine AcT false Tryz.func59 ?_; intro hbel Q hQ
  have g'1 := (jn @hbs @hb0s)
  refine runTf g'1 ?_
  refine glp (fun k F Hx => ∃ j : Nat, k = j ∧ bkE (x, y, h, p) l l.length = bkE (x, y, h, p) l j ∧ j ≤ l.length ∧ F = [(0, .sl (some (bs, 0)) l.length cs), (3, .ptr (some (H.length, 0))), (5, iV ((j : Nat) : Int))] ∧ Hx = H ++ [.cells true 0 [iV x, iV y, iV h, iV p]]) (l.length) ?_ ?_
  · refine ⟨_, _, _, ⟨l.length, by omega, rfl, Nat.le_refl _, rfl, rfl⟩, bS hbel [0] absW⟩
  rintro k0 F Hx ⟨j, hm0, hbk, hkl, rfl, rfl⟩ J0 hJ0
  refine rgs g'1 (fun h1 h1d _ => ?_) (fun h1 h1d _ => ?_)
  · have hsfj : ((((j : Nat) : Int) - 1).toNat : Nat) < l.length := by omega
    have hsn : (((((j : Nat) : Int) - 1).toNat : Nat) : Int) = ((j : Nat) : Int) - 1 := by omega
    have q2 := r4_p0 (l := l) (j := (((j : Nat) : Int) - 1).toNat) (by omega)
    have g'2 := (jn h1 (jn h1d (jn @hsfj (jn @r4_len (jn q2 g'1)))))
    refine runTf g'2 ?_
    refine cd (bbef_c _ x y _ _) ?_
    refine rcs g'2 (fun h3 h3d g'3 => ?_) (fun h3 h3d _ => ?_)
    · have hbs := bkE_t (x := (x, y, h, p)) (j := (((j : Nat) : Int) - 1).toNat) (k := j) (by omega) h3
      refine runTf g'3 ?_
      refine hJ0 _ _ ⟨(((j : Nat) : Int) - 1).toNat, by omega, _, _, _, ⟨(((j : Nat) : Int) - 1).toNat, by omega, (hbk.trans hbs), (by omega), rfl, rfl⟩, bS hbel [0] (absWf @hsn)⟩
    have hbj := hbk.trans (bkE_f (x := (x, y, h, p)) (j := (((j : Nat) : Int) - 1).toNat) (k := j) (by omega) h3)
    have hsfa := r4_take2 hkl
    have hsfb := r4_one2 hkl
    have hfin : putB l (x, y, h, p) = l.take j ++ [(x, y, h, p)] ++ l.drop j := by unfold putB; rw [hbj]
    have h4 : 0 < j := (by omega)
    have h4e : (j == 0) = false := beq_eq_false_iff_ne.2 (by omega)
    have h4l : decide (0 < j) = true := decide_eq_true h4
    have q5 := @r4_take l j
    have q6 := r4_dropv (l := l) (k := j) (by omega)
    have q7 : (j + 1 + (l.length - j) == 0) = false := beq_eq_false_iff_ne.2 (by omega)
    have g'4 := (jn h3 (jn h3d (jn @hsfa (jn @hsfb (jn h4e (jn h4l (jn q5 (jn @r4_one (jn @List.length_take.{0} (jn @List.length_drop.{0} (jn @Nat.sub_zero (jn @prs_len (jn @capG_s (jn q6 (jn q7 g'2)))))))))))))))
    refine runTf g'4 ?_
    refine hQ _ _ (end_byG (.inl rfl) hbel (x1 := .sl (some (H.length + 5, 0)) (j + 1 + (l.length - j)) none) (l2 := [.cells true 4 (r4 (((List.take j l) ++ [(x, y, h, p)]) ++ (List.drop j l)))]) (.sl (some (H.length, 0)) (j + 1 + (l.length - j)) none) (resT Tryz.results59) [] rfl [5] (by decide) ⟨by rw [hfin]; congr 1 <;> (simp only [List.length_append, List.length_cons, List.length_nil, List.length_take, List.length_drop] <;> omega), by rw [hfin, ownG_p (by simp only [List.length_append, List.length_cons, List.length_nil]; omega)]⟩ ?_)
    exact absWf (jn @mvs_r4 (jn @r4_append (jn @r4_cons (jn @r4_nil (jn @List.append_assoc.{0} (jn @List.cons_append.{0} @List.nil_append.{0}))))))
  have hbj : bkE (x, y, h, p) l l.length = j := by rw [hbk, show j = 0 by omega]; rfl
  have hfin : putB l (x, y, h, p) = [(x, y, h, p)] ++ l.drop j := by unfold putB; rw [hbj, show l.take j = [] by rw [show j = 0 by omega]; rfl]; rfl
  have h8z : j = 0 := by omega
  have h8e : (j == 0) = true := by rw [h8z]; rfl
  have q9 := @r4_take l j
  have q10 := r4_dropv (l := l) (k := j) (by omega)
  have q11 : (1 + (l.length - j) == 0) = false := beq_eq_false_iff_ne.2 (by omega)
  have g'5 := (jn h1 (jn h1d (jn h8e (jn q9 (jn @r4_len (jn @r4_one (jn @List.length_take.{0} (jn @List.length_drop.{0} (jn @Nat.sub_zero (jn q10 (jn q11 g'1)))))))))))
  refine runTf g'5 ?_
  refine hQ _ _ (end_byG (.inl rfl) hbel (x1 := .sl (some (H.length + 4, 0)) (1 + (l.length - j)) none) (l2 := [.cells true 4 (r4 ([(x, y, h, p)] ++ (List.drop j l)))]) (.sl (some (H.length, 0)) (1 + (l.length - j)) none) (resT Tryz.results59) [] rfl [4] (by decide) ⟨by rw [hfin]; congr 1 <;> (simp only [List.length_append, List.length_cons, List.length_nil, List.length_take, List.length_drop] <;> omega), by rw [hfin, ownG_p (by simp only [List.length_append, List.length_cons, List.length_nil]; omega)]⟩ ?_)
  exact absWf (jn @mvs_r4 (jn @r4_append (jn @r4_cons (jn @r4_nil (jn @List.append_assoc.{0} (jn @List.cons_append.{0} @List.nil_append.{0}))))))
theorem tlE_x {ad : List T4 → T4 → List T4} {tx ty : Int} {fu nx : Nat} {q : List Int} {ac : List T4} {e : Int} (hf : q.length ≤ fu) (h0 : 0 < q.length) (h : entR tx ty nx q = ((0, 0, 0, 0), 0, [], e)) (he : e ≠ 0) : tlE ad tx ty fu nx q ac = ([], e) := by
  rw [tlE_e hf h0 (by rw [h]; exact he), h]
def fqE (i : Nat) (Q : List T4) : List T4 := match i with
  | 0 => []
  | _ + 1 => Q
theorem fqE_0 {Q : List T4} : fqE 0 Q = [] := rfl
theorem fqE_s {i : Nat} {Q : List T4} : fqE (i + 1) Q = Q := rfl
theorem rentries_c (H : AHeap) (s : AV) (l0 : List T4) (tx ty : Int) (q : AV) (d : List Int) (hs : Sl H 4 s l0.length (r4 l0)) (hq : Sl H 1 q d.length (ints .u8 d)) (hl : l0.length ≤ 900000) (hB : ∀ z ∈ d, 0 ≤ z ∧ z ≤ 255) (hdl : d.length ≤ 1000000000) (hd0 : 0 < d.length) (htx : -1024 ≤ tx ∧ tx ≤ 1024) (hty : -1024 ≤ ty ∧ ty ≤ 1024) : ACalls Tryz.prog 36 [s, .agg [iV tx, iV ty, q]] H (fun v H' => v = .tup [.sl (some (H.length, 0)) (((tlE putB tx ty d.length 0 d l0).1).length) none, iV ((tlE putB tx ty d.length 0 d l0).2)] ∧ H' = H ++ [.cells (ownG ((tlE putB tx ty d.length 0 d l0).1).length) 4 (r4 ((tlE putB tx ty d.length 0 d l0).1))]) := by
  obtain ⟨bs, os, cs, rfl, hbs⟩ := hs
  have hbls := getElem?_lt hbs
  have hb0s := fun l => get_app (l := l) hbs
  obtain ⟨bq, oq, cq, rfl, hbq⟩ := hq
  have hblq := getElem?_lt hbq
  have hb0q := fun l => get_app (l := l) hbq
  refine AcT false Tryz.func36 ?_; intro hbel Q hQ
  have g'1 := (jn @hbs (jn @hb0s (jn @hbq (jn @hb0q (jn @rem_16 @quo_16)))))
  refine runTf g'1 ?_
  refine glp (fun k F Hx => ∃ c : Nat, ∃ nx : Nat, ∃ fu : Nat, ∃ q : List Int, ∃ ac : List T4, k = q.length ∧ (c = 0 → q = d) ∧ (c = 0 → ac = l0) ∧ tlE putB tx ty d.length 0 d l0 = tlE putB tx ty fu nx q ac ∧ q.length ≤ fu ∧ nx ≤ 256 ∧ ac.length ≤ l0.length + nx ∧ (∀ z ∈ q, 0 ≤ z ∧ z ≤ 255) ∧ q.length ≤ 1000000000 ∧ F = [(0, .sl (some (fl c bs (H.length + 2), 0)) ac.length none), (3, .ptr (some (H.length, 0))), (6, .sl (some (fl c bq (H.length + 1), 0)) q.length none), (7, iV ((nx : Nat) : Int))] ∧ Hx = H ++ [.cells true 0 [iV tx, iV ty, .sl (some (bq, 0)) d.length cq], .cells (owg c q.length) 1 (ints .u8 (fqI c q)), .cells (owg c ac.length) 4 (r4 (fqE c ac))]) (d.length) ?_ ?_
  · refine ⟨_, _, _, ⟨0, 0, d.length, d, l0, by omega, (fun _ => rfl), (fun _ => rfl), rfl, (Nat.le_refl _), (by omega), (by omega), hB, hdl, rfl, rfl⟩, Abs.byG hbel [.cells false 1 [], .cells false 4 []] rfl [0, 1, 2] (by decide) ?_⟩
    exact absRf (jn @fl_0 (jn @fqI_0 (jn @owg_0 (jn @fqE_0 (jn @r4_append (jn @r4_cons (jn @r4_nil @mvs_r4)))))))
  rintro k0 F Hx ⟨c, nx, fu, q, ac, hm0, hq0, ha0, htl, hfu, hnx, hal, hBb, hql, rfl, rfl⟩ J0 hJ0
  obtain rfl | ⟨c0, rfl⟩ : c = 0 ∨ ∃ c0, c = c0 + 1 := by cases c; exact .inl rfl; exact .inr ⟨_, rfl⟩
  · obtain rfl : d = q := (hq0 rfl).symm
    obtain rfl : l0 = ac := (ha0 rfl).symm
    have g'2 := (jn @ints_len (jn @ints_ones (jn @r4_len (jn @r4_one (jn @fl_0 (jn @fqI_0 (jn @owg_0 (jn @fqE_0 g'1))))))))
    refine rcs g'2 (fun h1 h1d g'3 => ?_) (fun h1 h1d _ => ?_)
    · have hf1 := rdU_suf d 0 0
      have hB1 := suf_B hf1 hBb
      have hf2 := rdI_suf (rdU 0 0 d).2.1
      have hB2 := suf_B hf2 hB1
      have hf3 := rdI_suf (rdI (rdU 0 0 d).2.1).2.1
      have hB3 := suf_B hf3 hB2
      have hl1 := hf1.length_le
      have hl2 := hf2.length_le
      have hl3 := hf3.length_le
      refine runTf g'3 ?_
      refine cv (rrduint_c _ _ d (⟨_, _, _, rfl, by first | exact hb0q _ | exact hbq⟩) (by first | assumption | exact hB) (by omega)) ?_
      refine rcs g'3 (fun h2 h2d _ => ?_) (fun h2 h2d _ => ?_)
      · have h2n := bnT h2
        have g'4 := (jn h2 (jn h2n (jn @int_bne (jn @int_beq g'3))))
        refine runTf g'4 ?_
        refine hQ _ _ (end_byG (.inl rfl) hbel (x1 := .tup [.sl none 0 (some 0), iV ((rdU 0 0 d).2.2)]) (l2 := [.cells false 4 []]) (.tup [.sl (some (H.length, 0)) 0 none, iV ((rdU 0 0 d).2.2)]) (resTf @add_nat1 Tryz.results36) [.cells false 4 []] rfl [4] (by decide) ⟨by first | (rw [htl, tlE_z (by omega)]; done) | (rw [htl, tlE_z (by omega)]; rfl) | (rw [htl, tlE_x hfu (by omega) (entR_1 (by omega)) (by omega)]; rfl) | (rw [htl, tlE_x hfu (by omega) (entR_2 (by omega) (by omega)) (by omega)]; rfl) | (rw [htl, tlE_x hfu (by omega) (entR_3 (by omega) (by omega) (by omega)) (by omega)]; rfl) | (rw [htl, tlE_x hfu (by omega) (entR_4 (by omega) (by omega) (by omega) (by omega)) (by omega)]; rfl) | (rw [htl, tlE_x hfu (by omega) (entR_5 (by omega) (by omega) (by omega) (by omega) (by rw [Bool.and_eq_false_iff]; first | exact .inl (by assumption) | exact .inr (by assumption))) (by omega)]; rfl) | (rw [htl, tlE_x hfu (by omega) (entR_6 (by omega) (by omega) (by omega) (by omega) (by rw [Bool.and_eq_true]; exact ⟨by assumption, by assumption⟩) (by rw [Bool.and_eq_false_iff]; first | exact .inl (by assumption) | exact .inr (by assumption))) (by omega)]; rfl), by first | (rw [htl, tlE_z (by omega)]; done) | (rw [htl, tlE_z (by omega)]; rfl) | (rw [htl, tlE_x hfu (by omega) (entR_1 (by omega)) (by omega)]; rfl) | (rw [htl, tlE_x hfu (by omega) (entR_2 (by omega) (by omega)) (by omega)]; rfl) | (rw [htl, tlE_x hfu (by omega) (entR_3 (by omega) (by omega) (by omega)) (by omega)]; rfl) | (rw [htl, tlE_x hfu (by omega) (entR_4 (by omega) (by omega) (by omega) (by omega)) (by omega)]; rfl) | (rw [htl, tlE_x hfu (by omega) (entR_5 (by omega) (by omega) (by omega) (by omega) (by rw [Bool.and_eq_false_iff]; first | exact .inl (by assumption) | exact .inr (by assumption))) (by omega)]; rfl) | (rw [htl, tlE_x hfu (by omega) (entR_6 (by omega) (by omega) (by omega) (by omega) (by rw [Bool.and_eq_true]; exact ⟨by assumption, by assumption⟩) (by rw [Bool.and_eq_false_iff]; first | exact .inl (by assumption) | exact .inr (by assumption))) (by omega)]; rfl)⟩ ?_)
        exact absWf @mvs_r4
      have h2n := bnT h2
      have g'5 := (jn h2 (jn h2n (jn @int_bne (jn @int_beq g'3))))
      refine runTf g'5 ?_
      refine cv (rrdint_c _ _ ((rdU 0 0 d).2.1) (slA) (by first | assumption | exact hB) (by omega)) ?_
      refine rcs g'5 (fun h3 h3d _ => ?_) (fun h3 h3d _ => ?_)
      · have h3n := bnT h3
        have g'6 := j2 h3 h3n g'5
        refine runTf g'6 ?_
        refine hQ _ _ (end_byG (.inl rfl) hbel (x1 := .tup [.sl none 0 (some 0), iV ((rdI ((rdU 0 0 d).2.1)).2.2)]) (l2 := [.cells false 4 []]) (.tup [.sl (some (H.length, 0)) 0 none, iV ((rdI ((rdU 0 0 d).2.1)).2.2)]) (resTf @add_nat1 Tryz.results36) [.cells false 4 []] rfl [5] (by decide) ⟨by first | (rw [htl, tlE_z (by omega)]; done) | (rw [htl, tlE_z (by omega)]; rfl) | (rw [htl, tlE_x hfu (by omega) (entR_1 (by omega)) (by omega)]; rfl) | (rw [htl, tlE_x hfu (by omega) (entR_2 (by omega) (by omega)) (by omega)]; rfl) | (rw [htl, tlE_x hfu (by omega) (entR_3 (by omega) (by omega) (by omega)) (by omega)]; rfl) | (rw [htl, tlE_x hfu (by omega) (entR_4 (by omega) (by omega) (by omega) (by omega)) (by omega)]; rfl) | (rw [htl, tlE_x hfu (by omega) (entR_5 (by omega) (by omega) (by omega) (by omega) (by rw [Bool.and_eq_false_iff]; first | exact .inl (by assumption) | exact .inr (by assumption))) (by omega)]; rfl) | (rw [htl, tlE_x hfu (by omega) (entR_6 (by omega) (by omega) (by omega) (by omega) (by rw [Bool.and_eq_true]; exact ⟨by assumption, by assumption⟩) (by rw [Bool.and_eq_false_iff]; first | exact .inl (by assumption) | exact .inr (by assumption))) (by omega)]; rfl), by first | (rw [htl, tlE_z (by omega)]; done) | (rw [htl, tlE_z (by omega)]; rfl) | (rw [htl, tlE_x hfu (by omega) (entR_1 (by omega)) (by omega)]; rfl) | (rw [htl, tlE_x hfu (by omega) (entR_2 (by omega) (by omega)) (by omega)]; rfl) | (rw [htl, tlE_x hfu (by omega) (entR_3 (by omega) (by omega) (by omega)) (by omega)]; rfl) | (rw [htl, tlE_x hfu (by omega) (entR_4 (by omega) (by omega) (by omega) (by omega)) (by omega)]; rfl) | (rw [htl, tlE_x hfu (by omega) (entR_5 (by omega) (by omega) (by omega) (by omega) (by rw [Bool.and_eq_false_iff]; first | exact .inl (by assumption) | exact .inr (by assumption))) (by omega)]; rfl) | (rw [htl, tlE_x hfu (by omega) (entR_6 (by omega) (by omega) (by omega) (by omega) (by rw [Bool.and_eq_true]; exact ⟨by assumption, by assumption⟩) (by rw [Bool.and_eq_false_iff]; first | exact .inl (by assumption) | exact .inr (by assumption))) (by omega)]; rfl)⟩ ?_)
        exact absWf @mvs_r4
      have h3n := bnT h3
      have g'7 := j2 h3 h3n g'5
      refine runTf g'7 ?_
      refine cv (rrdint_c _ _ ((rdI ((rdU 0 0 d).2.1)).2.1) (slA) (by first | assumption | exact hB) (by omega)) ?_
      refine rcs g'7 (fun h4 h4d _ => ?_) (fun h4 h4d _ => ?_)
      · have h4n := bnT h4
        have g'8 := j2 h4 h4n g'7
        refine runTf g'8 ?_
        refine hQ _ _ (end_byG (.inl rfl) hbel (x1 := .tup [.sl none 0 (some 0), iV ((rdI ((rdI ((rdU 0 0 d).2.1)).2.1)).2.2)]) (l2 := [.cells false 4 []]) (.tup [.sl (some (H.length, 0)) 0 none, iV ((rdI ((rdI ((rdU 0 0 d).2.1)).2.1)).2.2)]) (resTf @add_nat1 Tryz.results36) [.cells false 4 []] rfl [6] (by decide) ⟨by first | (rw [htl, tlE_z (by omega)]; done) | (rw [htl, tlE_z (by omega)]; rfl) | (rw [htl, tlE_x hfu (by omega) (entR_1 (by omega)) (by omega)]; rfl) | (rw [htl, tlE_x hfu (by omega) (entR_2 (by omega) (by omega)) (by omega)]; rfl) | (rw [htl, tlE_x hfu (by omega) (entR_3 (by omega) (by omega) (by omega)) (by omega)]; rfl) | (rw [htl, tlE_x hfu (by omega) (entR_4 (by omega) (by omega) (by omega) (by omega)) (by omega)]; rfl) | (rw [htl, tlE_x hfu (by omega) (entR_5 (by omega) (by omega) (by omega) (by omega) (by rw [Bool.and_eq_false_iff]; first | exact .inl (by assumption) | exact .inr (by assumption))) (by omega)]; rfl) | (rw [htl, tlE_x hfu (by omega) (entR_6 (by omega) (by omega) (by omega) (by omega) (by rw [Bool.and_eq_true]; exact ⟨by assumption, by assumption⟩) (by rw [Bool.and_eq_false_iff]; first | exact .inl (by assumption) | exact .inr (by assumption))) (by omega)]; rfl), by first | (rw [htl, tlE_z (by omega)]; done) | (rw [htl, tlE_z (by omega)]; rfl) | (rw [htl, tlE_x hfu (by omega) (entR_1 (by omega)) (by omega)]; rfl) | (rw [htl, tlE_x hfu (by omega) (entR_2 (by omega) (by omega)) (by omega)]; rfl) | (rw [htl, tlE_x hfu (by omega) (entR_3 (by omega) (by omega) (by omega)) (by omega)]; rfl) | (rw [htl, tlE_x hfu (by omega) (entR_4 (by omega) (by omega) (by omega) (by omega)) (by omega)]; rfl) | (rw [htl, tlE_x hfu (by omega) (entR_5 (by omega) (by omega) (by omega) (by omega) (by rw [Bool.and_eq_false_iff]; first | exact .inl (by assumption) | exact .inr (by assumption))) (by omega)]; rfl) | (rw [htl, tlE_x hfu (by omega) (entR_6 (by omega) (by omega) (by omega) (by omega) (by rw [Bool.and_eq_true]; exact ⟨by assumption, by assumption⟩) (by rw [Bool.and_eq_false_iff]; first | exact .inl (by assumption) | exact .inr (by assumption))) (by omega)]; rfl)⟩ ?_)
        exact absWf @mvs_r4
      have h4n := bnT h4
      have g'9 := j2 h4 h4n g'7
      refine rgs g'9 (fun h5 h5d g'10 => ?_) (fun h5 h5d g'33 => ?_)
      · refine rcs g'10 (fun h6 h6d g'11 => ?_) (fun h6 h6d g'12 => ?_)
        · refine runTf g'11 ?_
          refine hQ _ _ (end_byG (.inl rfl) hbel (x1 := .tup [.sl none 0 (some 0), iV 3]) (l2 := [.cells false 4 []]) (.tup [.sl (some (H.length, 0)) 0 none, iV 3]) (resTf @add_nat1 Tryz.results36) [.cells false 4 []] rfl [6] (by decide) ⟨by first | (rw [htl, tlE_z (by omega)]; done) | (rw [htl, tlE_z (by omega)]; rfl) | (rw [htl, tlE_x hfu (by omega) (entR_1 (by omega)) (by omega)]; rfl) | (rw [htl, tlE_x hfu (by omega) (entR_2 (by omega) (by omega)) (by omega)]; rfl) | (rw [htl, tlE_x hfu (by omega) (entR_3 (by omega) (by omega) (by omega)) (by omega)]; rfl) | (rw [htl, tlE_x hfu (by omega) (entR_4 (by omega) (by omega) (by omega) (by omega)) (by omega)]; rfl) | (rw [htl, tlE_x hfu (by omega) (entR_5 (by omega) (by omega) (by omega) (by omega) (by rw [Bool.and_eq_false_iff]; first | exact .inl (by assumption) | exact .inr (by assumption))) (by omega)]; rfl) | (rw [htl, tlE_x hfu (by omega) (entR_6 (by omega) (by omega) (by omega) (by omega) (by rw [Bool.and_eq_true]; exact ⟨by assumption, by assumption⟩) (by rw [Bool.and_eq_false_iff]; first | exact .inl (by assumption) | exact .inr (by assumption))) (by omega)]; rfl), by first | (rw [htl, tlE_z (by omega)]; done) | (rw [htl, tlE_z (by omega)]; rfl) | (rw [htl, tlE_x hfu (by omega) (entR_1 (by omega)) (by omega)]; rfl) | (rw [htl, tlE_x hfu (by omega) (entR_2 (by omega) (by omega)) (by omega)]; rfl) | (rw [htl, tlE_x hfu (by omega) (entR_3 (by omega) (by omega) (by omega)) (by omega)]; rfl) | (rw [htl, tlE_x hfu (by omega) (entR_4 (by omega) (by omega) (by omega) (by omega)) (by omega)]; rfl) | (rw [htl, tlE_x hfu (by omega) (entR_5 (by omega) (by omega) (by omega) (by omega) (by rw [Bool.and_eq_false_iff]; first | exact .inl (by assumption) | exact .inr (by assumption))) (by omega)]; rfl) | (rw [htl, tlE_x hfu (by omega) (entR_6 (by omega) (by omega) (by omega) (by omega) (by rw [Bool.and_eq_true]; exact ⟨by assumption, by assumption⟩) (by rw [Bool.and_eq_false_iff]; first | exact .inl (by assumption) | exact .inr (by assumption))) (by omega)]; rfl)⟩ ?_)
          exact absWf @mvs_r4
        refine rgs g'12 (fun h7 h7d _ => ?_) (fun h7 h7d _ => ?_)
        · have h7n := bnT h7
          have g'13 := j2 h7 h7n g'12
          refine rcs g'13 (fun h8 h8d _ => ?_) (fun h8 h8d _ => ?_)
          · have h8n := bnT h8
            have g'14 := j2 h8 h8n g'13
            refine runTf g'14 ?_
            refine hQ _ _ (end_byG (.inl rfl) hbel (x1 := .tup [.sl none 0 (some 0), iV 3]) (l2 := [.cells false 4 []]) (.tup [.sl (some (H.length, 0)) 0 none, iV 3]) (resTf @add_nat1 Tryz.results36) [.cells false 4 []] rfl [7] (by decide) ⟨by first | (rw [htl, tlE_z (by omega)]; done) | (rw [htl, tlE_z (by omega)]; rfl) | (rw [htl, tlE_x hfu (by omega) (entR_1 (by omega)) (by omega)]; rfl) | (rw [htl, tlE_x hfu (by omega) (entR_2 (by omega) (by omega)) (by omega)]; rfl) | (rw [htl, tlE_x hfu (by omega) (entR_3 (by omega) (by omega) (by omega)) (by omega)]; rfl) | (rw [htl, tlE_x hfu (by omega) (entR_4 (by omega) (by omega) (by omega) (by omega)) (by omega)]; rfl) | (rw [htl, tlE_x hfu (by omega) (entR_5 (by omega) (by omega) (by omega) (by omega) (by rw [Bool.and_eq_false_iff]; first | exact .inl (by assumption) | exact .inr (by assumption))) (by omega)]; rfl) | (rw [htl, tlE_x hfu (by omega) (entR_6 (by omega) (by omega) (by omega) (by omega) (by rw [Bool.and_eq_true]; exact ⟨by assumption, by assumption⟩) (by rw [Bool.and_eq_false_iff]; first | exact .inl (by assumption) | exact .inr (by assumption))) (by omega)]; rfl), by first | (rw [htl, tlE_z (by omega)]; done) | (rw [htl, tlE_z (by omega)]; rfl) | (rw [htl, tlE_x hfu (by omega) (entR_1 (by omega)) (by omega)]; rfl) | (rw [htl, tlE_x hfu (by omega) (entR_2 (by omega) (by omega)) (by omega)]; rfl) | (rw [htl, tlE_x hfu (by omega) (entR_3 (by omega) (by omega) (by omega)) (by omega)]; rfl) | (rw [htl, tlE_x hfu (by omega) (entR_4 (by omega) (by omega) (by omega) (by omega)) (by omega)]; rfl) | (rw [htl, tlE_x hfu (by omega) (entR_5 (by omega) (by omega) (by omega) (by omega) (by rw [Bool.and_eq_false_iff]; first | exact .inl (by assumption) | exact .inr (by assumption))) (by omega)]; rfl) | (rw [htl, tlE_x hfu (by omega) (entR_6 (by omega) (by omega) (by omega) (by omega) (by rw [Bool.and_eq_true]; exact ⟨by assumption, by assumption⟩) (by rw [Bool.and_eq_false_iff]; first | exact .inl (by assumption) | exact .inr (by assumption))) (by omega)]; rfl)⟩ ?_)
            exact absWf @mvs_r4
          have h8n := bnT h8
          have g'15 := j2 h8 h8n g'13
          refine runTf g'15 ?_
          refine cv (bsize_c _ _ _ (by decide)) ?_
          refine rgs g'15 (fun h9 h9d g'16 => ?_) (fun h9 h9d g'23 => ?_)
          · refine runTf g'16 ?_
            refine cv (bsize_c _ _ _ (by decide)) ?_
            refine rcs g'16 (fun h10 h10d g'17 => ?_) (fun h10 h10d g'18 => ?_)
            · refine runTf g'17 ?_
              refine hQ _ _ (end_byG (.inl rfl) hbel (x1 := .tup [.sl none 0 (some 0), iV 2]) (l2 := [.cells false 4 []]) (.tup [.sl (some (H.length, 0)) 0 none, iV 2]) (resTf @add_nat1 Tryz.results36) [.cells false 4 []] rfl [7] (by decide) ⟨by first | (rw [htl, tlE_z (by omega)]; done) | (rw [htl, tlE_z (by omega)]; rfl) | (rw [htl, tlE_x hfu (by omega) (entR_1 (by omega)) (by omega)]; rfl) | (rw [htl, tlE_x hfu (by omega) (entR_2 (by omega) (by omega)) (by omega)]; rfl) | (rw [htl, tlE_x hfu (by omega) (entR_3 (by omega) (by omega) (by omega)) (by omega)]; rfl) | (rw [htl, tlE_x hfu (by omega) (entR_4 (by omega) (by omega) (by omega) (by omega)) (by omega)]; rfl) | (rw [htl, tlE_x hfu (by omega) (entR_5 (by omega) (by omega) (by omega) (by omega) (by rw [Bool.and_eq_false_iff]; first | exact .inl (by assumption) | exact .inr (by assumption))) (by omega)]; rfl) | (rw [htl, tlE_x hfu (by omega) (entR_6 (by omega) (by omega) (by omega) (by omega) (by rw [Bool.and_eq_true]; exact ⟨by assumption, by assumption⟩) (by rw [Bool.and_eq_false_iff]; first | exact .inl (by assumption) | exact .inr (by assumption))) (by omega)]; rfl), by first | (rw [htl, tlE_z (by omega)]; done) | (rw [htl, tlE_z (by omega)]; rfl) | (rw [htl, tlE_x hfu (by omega) (entR_1 (by omega)) (by omega)]; rfl) | (rw [htl, tlE_x hfu (by omega) (entR_2 (by omega) (by omega)) (by omega)]; rfl) | (rw [htl, tlE_x hfu (by omega) (entR_3 (by omega) (by omega) (by omega)) (by omega)]; rfl) | (rw [htl, tlE_x hfu (by omega) (entR_4 (by omega) (by omega) (by omega) (by omega)) (by omega)]; rfl) | (rw [htl, tlE_x hfu (by omega) (entR_5 (by omega) (by omega) (by omega) (by omega) (by rw [Bool.and_eq_false_iff]; first | exact .inl (by assumption) | exact .inr (by assumption))) (by omega)]; rfl) | (rw [htl, tlE_x hfu (by omega) (entR_6 (by omega) (by omega) (by omega) (by omega) (by rw [Bool.and_eq_true]; exact ⟨by assumption, by assumption⟩) (by rw [Bool.and_eq_false_iff]; first | exact .inl (by assumption) | exact .inr (by assumption))) (by omega)]; rfl)⟩ ?_)
              exact absWf @mvs_r4
            refine runTf g'18 ?_
            refine cv (bsize_c _ _ _ (by decide)) ?_
            refine rgs g'18 (fun h11 h11d g'19 => ?_) (fun h11 h11d g'22 => ?_)
            · refine runTf g'19 ?_
              refine cv (bsize_c _ _ _ (by decide)) ?_
              refine rcs g'19 (fun h12 h12d g'20 => ?_) (fun h12 h12d g'21 => ?_)
              · refine runTf g'20 ?_
                refine hQ _ _ (end_byG (.inl rfl) hbel (x1 := .tup [.sl none 0 (some 0), iV 1]) (l2 := [.cells false 4 []]) (.tup [.sl (some (H.length, 0)) 0 none, iV 1]) (resTf @add_nat1 Tryz.results36) [.cells false 4 []] rfl [7] (by decide) ⟨by first | (rw [htl, tlE_z (by omega)]; done) | (rw [htl, tlE_z (by omega)]; rfl) | (rw [htl, tlE_x hfu (by omega) (entR_1 (by omega)) (by omega)]; rfl) | (rw [htl, tlE_x hfu (by omega) (entR_2 (by omega) (by omega)) (by omega)]; rfl) | (rw [htl, tlE_x hfu (by omega) (entR_3 (by omega) (by omega) (by omega)) (by omega)]; rfl) | (rw [htl, tlE_x hfu (by omega) (entR_4 (by omega) (by omega) (by omega) (by omega)) (by omega)]; rfl) | (rw [htl, tlE_x hfu (by omega) (entR_5 (by omega) (by omega) (by omega) (by omega) (by rw [Bool.and_eq_false_iff]; first | exact .inl (by assumption) | exact .inr (by assumption))) (by omega)]; rfl) | (rw [htl, tlE_x hfu (by omega) (entR_6 (by omega) (by omega) (by omega) (by omega) (by rw [Bool.and_eq_true]; exact ⟨by assumption, by assumption⟩) (by rw [Bool.and_eq_false_iff]; first | exact .inl (by assumption) | exact .inr (by assumption))) (by omega)]; rfl), by first | (rw [htl, tlE_z (by omega)]; done) | (rw [htl, tlE_z (by omega)]; rfl) | (rw [htl, tlE_x hfu (by omega) (entR_1 (by omega)) (by omega)]; rfl) | (rw [htl, tlE_x hfu (by omega) (entR_2 (by omega) (by omega)) (by omega)]; rfl) | (rw [htl, tlE_x hfu (by omega) (entR_3 (by omega) (by omega) (by omega)) (by omega)]; rfl) | (rw [htl, tlE_x hfu (by omega) (entR_4 (by omega) (by omega) (by omega) (by omega)) (by omega)]; rfl) | (rw [htl, tlE_x hfu (by omega) (entR_5 (by omega) (by omega) (by omega) (by omega) (by rw [Bool.and_eq_false_iff]; first | exact .inl (by assumption) | exact .inr (by assumption))) (by omega)]; rfl) | (rw [htl, tlE_x hfu (by omega) (entR_6 (by omega) (by omega) (by omega) (by omega) (by rw [Bool.and_eq_true]; exact ⟨by assumption, by assumption⟩) (by rw [Bool.and_eq_false_iff]; first | exact .inl (by assumption) | exact .inr (by assumption))) (by omega)]; rfl)⟩ ?_)
                exact absWf @mvs_r4
              have hE := entR_7 (tx := tx) (ty := ty) (nx := nx) (b := d) (by omega) (by omega) (by omega) (by omega) (by rw [Bool.and_eq_true]; exact ⟨by assumption, by assumption⟩) (by rw [Bool.and_eq_true]; exact ⟨by assumption, by assumption⟩)
              have hlr : (rdU 0 0 d).2.1.length < d.length := rdU_len d 0 0 (rdU 0 0 d).1 (rdU 0 0 d).2.1 (by rw [← show (rdU 0 0 d).2.2 = 0 by omega])
              have hts := htl.trans (tlE_s hfu (by omega) (by rw [hE]))
              rw [hE] at hts
              have hpl := putB_len
              refine runTf g'21 ?_
              refine cvr g'21 (rput16_c _ _ l0 _ _ _ _ (⟨_, _, _, rfl, by first | exact hb0s _ | exact hbs⟩) (by omega)) ?_
              refine hJ0 _ _ ⟨(rdI (rdI (rdU 0 0 d).2.1).2.1).2.1.length, by omega, _, _, _, ⟨0 + 1, nx + (rdU 0 0 d).1 + 1, fu - 1, (rdI (rdI (rdU 0 0 d).2.1).2.1).2.1, (putB l0 ((16 * tx) + (((nx + (rdU 0 0 d).1) % 16 : Nat) : Int), (16 * ty) + (((nx + (rdU 0 0 d).1) / 16 : Nat) : Int), (rdI ((rdU 0 0 d).2.1)).1, (rdI ((rdI ((rdU 0 0 d).2.1)).2.1)).1)), by omega, (fun h => by omega), (fun h => by omega), hts, (by omega), (by omega), (by rw [putB_len]; omega), hB3, (by omega), rfl, rfl⟩, bS hbel [0, 5, 7] (absRf (jn @fl_s (jn @fqI_s (jn @owg_s (jn @fl_1 (jn @fqE_s (jn @add_nat1 (jn @r4_append (jn @r4_cons (jn @r4_nil @mvs_r4))))))))))⟩
            refine runTf g'22 ?_
            refine hQ _ _ (end_byG (.inl rfl) hbel (x1 := .tup [.sl none 0 (some 0), iV 1]) (l2 := [.cells false 4 []]) (.tup [.sl (some (H.length, 0)) 0 none, iV 1]) (resTf @add_nat1 Tryz.results36) [.cells false 4 []] rfl [7] (by decide) ⟨by first | (rw [htl, tlE_z (by omega)]; done) | (rw [htl, tlE_z (by omega)]; rfl) | (rw [htl, tlE_x hfu (by omega) (entR_1 (by omega)) (by omega)]; rfl) | (rw [htl, tlE_x hfu (by omega) (entR_2 (by omega) (by omega)) (by omega)]; rfl) | (rw [htl, tlE_x hfu (by omega) (entR_3 (by omega) (by omega) (by omega)) (by omega)]; rfl) | (rw [htl, tlE_x hfu (by omega) (entR_4 (by omega) (by omega) (by omega) (by omega)) (by omega)]; rfl) | (rw [htl, tlE_x hfu (by omega) (entR_5 (by omega) (by omega) (by omega) (by omega) (by rw [Bool.and_eq_false_iff]; first | exact .inl (by assumption) | exact .inr (by assumption))) (by omega)]; rfl) | (rw [htl, tlE_x hfu (by omega) (entR_6 (by omega) (by omega) (by omega) (by omega) (by rw [Bool.and_eq_true]; exact ⟨by assumption, by assumption⟩) (by rw [Bool.and_eq_false_iff]; first | exact .inl (by assumption) | exact .inr (by assumption))) (by omega)]; rfl), by first | (rw [htl, tlE_z (by omega)]; done) | (rw [htl, tlE_z (by omega)]; rfl) | (rw [htl, tlE_x hfu (by omega) (entR_1 (by omega)) (by omega)]; rfl) | (rw [htl, tlE_x hfu (by omega) (entR_2 (by omega) (by omega)) (by omega)]; rfl) | (rw [htl, tlE_x hfu (by omega) (entR_3 (by omega) (by omega) (by omega)) (by omega)]; rfl) | (rw [htl, tlE_x hfu (by omega) (entR_4 (by omega) (by omega) (by omega) (by omega)) (by omega)]; rfl) | (rw [htl, tlE_x hfu (by omega) (entR_5 (by omega) (by omega) (by omega) (by omega) (by rw [Bool.and_eq_false_iff]; first | exact .inl (by assumption) | exact .inr (by assumption))) (by omega)]; rfl) | (rw [htl, tlE_x hfu (by omega) (entR_6 (by omega) (by omega) (by omega) (by omega) (by rw [Bool.and_eq_true]; exact ⟨by assumption, by assumption⟩) (by rw [Bool.and_eq_false_iff]; first | exact .inl (by assumption) | exact .inr (by assumption))) (by omega)]; rfl)⟩ ?_)
            exact absWf @mvs_r4
          refine runTf g'23 ?_
          refine hQ _ _ (end_byG (.inl rfl) hbel (x1 := .tup [.sl none 0 (some 0), iV 2]) (l2 := [.cells false 4 []]) (.tup [.sl (some (H.length, 0)) 0 none, iV 2]) (resTf @add_nat1 Tryz.results36) [.cells false 4 []] rfl [7] (by decide) ⟨by first | (rw [htl, tlE_z (by omega)]; done) | (rw [htl, tlE_z (by omega)]; rfl) | (rw [htl, tlE_x hfu (by omega) (entR_1 (by omega)) (by omega)]; rfl) | (rw [htl, tlE_x hfu (by omega) (entR_2 (by omega) (by omega)) (by omega)]; rfl) | (rw [htl, tlE_x hfu (by omega) (entR_3 (by omega) (by omega) (by omega)) (by omega)]; rfl) | (rw [htl, tlE_x hfu (by omega) (entR_4 (by omega) (by omega) (by omega) (by omega)) (by omega)]; rfl) | (rw [htl, tlE_x hfu (by omega) (entR_5 (by omega) (by omega) (by omega) (by omega) (by rw [Bool.and_eq_false_iff]; first | exact .inl (by assumption) | exact .inr (by assumption))) (by omega)]; rfl) | (rw [htl, tlE_x hfu (by omega) (entR_6 (by omega) (by omega) (by omega) (by omega) (by rw [Bool.and_eq_true]; exact ⟨by assumption, by assumption⟩) (by rw [Bool.and_eq_false_iff]; first | exact .inl (by assumption) | exact .inr (by assumption))) (by omega)]; rfl), by first | (rw [htl, tlE_z (by omega)]; done) | (rw [htl, tlE_z (by omega)]; rfl) | (rw [htl, tlE_x hfu (by omega) (entR_1 (by omega)) (by omega)]; rfl) | (rw [htl, tlE_x hfu (by omega) (entR_2 (by omega) (by omega)) (by omega)]; rfl) | (rw [htl, tlE_x hfu (by omega) (entR_3 (by omega) (by omega) (by omega)) (by omega)]; rfl) | (rw [htl, tlE_x hfu (by omega) (entR_4 (by omega) (by omega) (by omega) (by omega)) (by omega)]; rfl) | (rw [htl, tlE_x hfu (by omega) (entR_5 (by omega) (by omega) (by omega) (by omega) (by rw [Bool.and_eq_false_iff]; first | exact .inl (by assumption) | exact .inr (by assumption))) (by omega)]; rfl) | (rw [htl, tlE_x hfu (by omega) (entR_6 (by omega) (by omega) (by omega) (by omega) (by rw [Bool.and_eq_true]; exact ⟨by assumption, by assumption⟩) (by rw [Bool.and_eq_false_iff]; first | exact .inl (by assumption) | exact .inr (by assumption))) (by omega)]; rfl)⟩ ?_)
          exact absWf @mvs_r4
        have h7n := bnT h7
        have g'24 := j2 h7 h7n g'12
        refine runTf g'24 ?_
        refine cv (bsize_c _ _ _ (by decide)) ?_
        refine rgs g'24 (fun h13 h13d g'25 => ?_) (fun h13 h13d g'32 => ?_)
        · refine runTf g'25 ?_
          refine cv (bsize_c _ _ _ (by decide)) ?_
          refine rcs g'25 (fun h14 h14d g'26 => ?_) (fun h14 h14d g'27 => ?_)
          · refine runTf g'26 ?_
            refine hQ _ _ (end_byG (.inl rfl) hbel (x1 := .tup [.sl none 0 (some 0), iV 2]) (l2 := [.cells false 4 []]) (.tup [.sl (some (H.length, 0)) 0 none, iV 2]) (resTf @add_nat1 Tryz.results36) [.cells false 4 []] rfl [7] (by decide) ⟨by first | (rw [htl, tlE_z (by omega)]; done) | (rw [htl, tlE_z (by omega)]; rfl) | (rw [htl, tlE_x hfu (by omega) (entR_1 (by omega)) (by omega)]; rfl) | (rw [htl, tlE_x hfu (by omega) (entR_2 (by omega) (by omega)) (by omega)]; rfl) | (rw [htl, tlE_x hfu (by omega) (entR_3 (by omega) (by omega) (by omega)) (by omega)]; rfl) | (rw [htl, tlE_x hfu (by omega) (entR_4 (by omega) (by omega) (by omega) (by omega)) (by omega)]; rfl) | (rw [htl, tlE_x hfu (by omega) (entR_5 (by omega) (by omega) (by omega) (by omega) (by rw [Bool.and_eq_false_iff]; first | exact .inl (by assumption) | exact .inr (by assumption))) (by omega)]; rfl) | (rw [htl, tlE_x hfu (by omega) (entR_6 (by omega) (by omega) (by omega) (by omega) (by rw [Bool.and_eq_true]; exact ⟨by assumption, by assumption⟩) (by rw [Bool.and_eq_false_iff]; first | exact .inl (by assumption) | exact .inr (by assumption))) (by omega)]; rfl), by first | (rw [htl, tlE_z (by omega)]; done) | (rw [htl, tlE_z (by omega)]; rfl) | (rw [htl, tlE_x hfu (by omega) (entR_1 (by omega)) (by omega)]; rfl) | (rw [htl, tlE_x hfu (by omega) (entR_2 (by omega) (by omega)) (by omega)]; rfl) | (rw [htl, tlE_x hfu (by omega) (entR_3 (by omega) (by omega) (by omega)) (by omega)]; rfl) | (rw [htl, tlE_x hfu (by omega) (entR_4 (by omega) (by omega) (by omega) (by omega)) (by omega)]; rfl) | (rw [htl, tlE_x hfu (by omega) (entR_5 (by omega) (by omega) (by omega) (by omega) (by rw [Bool.and_eq_false_iff]; first | exact .inl (by assumption) | exact .inr (by assumption))) (by omega)]; rfl) | (rw [htl, tlE_x hfu (by omega) (entR_6 (by omega) (by omega) (by omega) (by omega) (by rw [Bool.and_eq_true]; exact ⟨by assumption, by assumption⟩) (by rw [Bool.and_eq_false_iff]; first | exact .inl (by assumption) | exact .inr (by assumption))) (by omega)]; rfl)⟩ ?_)
            exact absWf @mvs_r4
          refine runTf g'27 ?_
          refine cv (bsize_c _ _ _ (by decide)) ?_
          refine rgs g'27 (fun h15 h15d g'28 => ?_) (fun h15 h15d g'31 => ?_)
          · refine runTf g'28 ?_
            refine cv (bsize_c _ _ _ (by decide)) ?_
            refine rcs g'28 (fun h16 h16d g'29 => ?_) (fun h16 h16d g'30 => ?_)
            · refine runTf g'29 ?_
              refine hQ _ _ (end_byG (.inl rfl) hbel (x1 := .tup [.sl none 0 (some 0), iV 1]) (l2 := [.cells false 4 []]) (.tup [.sl (some (H.length, 0)) 0 none, iV 1]) (resTf @add_nat1 Tryz.results36) [.cells false 4 []] rfl [7] (by decide) ⟨by first | (rw [htl, tlE_z (by omega)]; done) | (rw [htl, tlE_z (by omega)]; rfl) | (rw [htl, tlE_x hfu (by omega) (entR_1 (by omega)) (by omega)]; rfl) | (rw [htl, tlE_x hfu (by omega) (entR_2 (by omega) (by omega)) (by omega)]; rfl) | (rw [htl, tlE_x hfu (by omega) (entR_3 (by omega) (by omega) (by omega)) (by omega)]; rfl) | (rw [htl, tlE_x hfu (by omega) (entR_4 (by omega) (by omega) (by omega) (by omega)) (by omega)]; rfl) | (rw [htl, tlE_x hfu (by omega) (entR_5 (by omega) (by omega) (by omega) (by omega) (by rw [Bool.and_eq_false_iff]; first | exact .inl (by assumption) | exact .inr (by assumption))) (by omega)]; rfl) | (rw [htl, tlE_x hfu (by omega) (entR_6 (by omega) (by omega) (by omega) (by omega) (by rw [Bool.and_eq_true]; exact ⟨by assumption, by assumption⟩) (by rw [Bool.and_eq_false_iff]; first | exact .inl (by assumption) | exact .inr (by assumption))) (by omega)]; rfl), by first | (rw [htl, tlE_z (by omega)]; done) | (rw [htl, tlE_z (by omega)]; rfl) | (rw [htl, tlE_x hfu (by omega) (entR_1 (by omega)) (by omega)]; rfl) | (rw [htl, tlE_x hfu (by omega) (entR_2 (by omega) (by omega)) (by omega)]; rfl) | (rw [htl, tlE_x hfu (by omega) (entR_3 (by omega) (by omega) (by omega)) (by omega)]; rfl) | (rw [htl, tlE_x hfu (by omega) (entR_4 (by omega) (by omega) (by omega) (by omega)) (by omega)]; rfl) | (rw [htl, tlE_x hfu (by omega) (entR_5 (by omega) (by omega) (by omega) (by omega) (by rw [Bool.and_eq_false_iff]; first | exact .inl (by assumption) | exact .inr (by assumption))) (by omega)]; rfl) | (rw [htl, tlE_x hfu (by omega) (entR_6 (by omega) (by omega) (by omega) (by omega) (by rw [Bool.and_eq_true]; exact ⟨by assumption, by assumption⟩) (by rw [Bool.and_eq_false_iff]; first | exact .inl (by assumption) | exact .inr (by assumption))) (by omega)]; rfl)⟩ ?_)
              exact absWf @mvs_r4
            have hE := entR_7 (tx := tx) (ty := ty) (nx := nx) (b := d) (by omega) (by omega) (by omega) (by omega) (by rw [Bool.and_eq_true]; exact ⟨by assumption, by assumption⟩) (by rw [Bool.and_eq_true]; exact ⟨by assumption, by assumption⟩)
            have hlr : (rdU 0 0 d).2.1.length < d.length := rdU_len d 0 0 (rdU 0 0 d).1 (rdU 0 0 d).2.1 (by rw [← show (rdU 0 0 d).2.2 = 0 by omega])
            have hts := htl.trans (tlE_s hfu (by omega) (by rw [hE]))
            rw [hE] at hts
            have hpl := putB_len
            refine runTf g'30 ?_
            refine cvr g'30 (rput16_c _ _ l0 _ _ _ _ (⟨_, _, _, rfl, by first | exact hb0s _ | exact hbs⟩) (by omega)) ?_
            refine hJ0 _ _ ⟨(rdI (rdI (rdU 0 0 d).2.1).2.1).2.1.length, by omega, _, _, _, ⟨0 + 1, nx + (rdU 0 0 d).1 + 1, fu - 1, (rdI (rdI (rdU 0 0 d).2.1).2.1).2.1, (putB l0 ((16 * tx) + (((nx + (rdU 0 0 d).1) % 16 : Nat) : Int), (16 * ty) + (((nx + (rdU 0 0 d).1) / 16 : Nat) : Int), (rdI ((rdU 0 0 d).2.1)).1, (rdI ((rdI ((rdU 0 0 d).2.1)).2.1)).1)), by omega, (fun h => by omega), (fun h => by omega), hts, (by omega), (by omega), (by rw [putB_len]; omega), hB3, (by omega), rfl, rfl⟩, bS hbel [0, 5, 7] (absRf (jn @fl_s (jn @fqI_s (jn @owg_s (jn @fl_1 (jn @fqE_s (jn @add_nat1 (jn @r4_append (jn @r4_cons (jn @r4_nil @mvs_r4))))))))))⟩
          refine runTf g'31 ?_
          refine hQ _ _ (end_byG (.inl rfl) hbel (x1 := .tup [.sl none 0 (some 0), iV 1]) (l2 := [.cells false 4 []]) (.tup [.sl (some (H.length, 0)) 0 none, iV 1]) (resTf @add_nat1 Tryz.results36) [.cells false 4 []] rfl [7] (by decide) ⟨by first | (rw [htl, tlE_z (by omega)]; done) | (rw [htl, tlE_z (by omega)]; rfl) | (rw [htl, tlE_x hfu (by omega) (entR_1 (by omega)) (by omega)]; rfl) | (rw [htl, tlE_x hfu (by omega) (entR_2 (by omega) (by omega)) (by omega)]; rfl) | (rw [htl, tlE_x hfu (by omega) (entR_3 (by omega) (by omega) (by omega)) (by omega)]; rfl) | (rw [htl, tlE_x hfu (by omega) (entR_4 (by omega) (by omega) (by omega) (by omega)) (by omega)]; rfl) | (rw [htl, tlE_x hfu (by omega) (entR_5 (by omega) (by omega) (by omega) (by omega) (by rw [Bool.and_eq_false_iff]; first | exact .inl (by assumption) | exact .inr (by assumption))) (by omega)]; rfl) | (rw [htl, tlE_x hfu (by omega) (entR_6 (by omega) (by omega) (by omega) (by omega) (by rw [Bool.and_eq_true]; exact ⟨by assumption, by assumption⟩) (by rw [Bool.and_eq_false_iff]; first | exact .inl (by assumption) | exact .inr (by assumption))) (by omega)]; rfl), by first | (rw [htl, tlE_z (by omega)]; done) | (rw [htl, tlE_z (by omega)]; rfl) | (rw [htl, tlE_x hfu (by omega) (entR_1 (by omega)) (by omega)]; rfl) | (rw [htl, tlE_x hfu (by omega) (entR_2 (by omega) (by omega)) (by omega)]; rfl) | (rw [htl, tlE_x hfu (by omega) (entR_3 (by omega) (by omega) (by omega)) (by omega)]; rfl) | (rw [htl, tlE_x hfu (by omega) (entR_4 (by omega) (by omega) (by omega) (by omega)) (by omega)]; rfl) | (rw [htl, tlE_x hfu (by omega) (entR_5 (by omega) (by omega) (by omega) (by omega) (by rw [Bool.and_eq_false_iff]; first | exact .inl (by assumption) | exact .inr (by assumption))) (by omega)]; rfl) | (rw [htl, tlE_x hfu (by omega) (entR_6 (by omega) (by omega) (by omega) (by omega) (by rw [Bool.and_eq_true]; exact ⟨by assumption, by assumption⟩) (by rw [Bool.and_eq_false_iff]; first | exact .inl (by assumption) | exact .inr (by assumption))) (by omega)]; rfl)⟩ ?_)
          exact absWf @mvs_r4
        refine runTf g'32 ?_
        refine hQ _ _ (end_byG (.inl rfl) hbel (x1 := .tup [.sl none 0 (some 0), iV 2]) (l2 := [.cells false 4 []]) (.tup [.sl (some (H.length, 0)) 0 none, iV 2]) (resTf @add_nat1 Tryz.results36) [.cells false 4 []] rfl [7] (by decide) ⟨by first | (rw [htl, tlE_z (by omega)]; done) | (rw [htl, tlE_z (by omega)]; rfl) | (rw [htl, tlE_x hfu (by omega) (entR_1 (by omega)) (by omega)]; rfl) | (rw [htl, tlE_x hfu (by omega) (entR_2 (by omega) (by omega)) (by omega)]; rfl) | (rw [htl, tlE_x hfu (by omega) (entR_3 (by omega) (by omega) (by omega)) (by omega)]; rfl) | (rw [htl, tlE_x hfu (by omega) (entR_4 (by omega) (by omega) (by omega) (by omega)) (by omega)]; rfl) | (rw [htl, tlE_x hfu (by omega) (entR_5 (by omega) (by omega) (by omega) (by omega) (by rw [Bool.and_eq_false_iff]; first | exact .inl (by assumption) | exact .inr (by assumption))) (by omega)]; rfl) | (rw [htl, tlE_x hfu (by omega) (entR_6 (by omega) (by omega) (by omega) (by omega) (by rw [Bool.and_eq_true]; exact ⟨by assumption, by assumption⟩) (by rw [Bool.and_eq_false_iff]; first | exact .inl (by assumption) | exact .inr (by assumption))) (by omega)]; rfl), by first | (rw [htl, tlE_z (by omega)]; done) | (rw [htl, tlE_z (by omega)]; rfl) | (rw [htl, tlE_x hfu (by omega) (entR_1 (by omega)) (by omega)]; rfl) | (rw [htl, tlE_x hfu (by omega) (entR_2 (by omega) (by omega)) (by omega)]; rfl) | (rw [htl, tlE_x hfu (by omega) (entR_3 (by omega) (by omega) (by omega)) (by omega)]; rfl) | (rw [htl, tlE_x hfu (by omega) (entR_4 (by omega) (by omega) (by omega) (by omega)) (by omega)]; rfl) | (rw [htl, tlE_x hfu (by omega) (entR_5 (by omega) (by omega) (by omega) (by omega) (by rw [Bool.and_eq_false_iff]; first | exact .inl (by assumption) | exact .inr (by assumption))) (by omega)]; rfl) | (rw [htl, tlE_x hfu (by omega) (entR_6 (by omega) (by omega) (by omega) (by omega) (by rw [Bool.and_eq_true]; exact ⟨by assumption, by assumption⟩) (by rw [Bool.and_eq_false_iff]; first | exact .inl (by assumption) | exact .inr (by assumption))) (by omega)]; rfl)⟩ ?_)
        exact absWf @mvs_r4
      refine runTf g'33 ?_
      refine hQ _ _ (end_byG (.inl rfl) hbel (x1 := .tup [.sl none 0 (some 0), iV 3]) (l2 := [.cells false 4 []]) (.tup [.sl (some (H.length, 0)) 0 none, iV 3]) (resTf @add_nat1 Tryz.results36) [.cells false 4 []] rfl [6] (by decide) ⟨by first | (rw [htl, tlE_z (by omega)]; done) | (rw [htl, tlE_z (by omega)]; rfl) | (rw [htl, tlE_x hfu (by omega) (entR_1 (by omega)) (by omega)]; rfl) | (rw [htl, tlE_x hfu (by omega) (entR_2 (by omega) (by omega)) (by omega)]; rfl) | (rw [htl, tlE_x hfu (by omega) (entR_3 (by omega) (by omega) (by omega)) (by omega)]; rfl) | (rw [htl, tlE_x hfu (by omega) (entR_4 (by omega) (by omega) (by omega) (by omega)) (by omega)]; rfl) | (rw [htl, tlE_x hfu (by omega) (entR_5 (by omega) (by omega) (by omega) (by omega) (by rw [Bool.and_eq_false_iff]; first | exact .inl (by assumption) | exact .inr (by assumption))) (by omega)]; rfl) | (rw [htl, tlE_x hfu (by omega) (entR_6 (by omega) (by omega) (by omega) (by omega) (by rw [Bool.and_eq_true]; exact ⟨by assumption, by assumption⟩) (by rw [Bool.and_eq_false_iff]; first | exact .inl (by assumption) | exact .inr (by assumption))) (by omega)]; rfl), by first | (rw [htl, tlE_z (by omega)]; done) | (rw [htl, tlE_z (by omega)]; rfl) | (rw [htl, tlE_x hfu (by omega) (entR_1 (by omega)) (by omega)]; rfl) | (rw [htl, tlE_x hfu (by omega) (entR_2 (by omega) (by omega)) (by omega)]; rfl) | (rw [htl, tlE_x hfu (by omega) (entR_3 (by omega) (by omega) (by omega)) (by omega)]; rfl) | (rw [htl, tlE_x hfu (by omega) (entR_4 (by omega) (by omega) (by omega) (by omega)) (by omega)]; rfl) | (rw [htl, tlE_x hfu (by omega) (entR_5 (by omega) (by omega) (by omega) (by omega) (by rw [Bool.and_eq_false_iff]; first | exact .inl (by assumption) | exact .inr (by assumption))) (by omega)]; rfl) | (rw [htl, tlE_x hfu (by omega) (entR_6 (by omega) (by omega) (by omega) (by omega) (by rw [Bool.and_eq_true]; exact ⟨by assumption, by assumption⟩) (by rw [Bool.and_eq_false_iff]; first | exact .inl (by assumption) | exact .inr (by assumption))) (by omega)]; rfl)⟩ ?_)
      exact absWf @mvs_r4
    omega
  have g'34 := (jn @ints_len (jn @ints_ones (jn @r4_len (jn @r4_one (jn @fl_s (jn @fqI_s (jn @owg_s (jn @fqE_s g'1))))))))
  refine rcs g'34 (fun h17 h17d g'35 => ?_) (fun h17 h17d g'66 => ?_)
  · have hf1 := rdU_suf q 0 0
    have hB1 := suf_B hf1 hBb
    have hf2 := rdI_suf (rdU 0 0 q).2.1
    have hB2 := suf_B hf2 hB1
    have hf3 := rdI_suf (rdI (rdU 0 0 q).2.1).2.1
    have hB3 := suf_B hf3 hB2
    have hl1 := hf1.length_le
    have hl2 := hf2.length_le
    have hl3 := hf3.length_le
    refine runTf g'35 ?_
    refine cv (rrduint_c _ _ q (slA) (by first | assumption | exact hB) (by omega)) ?_
    refine rcs g'35 (fun h18 h18d _ => ?_) (fun h18 h18d _ => ?_)
    · have h18n := bnT h18
      have g'36 := (jn h18 (jn h18n (jn @int_bne (jn @int_beq g'35))))
      refine runTf g'36 ?_
      refine hQ _ _ (end_byG (.inl rfl) hbel (x1 := .tup [.sl none 0 (some 0), iV ((rdU 0 0 q).2.2)]) (l2 := [.cells false 4 []]) (.tup [.sl (some (H.length, 0)) 0 none, iV ((rdU 0 0 q).2.2)]) (resTf @add_nat1 Tryz.results36) [.cells false 4 []] rfl [4] (by decide) ⟨by first | (rw [htl, tlE_z (by omega)]; done) | (rw [htl, tlE_z (by omega)]; rfl) | (rw [htl, tlE_x hfu (by omega) (entR_1 (by omega)) (by omega)]; rfl) | (rw [htl, tlE_x hfu (by omega) (entR_2 (by omega) (by omega)) (by omega)]; rfl) | (rw [htl, tlE_x hfu (by omega) (entR_3 (by omega) (by omega) (by omega)) (by omega)]; rfl) | (rw [htl, tlE_x hfu (by omega) (entR_4 (by omega) (by omega) (by omega) (by omega)) (by omega)]; rfl) | (rw [htl, tlE_x hfu (by omega) (entR_5 (by omega) (by omega) (by omega) (by omega) (by rw [Bool.and_eq_false_iff]; first | exact .inl (by assumption) | exact .inr (by assumption))) (by omega)]; rfl) | (rw [htl, tlE_x hfu (by omega) (entR_6 (by omega) (by omega) (by omega) (by omega) (by rw [Bool.and_eq_true]; exact ⟨by assumption, by assumption⟩) (by rw [Bool.and_eq_false_iff]; first | exact .inl (by assumption) | exact .inr (by assumption))) (by omega)]; rfl), by first | (rw [htl, tlE_z (by omega)]; done) | (rw [htl, tlE_z (by omega)]; rfl) | (rw [htl, tlE_x hfu (by omega) (entR_1 (by omega)) (by omega)]; rfl) | (rw [htl, tlE_x hfu (by omega) (entR_2 (by omega) (by omega)) (by omega)]; rfl) | (rw [htl, tlE_x hfu (by omega) (entR_3 (by omega) (by omega) (by omega)) (by omega)]; rfl) | (rw [htl, tlE_x hfu (by omega) (entR_4 (by omega) (by omega) (by omega) (by omega)) (by omega)]; rfl) | (rw [htl, tlE_x hfu (by omega) (entR_5 (by omega) (by omega) (by omega) (by omega) (by rw [Bool.and_eq_false_iff]; first | exact .inl (by assumption) | exact .inr (by assumption))) (by omega)]; rfl) | (rw [htl, tlE_x hfu (by omega) (entR_6 (by omega) (by omega) (by omega) (by omega) (by rw [Bool.and_eq_true]; exact ⟨by assumption, by assumption⟩) (by rw [Bool.and_eq_false_iff]; first | exact .inl (by assumption) | exact .inr (by assumption))) (by omega)]; rfl)⟩ ?_)
      exact absWf @mvs_r4
    have h18n := bnT h18
    have g'37 := (jn h18 (jn h18n (jn @int_bne (jn @int_beq g'35))))
    refine runTf g'37 ?_
    refine cv (rrdint_c _ _ ((rdU 0 0 q).2.1) (slA) (by first | assumption | exact hB) (by omega)) ?_
    refine rcs g'37 (fun h19 h19d _ => ?_) (fun h19 h19d _ => ?_)
    · have h19n := bnT h19
      have g'38 := j2 h19 h19n g'37
      refine runTf g'38 ?_
      refine hQ _ _ (end_byG (.inl rfl) hbel (x1 := .tup [.sl none 0 (some 0), iV ((rdI ((rdU 0 0 q).2.1)).2.2)]) (l2 := [.cells false 4 []]) (.tup [.sl (some (H.length, 0)) 0 none, iV ((rdI ((rdU 0 0 q).2.1)).2.2)]) (resTf @add_nat1 Tryz.results36) [.cells false 4 []] rfl [5] (by decide) ⟨by first | (rw [htl, tlE_z (by omega)]; done) | (rw [htl, tlE_z (by omega)]; rfl) | (rw [htl, tlE_x hfu (by omega) (entR_1 (by omega)) (by omega)]; rfl) | (rw [htl, tlE_x hfu (by omega) (entR_2 (by omega) (by omega)) (by omega)]; rfl) | (rw [htl, tlE_x hfu (by omega) (entR_3 (by omega) (by omega) (by omega)) (by omega)]; rfl) | (rw [htl, tlE_x hfu (by omega) (entR_4 (by omega) (by omega) (by omega) (by omega)) (by omega)]; rfl) | (rw [htl, tlE_x hfu (by omega) (entR_5 (by omega) (by omega) (by omega) (by omega) (by rw [Bool.and_eq_false_iff]; first | exact .inl (by assumption) | exact .inr (by assumption))) (by omega)]; rfl) | (rw [htl, tlE_x hfu (by omega) (entR_6 (by omega) (by omega) (by omega) (by omega) (by rw [Bool.and_eq_true]; exact ⟨by assumption, by assumption⟩) (by rw [Bool.and_eq_false_iff]; first | exact .inl (by assumption) | exact .inr (by assumption))) (by omega)]; rfl), by first | (rw [htl, tlE_z (by omega)]; done) | (rw [htl, tlE_z (by omega)]; rfl) | (rw [htl, tlE_x hfu (by omega) (entR_1 (by omega)) (by omega)]; rfl) | (rw [htl, tlE_x hfu (by omega) (entR_2 (by omega) (by omega)) (by omega)]; rfl) | (rw [htl, tlE_x hfu (by omega) (entR_3 (by omega) (by omega) (by omega)) (by omega)]; rfl) | (rw [htl, tlE_x hfu (by omega) (entR_4 (by omega) (by omega) (by omega) (by omega)) (by omega)]; rfl) | (rw [htl, tlE_x hfu (by omega) (entR_5 (by omega) (by omega) (by omega) (by omega) (by rw [Bool.and_eq_false_iff]; first | exact .inl (by assumption) | exact .inr (by assumption))) (by omega)]; rfl) | (rw [htl, tlE_x hfu (by omega) (entR_6 (by omega) (by omega) (by omega) (by omega) (by rw [Bool.and_eq_true]; exact ⟨by assumption, by assumption⟩) (by rw [Bool.and_eq_false_iff]; first | exact .inl (by assumption) | exact .inr (by assumption))) (by omega)]; rfl)⟩ ?_)
      exact absWf @mvs_r4
    have h19n := bnT h19
    have g'39 := j2 h19 h19n g'37
    refine runTf g'39 ?_
    refine cv (rrdint_c _ _ ((rdI ((rdU 0 0 q).2.1)).2.1) (slA) (by first | assumption | exact hB) (by omega)) ?_
    refine rcs g'39 (fun h20 h20d _ => ?_) (fun h20 h20d _ => ?_)
    · have h20n := bnT h20
      have g'40 := j2 h20 h20n g'39
      refine runTf g'40 ?_
      refine hQ _ _ (end_byG (.inl rfl) hbel (x1 := .tup [.sl none 0 (some 0), iV ((rdI ((rdI ((rdU 0 0 q).2.1)).2.1)).2.2)]) (l2 := [.cells false 4 []]) (.tup [.sl (some (H.length, 0)) 0 none, iV ((rdI ((rdI ((rdU 0 0 q).2.1)).2.1)).2.2)]) (resTf @add_nat1 Tryz.results36) [.cells false 4 []] rfl [6] (by decide) ⟨by first | (rw [htl, tlE_z (by omega)]; done) | (rw [htl, tlE_z (by omega)]; rfl) | (rw [htl, tlE_x hfu (by omega) (entR_1 (by omega)) (by omega)]; rfl) | (rw [htl, tlE_x hfu (by omega) (entR_2 (by omega) (by omega)) (by omega)]; rfl) | (rw [htl, tlE_x hfu (by omega) (entR_3 (by omega) (by omega) (by omega)) (by omega)]; rfl) | (rw [htl, tlE_x hfu (by omega) (entR_4 (by omega) (by omega) (by omega) (by omega)) (by omega)]; rfl) | (rw [htl, tlE_x hfu (by omega) (entR_5 (by omega) (by omega) (by omega) (by omega) (by rw [Bool.and_eq_false_iff]; first | exact .inl (by assumption) | exact .inr (by assumption))) (by omega)]; rfl) | (rw [htl, tlE_x hfu (by omega) (entR_6 (by omega) (by omega) (by omega) (by omega) (by rw [Bool.and_eq_true]; exact ⟨by assumption, by assumption⟩) (by rw [Bool.and_eq_false_iff]; first | exact .inl (by assumption) | exact .inr (by assumption))) (by omega)]; rfl), by first | (rw [htl, tlE_z (by omega)]; done) | (rw [htl, tlE_z (by omega)]; rfl) | (rw [htl, tlE_x hfu (by omega) (entR_1 (by omega)) (by omega)]; rfl) | (rw [htl, tlE_x hfu (by omega) (entR_2 (by omega) (by omega)) (by omega)]; rfl) | (rw [htl, tlE_x hfu (by omega) (entR_3 (by omega) (by omega) (by omega)) (by omega)]; rfl) | (rw [htl, tlE_x hfu (by omega) (entR_4 (by omega) (by omega) (by omega) (by omega)) (by omega)]; rfl) | (rw [htl, tlE_x hfu (by omega) (entR_5 (by omega) (by omega) (by omega) (by omega) (by rw [Bool.and_eq_false_iff]; first | exact .inl (by assumption) | exact .inr (by assumption))) (by omega)]; rfl) | (rw [htl, tlE_x hfu (by omega) (entR_6 (by omega) (by omega) (by omega) (by omega) (by rw [Bool.and_eq_true]; exact ⟨by assumption, by assumption⟩) (by rw [Bool.and_eq_false_iff]; first | exact .inl (by assumption) | exact .inr (by assumption))) (by omega)]; rfl)⟩ ?_)
      exact absWf @mvs_r4
    have h20n := bnT h20
    have g'41 := j2 h20 h20n g'39
    refine rgs g'41 (fun h21 h21d g'42 => ?_) (fun h21 h21d g'65 => ?_)
    · refine rcs g'42 (fun h22 h22d g'43 => ?_) (fun h22 h22d g'44 => ?_)
      · refine runTf g'43 ?_
        refine hQ _ _ (end_byG (.inl rfl) hbel (x1 := .tup [.sl none 0 (some 0), iV 3]) (l2 := [.cells false 4 []]) (.tup [.sl (some (H.length, 0)) 0 none, iV 3]) (resTf @add_nat1 Tryz.results36) [.cells false 4 []] rfl [6] (by decide) ⟨by first | (rw [htl, tlE_z (by omega)]; done) | (rw [htl, tlE_z (by omega)]; rfl) | (rw [htl, tlE_x hfu (by omega) (entR_1 (by omega)) (by omega)]; rfl) | (rw [htl, tlE_x hfu (by omega) (entR_2 (by omega) (by omega)) (by omega)]; rfl) | (rw [htl, tlE_x hfu (by omega) (entR_3 (by omega) (by omega) (by omega)) (by omega)]; rfl) | (rw [htl, tlE_x hfu (by omega) (entR_4 (by omega) (by omega) (by omega) (by omega)) (by omega)]; rfl) | (rw [htl, tlE_x hfu (by omega) (entR_5 (by omega) (by omega) (by omega) (by omega) (by rw [Bool.and_eq_false_iff]; first | exact .inl (by assumption) | exact .inr (by assumption))) (by omega)]; rfl) | (rw [htl, tlE_x hfu (by omega) (entR_6 (by omega) (by omega) (by omega) (by omega) (by rw [Bool.and_eq_true]; exact ⟨by assumption, by assumption⟩) (by rw [Bool.and_eq_false_iff]; first | exact .inl (by assumption) | exact .inr (by assumption))) (by omega)]; rfl), by first | (rw [htl, tlE_z (by omega)]; done) | (rw [htl, tlE_z (by omega)]; rfl) | (rw [htl, tlE_x hfu (by omega) (entR_1 (by omega)) (by omega)]; rfl) | (rw [htl, tlE_x hfu (by omega) (entR_2 (by omega) (by omega)) (by omega)]; rfl) | (rw [htl, tlE_x hfu (by omega) (entR_3 (by omega) (by omega) (by omega)) (by omega)]; rfl) | (rw [htl, tlE_x hfu (by omega) (entR_4 (by omega) (by omega) (by omega) (by omega)) (by omega)]; rfl) | (rw [htl, tlE_x hfu (by omega) (entR_5 (by omega) (by omega) (by omega) (by omega) (by rw [Bool.and_eq_false_iff]; first | exact .inl (by assumption) | exact .inr (by assumption))) (by omega)]; rfl) | (rw [htl, tlE_x hfu (by omega) (entR_6 (by omega) (by omega) (by omega) (by omega) (by rw [Bool.and_eq_true]; exact ⟨by assumption, by assumption⟩) (by rw [Bool.and_eq_false_iff]; first | exact .inl (by assumption) | exact .inr (by assumption))) (by omega)]; rfl)⟩ ?_)
        exact absWf @mvs_r4
      refine rgs g'44 (fun h23 h23d _ => ?_) (fun h23 h23d _ => ?_)
      · have h23n := bnT h23
        have g'45 := j2 h23 h23n g'44
        refine rcs g'45 (fun h24 h24d _ => ?_) (fun h24 h24d _ => ?_)
        · have h24n := bnT h24
          have g'46 := j2 h24 h24n g'45
          refine runTf g'46 ?_
          refine hQ _ _ (end_byG (.inl rfl) hbel (x1 := .tup [.sl none 0 (some 0), iV 3]) (l2 := [.cells false 4 []]) (.tup [.sl (some (H.length, 0)) 0 none, iV 3]) (resTf @add_nat1 Tryz.results36) [.cells false 4 []] rfl [7] (by decide) ⟨by first | (rw [htl, tlE_z (by omega)]; done) | (rw [htl, tlE_z (by omega)]; rfl) | (rw [htl, tlE_x hfu (by omega) (entR_1 (by omega)) (by omega)]; rfl) | (rw [htl, tlE_x hfu (by omega) (entR_2 (by omega) (by omega)) (by omega)]; rfl) | (rw [htl, tlE_x hfu (by omega) (entR_3 (by omega) (by omega) (by omega)) (by omega)]; rfl) | (rw [htl, tlE_x hfu (by omega) (entR_4 (by omega) (by omega) (by omega) (by omega)) (by omega)]; rfl) | (rw [htl, tlE_x hfu (by omega) (entR_5 (by omega) (by omega) (by omega) (by omega) (by rw [Bool.and_eq_false_iff]; first | exact .inl (by assumption) | exact .inr (by assumption))) (by omega)]; rfl) | (rw [htl, tlE_x hfu (by omega) (entR_6 (by omega) (by omega) (by omega) (by omega) (by rw [Bool.and_eq_true]; exact ⟨by assumption, by assumption⟩) (by rw [Bool.and_eq_false_iff]; first | exact .inl (by assumption) | exact .inr (by assumption))) (by omega)]; rfl), by first | (rw [htl, tlE_z (by omega)]; done) | (rw [htl, tlE_z (by omega)]; rfl) | (rw [htl, tlE_x hfu (by omega) (entR_1 (by omega)) (by omega)]; rfl) | (rw [htl, tlE_x hfu (by omega) (entR_2 (by omega) (by omega)) (by omega)]; rfl) | (rw [htl, tlE_x hfu (by omega) (entR_3 (by omega) (by omega) (by omega)) (by omega)]; rfl) | (rw [htl, tlE_x hfu (by omega) (entR_4 (by omega) (by omega) (by omega) (by omega)) (by omega)]; rfl) | (rw [htl, tlE_x hfu (by omega) (entR_5 (by omega) (by omega) (by omega) (by omega) (by rw [Bool.and_eq_false_iff]; first | exact .inl (by assumption) | exact .inr (by assumption))) (by omega)]; rfl) | (rw [htl, tlE_x hfu (by omega) (entR_6 (by omega) (by omega) (by omega) (by omega) (by rw [Bool.and_eq_true]; exact ⟨by assumption, by assumption⟩) (by rw [Bool.and_eq_false_iff]; first | exact .inl (by assumption) | exact .inr (by assumption))) (by omega)]; rfl)⟩ ?_)
          exact absWf @mvs_r4
        have h24n := bnT h24
        have g'47 := j2 h24 h24n g'45
        refine runTf g'47 ?_
        refine cv (bsize_c _ _ _ (by decide)) ?_
        refine rgs g'47 (fun h25 h25d g'48 => ?_) (fun h25 h25d g'55 => ?_)
        · refine runTf g'48 ?_
          refine cv (bsize_c _ _ _ (by decide)) ?_
          refine rcs g'48 (fun h26 h26d g'49 => ?_) (fun h26 h26d g'50 => ?_)
          · refine runTf g'49 ?_
            refine hQ _ _ (end_byG (.inl rfl) hbel (x1 := .tup [.sl none 0 (some 0), iV 2]) (l2 := [.cells false 4 []]) (.tup [.sl (some (H.length, 0)) 0 none, iV 2]) (resTf @add_nat1 Tryz.results36) [.cells false 4 []] rfl [7] (by decide) ⟨by first | (rw [htl, tlE_z (by omega)]; done) | (rw [htl, tlE_z (by omega)]; rfl) | (rw [htl, tlE_x hfu (by omega) (entR_1 (by omega)) (by omega)]; rfl) | (rw [htl, tlE_x hfu (by omega) (entR_2 (by omega) (by omega)) (by omega)]; rfl) | (rw [htl, tlE_x hfu (by omega) (entR_3 (by omega) (by omega) (by omega)) (by omega)]; rfl) | (rw [htl, tlE_x hfu (by omega) (entR_4 (by omega) (by omega) (by omega) (by omega)) (by omega)]; rfl) | (rw [htl, tlE_x hfu (by omega) (entR_5 (by omega) (by omega) (by omega) (by omega) (by rw [Bool.and_eq_false_iff]; first | exact .inl (by assumption) | exact .inr (by assumption))) (by omega)]; rfl) | (rw [htl, tlE_x hfu (by omega) (entR_6 (by omega) (by omega) (by omega) (by omega) (by rw [Bool.and_eq_true]; exact ⟨by assumption, by assumption⟩) (by rw [Bool.and_eq_false_iff]; first | exact .inl (by assumption) | exact .inr (by assumption))) (by omega)]; rfl), by first | (rw [htl, tlE_z (by omega)]; done) | (rw [htl, tlE_z (by omega)]; rfl) | (rw [htl, tlE_x hfu (by omega) (entR_1 (by omega)) (by omega)]; rfl) | (rw [htl, tlE_x hfu (by omega) (entR_2 (by omega) (by omega)) (by omega)]; rfl) | (rw [htl, tlE_x hfu (by omega) (entR_3 (by omega) (by omega) (by omega)) (by omega)]; rfl) | (rw [htl, tlE_x hfu (by omega) (entR_4 (by omega) (by omega) (by omega) (by omega)) (by omega)]; rfl) | (rw [htl, tlE_x hfu (by omega) (entR_5 (by omega) (by omega) (by omega) (by omega) (by rw [Bool.and_eq_false_iff]; first | exact .inl (by assumption) | exact .inr (by assumption))) (by omega)]; rfl) | (rw [htl, tlE_x hfu (by omega) (entR_6 (by omega) (by omega) (by omega) (by omega) (by rw [Bool.and_eq_true]; exact ⟨by assumption, by assumption⟩) (by rw [Bool.and_eq_false_iff]; first | exact .inl (by assumption) | exact .inr (by assumption))) (by omega)]; rfl)⟩ ?_)
            exact absWf @mvs_r4
          refine runTf g'50 ?_
          refine cv (bsize_c _ _ _ (by decide)) ?_
          refine rgs g'50 (fun h27 h27d g'51 => ?_) (fun h27 h27d g'54 => ?_)
          · refine runTf g'51 ?_
            refine cv (bsize_c _ _ _ (by decide)) ?_
            refine rcs g'51 (fun h28 h28d g'52 => ?_) (fun h28 h28d g'53 => ?_)
            · refine runTf g'52 ?_
              refine hQ _ _ (end_byG (.inl rfl) hbel (x1 := .tup [.sl none 0 (some 0), iV 1]) (l2 := [.cells false 4 []]) (.tup [.sl (some (H.length, 0)) 0 none, iV 1]) (resTf @add_nat1 Tryz.results36) [.cells false 4 []] rfl [7] (by decide) ⟨by first | (rw [htl, tlE_z (by omega)]; done) | (rw [htl, tlE_z (by omega)]; rfl) | (rw [htl, tlE_x hfu (by omega) (entR_1 (by omega)) (by omega)]; rfl) | (rw [htl, tlE_x hfu (by omega) (entR_2 (by omega) (by omega)) (by omega)]; rfl) | (rw [htl, tlE_x hfu (by omega) (entR_3 (by omega) (by omega) (by omega)) (by omega)]; rfl) | (rw [htl, tlE_x hfu (by omega) (entR_4 (by omega) (by omega) (by omega) (by omega)) (by omega)]; rfl) | (rw [htl, tlE_x hfu (by omega) (entR_5 (by omega) (by omega) (by omega) (by omega) (by rw [Bool.and_eq_false_iff]; first | exact .inl (by assumption) | exact .inr (by assumption))) (by omega)]; rfl) | (rw [htl, tlE_x hfu (by omega) (entR_6 (by omega) (by omega) (by omega) (by omega) (by rw [Bool.and_eq_true]; exact ⟨by assumption, by assumption⟩) (by rw [Bool.and_eq_false_iff]; first | exact .inl (by assumption) | exact .inr (by assumption))) (by omega)]; rfl), by first | (rw [htl, tlE_z (by omega)]; done) | (rw [htl, tlE_z (by omega)]; rfl) | (rw [htl, tlE_x hfu (by omega) (entR_1 (by omega)) (by omega)]; rfl) | (rw [htl, tlE_x hfu (by omega) (entR_2 (by omega) (by omega)) (by omega)]; rfl) | (rw [htl, tlE_x hfu (by omega) (entR_3 (by omega) (by omega) (by omega)) (by omega)]; rfl) | (rw [htl, tlE_x hfu (by omega) (entR_4 (by omega) (by omega) (by omega) (by omega)) (by omega)]; rfl) | (rw [htl, tlE_x hfu (by omega) (entR_5 (by omega) (by omega) (by omega) (by omega) (by rw [Bool.and_eq_false_iff]; first | exact .inl (by assumption) | exact .inr (by assumption))) (by omega)]; rfl) | (rw [htl, tlE_x hfu (by omega) (entR_6 (by omega) (by omega) (by omega) (by omega) (by rw [Bool.and_eq_true]; exact ⟨by assumption, by assumption⟩) (by rw [Bool.and_eq_false_iff]; first | exact .inl (by assumption) | exact .inr (by assumption))) (by omega)]; rfl)⟩ ?_)
              exact absWf @mvs_r4
            have hE := entR_7 (tx := tx) (ty := ty) (nx := nx) (b := q) (by omega) (by omega) (by omega) (by omega) (by rw [Bool.and_eq_true]; exact ⟨by assumption, by assumption⟩) (by rw [Bool.and_eq_true]; exact ⟨by assumption, by assumption⟩)
            have hlr : (rdU 0 0 q).2.1.length < q.length := rdU_len q 0 0 (rdU 0 0 q).1 (rdU 0 0 q).2.1 (by rw [← show (rdU 0 0 q).2.2 = 0 by omega])
            have hts := htl.trans (tlE_s hfu (by omega) (by rw [hE]))
            rw [hE] at hts
            have hpl := putB_len
            refine runTf g'53 ?_
            refine cvr g'53 (rput16_c _ _ ac _ _ _ _ (slA) (by omega)) ?_
            refine hJ0 _ _ ⟨(rdI (rdI (rdU 0 0 q).2.1).2.1).2.1.length, by omega, _, _, _, ⟨c0 + 1 + 1, nx + (rdU 0 0 q).1 + 1, fu - 1, (rdI (rdI (rdU 0 0 q).2.1).2.1).2.1, (putB ac ((16 * tx) + (((nx + (rdU 0 0 q).1) % 16 : Nat) : Int), (16 * ty) + (((nx + (rdU 0 0 q).1) / 16 : Nat) : Int), (rdI ((rdU 0 0 q).2.1)).1, (rdI ((rdI ((rdU 0 0 q).2.1)).2.1)).1)), by omega, (fun h => by omega), (fun h => by omega), hts, (by omega), (by omega), (by rw [putB_len]; omega), hB3, (by omega), rfl, rfl⟩, bS hbel [0, 5, 7] (absRf (jn @fl_s (jn @fqI_s (jn @owg_s (jn @fl_1 (jn @fqE_s (jn @add_nat1 (jn @r4_append (jn @r4_cons (jn @r4_nil @mvs_r4))))))))))⟩
          refine runTf g'54 ?_
          refine hQ _ _ (end_byG (.inl rfl) hbel (x1 := .tup [.sl none 0 (some 0), iV 1]) (l2 := [.cells false 4 []]) (.tup [.sl (some (H.length, 0)) 0 none, iV 1]) (resTf @add_nat1 Tryz.results36) [.cells false 4 []] rfl [7] (by decide) ⟨by first | (rw [htl, tlE_z (by omega)]; done) | (rw [htl, tlE_z (by omega)]; rfl) | (rw [htl, tlE_x hfu (by omega) (entR_1 (by omega)) (by omega)]; rfl) | (rw [htl, tlE_x hfu (by omega) (entR_2 (by omega) (by omega)) (by omega)]; rfl) | (rw [htl, tlE_x hfu (by omega) (entR_3 (by omega) (by omega) (by omega)) (by omega)]; rfl) | (rw [htl, tlE_x hfu (by omega) (entR_4 (by omega) (by omega) (by omega) (by omega)) (by omega)]; rfl) | (rw [htl, tlE_x hfu (by omega) (entR_5 (by omega) (by omega) (by omega) (by omega) (by rw [Bool.and_eq_false_iff]; first | exact .inl (by assumption) | exact .inr (by assumption))) (by omega)]; rfl) | (rw [htl, tlE_x hfu (by omega) (entR_6 (by omega) (by omega) (by omega) (by omega) (by rw [Bool.and_eq_true]; exact ⟨by assumption, by assumption⟩) (by rw [Bool.and_eq_false_iff]; first | exact .inl (by assumption) | exact .inr (by assumption))) (by omega)]; rfl), by first | (rw [htl, tlE_z (by omega)]; done) | (rw [htl, tlE_z (by omega)]; rfl) | (rw [htl, tlE_x hfu (by omega) (entR_1 (by omega)) (by omega)]; rfl) | (rw [htl, tlE_x hfu (by omega) (entR_2 (by omega) (by omega)) (by omega)]; rfl) | (rw [htl, tlE_x hfu (by omega) (entR_3 (by omega) (by omega) (by omega)) (by omega)]; rfl) | (rw [htl, tlE_x hfu (by omega) (entR_4 (by omega) (by omega) (by omega) (by omega)) (by omega)]; rfl) | (rw [htl, tlE_x hfu (by omega) (entR_5 (by omega) (by omega) (by omega) (by omega) (by rw [Bool.and_eq_false_iff]; first | exact .inl (by assumption) | exact .inr (by assumption))) (by omega)]; rfl) | (rw [htl, tlE_x hfu (by omega) (entR_6 (by omega) (by omega) (by omega) (by omega) (by rw [Bool.and_eq_true]; exact ⟨by assumption, by assumption⟩) (by rw [Bool.and_eq_false_iff]; first | exact .inl (by assumption) | exact .inr (by assumption))) (by omega)]; rfl)⟩ ?_)
          exact absWf @mvs_r4
        refine runTf g'55 ?_
        refine hQ _ _ (end_byG (.inl rfl) hbel (x1 := .tup [.sl none 0 (some 0), iV 2]) (l2 := [.cells false 4 []]) (.tup [.sl (some (H.length, 0)) 0 none, iV 2]) (resTf @add_nat1 Tryz.results36) [.cells false 4 []] rfl [7] (by decide) ⟨by first | (rw [htl, tlE_z (by omega)]; done) | (rw [htl, tlE_z (by omega)]; rfl) | (rw [htl, tlE_x hfu (by omega) (entR_1 (by omega)) (by omega)]; rfl) | (rw [htl, tlE_x hfu (by omega) (entR_2 (by omega) (by omega)) (by omega)]; rfl) | (rw [htl, tlE_x hfu (by omega) (entR_3 (by omega) (by omega) (by omega)) (by omega)]; rfl) | (rw [htl, tlE_x hfu (by omega) (entR_4 (by omega) (by omega) (by omega) (by omega)) (by omega)]; rfl) | (rw [htl, tlE_x hfu (by omega) (entR_5 (by omega) (by omega) (by omega) (by omega) (by rw [Bool.and_eq_false_iff]; first | exact .inl (by assumption) | exact .inr (by assumption))) (by omega)]; rfl) | (rw [htl, tlE_x hfu (by omega) (entR_6 (by omega) (by omega) (by omega) (by omega) (by rw [Bool.and_eq_true]; exact ⟨by assumption, by assumption⟩) (by rw [Bool.and_eq_false_iff]; first | exact .inl (by assumption) | exact .inr (by assumption))) (by omega)]; rfl), by first | (rw [htl, tlE_z (by omega)]; done) | (rw [htl, tlE_z (by omega)]; rfl) | (rw [htl, tlE_x hfu (by omega) (entR_1 (by omega)) (by omega)]; rfl) | (rw [htl, tlE_x hfu (by omega) (entR_2 (by omega) (by omega)) (by omega)]; rfl) | (rw [htl, tlE_x hfu (by omega) (entR_3 (by omega) (by omega) (by omega)) (by omega)]; rfl) | (rw [htl, tlE_x hfu (by omega) (entR_4 (by omega) (by omega) (by omega) (by omega)) (by omega)]; rfl) | (rw [htl, tlE_x hfu (by omega) (entR_5 (by omega) (by omega) (by omega) (by omega) (by rw [Bool.and_eq_false_iff]; first | exact .inl (by assumption) | exact .inr (by assumption))) (by omega)]; rfl) | (rw [htl, tlE_x hfu (by omega) (entR_6 (by omega) (by omega) (by omega) (by omega) (by rw [Bool.and_eq_true]; exact ⟨by assumption, by assumption⟩) (by rw [Bool.and_eq_false_iff]; first | exact .inl (by assumption) | exact .inr (by assumption))) (by omega)]; rfl)⟩ ?_)
        exact absWf @mvs_r4
      have h23n := bnT h23
      have g'56 := j2 h23 h23n g'44
      refine runTf g'56 ?_
      refine cv (bsize_c _ _ _ (by decide)) ?_
      refine rgs g'56 (fun h29 h29d g'57 => ?_) (fun h29 h29d g'64 => ?_)
      · refine runTf g'57 ?_
        refine cv (bsize_c _ _ _ (by decide)) ?_
        refine rcs g'57 (fun h30 h30d g'58 => ?_) (fun h30 h30d g'59 => ?_)
        · refine runTf g'58 ?_
          refine hQ _ _ (end_byG (.inl rfl) hbel (x1 := .tup [.sl none 0 (some 0), iV 2]) (l2 := [.cells false 4 []]) (.tup [.sl (some (H.length, 0)) 0 none, iV 2]) (resTf @add_nat1 Tryz.results36) [.cells false 4 []] rfl [7] (by decide) ⟨by first | (rw [htl, tlE_z (by omega)]; done) | (rw [htl, tlE_z (by omega)]; rfl) | (rw [htl, tlE_x hfu (by omega) (entR_1 (by omega)) (by omega)]; rfl) | (rw [htl, tlE_x hfu (by omega) (entR_2 (by omega) (by omega)) (by omega)]; rfl) | (rw [htl, tlE_x hfu (by omega) (entR_3 (by omega) (by omega) (by omega)) (by omega)]; rfl) | (rw [htl, tlE_x hfu (by omega) (entR_4 (by omega) (by omega) (by omega) (by omega)) (by omega)]; rfl) | (rw [htl, tlE_x hfu (by omega) (entR_5 (by omega) (by omega) (by omega) (by omega) (by rw [Bool.and_eq_false_iff]; first | exact .inl (by assumption) | exact .inr (by assumption))) (by omega)]; rfl) | (rw [htl, tlE_x hfu (by omega) (entR_6 (by omega) (by omega) (by omega) (by omega) (by rw [Bool.and_eq_true]; exact ⟨by assumption, by assumption⟩) (by rw [Bool.and_eq_false_iff]; first | exact .inl (by assumption) | exact .inr (by assumption))) (by omega)]; rfl), by first | (rw [htl, tlE_z (by omega)]; done) | (rw [htl, tlE_z (by omega)]; rfl) | (rw [htl, tlE_x hfu (by omega) (entR_1 (by omega)) (by omega)]; rfl) | (rw [htl, tlE_x hfu (by omega) (entR_2 (by omega) (by omega)) (by omega)]; rfl) | (rw [htl, tlE_x hfu (by omega) (entR_3 (by omega) (by omega) (by omega)) (by omega)]; rfl) | (rw [htl, tlE_x hfu (by omega) (entR_4 (by omega) (by omega) (by omega) (by omega)) (by omega)]; rfl) | (rw [htl, tlE_x hfu (by omega) (entR_5 (by omega) (by omega) (by omega) (by omega) (by rw [Bool.and_eq_false_iff]; first | exact .inl (by assumption) | exact .inr (by assumption))) (by omega)]; rfl) | (rw [htl, tlE_x hfu (by omega) (entR_6 (by omega) (by omega) (by omega) (by omega) (by rw [Bool.and_eq_true]; exact ⟨by assumption, by assumption⟩) (by rw [Bool.and_eq_false_iff]; first | exact .inl (by assumption) | exact .inr (by assumption))) (by omega)]; rfl)⟩ ?_)
          exact absWf @mvs_r4
        refine runTf g'59 ?_
        refine cv (bsize_c _ _ _ (by decide)) ?_
        refine rgs g'59 (fun h31 h31d g'60 => ?_) (fun h31 h31d g'63 => ?_)
        · refine runTf g'60 ?_
          refine cv (bsize_c _ _ _ (by decide)) ?_
          refine rcs g'60 (fun h32 h32d g'61 => ?_) (fun h32 h32d g'62 => ?_)
          · refine runTf g'61 ?_
            refine hQ _ _ (end_byG (.inl rfl) hbel (x1 := .tup [.sl none 0 (some 0), iV 1]) (l2 := [.cells false 4 []]) (.tup [.sl (some (H.length, 0)) 0 none, iV 1]) (resTf @add_nat1 Tryz.results36) [.cells false 4 []] rfl [7] (by decide) ⟨by first | (rw [htl, tlE_z (by omega)]; done) | (rw [htl, tlE_z (by omega)]; rfl) | (rw [htl, tlE_x hfu (by omega) (entR_1 (by omega)) (by omega)]; rfl) | (rw [htl, tlE_x hfu (by omega) (entR_2 (by omega) (by omega)) (by omega)]; rfl) | (rw [htl, tlE_x hfu (by omega) (entR_3 (by omega) (by omega) (by omega)) (by omega)]; rfl) | (rw [htl, tlE_x hfu (by omega) (entR_4 (by omega) (by omega) (by omega) (by omega)) (by omega)]; rfl) | (rw [htl, tlE_x hfu (by omega) (entR_5 (by omega) (by omega) (by omega) (by omega) (by rw [Bool.and_eq_false_iff]; first | exact .inl (by assumption) | exact .inr (by assumption))) (by omega)]; rfl) | (rw [htl, tlE_x hfu (by omega) (entR_6 (by omega) (by omega) (by omega) (by omega) (by rw [Bool.and_eq_true]; exact ⟨by assumption, by assumption⟩) (by rw [Bool.and_eq_false_iff]; first | exact .inl (by assumption) | exact .inr (by assumption))) (by omega)]; rfl), by first | (rw [htl, tlE_z (by omega)]; done) | (rw [htl, tlE_z (by omega)]; rfl) | (rw [htl, tlE_x hfu (by omega) (entR_1 (by omega)) (by omega)]; rfl) | (rw [htl, tlE_x hfu (by omega) (entR_2 (by omega) (by omega)) (by omega)]; rfl) | (rw [htl, tlE_x hfu (by omega) (entR_3 (by omega) (by omega) (by omega)) (by omega)]; rfl) | (rw [htl, tlE_x hfu (by omega) (entR_4 (by omega) (by omega) (by omega) (by omega)) (by omega)]; rfl) | (rw [htl, tlE_x hfu (by omega) (entR_5 (by omega) (by omega) (by omega) (by omega) (by rw [Bool.and_eq_false_iff]; first | exact .inl (by assumption) | exact .inr (by assumption))) (by omega)]; rfl) | (rw [htl, tlE_x hfu (by omega) (entR_6 (by omega) (by omega) (by omega) (by omega) (by rw [Bool.and_eq_true]; exact ⟨by assumption, by assumption⟩) (by rw [Bool.and_eq_false_iff]; first | exact .inl (by assumption) | exact .inr (by assumption))) (by omega)]; rfl)⟩ ?_)
            exact absWf @mvs_r4
          have hE := entR_7 (tx := tx) (ty := ty) (nx := nx) (b := q) (by omega) (by omega) (by omega) (by omega) (by rw [Bool.and_eq_true]; exact ⟨by assumption, by assumption⟩) (by rw [Bool.and_eq_true]; exact ⟨by assumption, by assumption⟩)
          have hlr : (rdU 0 0 q).2.1.length < q.length := rdU_len q 0 0 (rdU 0 0 q).1 (rdU 0 0 q).2.1 (by rw [← show (rdU 0 0 q).2.2 = 0 by omega])
          have hts := htl.trans (tlE_s hfu (by omega) (by rw [hE]))
          rw [hE] at hts
          have hpl := putB_len
          refine runTf g'62 ?_
          refine cvr g'62 (rput16_c _ _ ac _ _ _ _ (slA) (by omega)) ?_
          refine hJ0 _ _ ⟨(rdI (rdI (rdU 0 0 q).2.1).2.1).2.1.length, by omega, _, _, _, ⟨c0 + 1 + 1, nx + (rdU 0 0 q).1 + 1, fu - 1, (rdI (rdI (rdU 0 0 q).2.1).2.1).2.1, (putB ac ((16 * tx) + (((nx + (rdU 0 0 q).1) % 16 : Nat) : Int), (16 * ty) + (((nx + (rdU 0 0 q).1) / 16 : Nat) : Int), (rdI ((rdU 0 0 q).2.1)).1, (rdI ((rdI ((rdU 0 0 q).2.1)).2.1)).1)), by omega, (fun h => by omega), (fun h => by omega), hts, (by omega), (by omega), (by rw [putB_len]; omega), hB3, (by omega), rfl, rfl⟩, bS hbel [0, 5, 7] (absRf (jn @fl_s (jn @fqI_s (jn @owg_s (jn @fl_1 (jn @fqE_s (jn @add_nat1 (jn @r4_append (jn @r4_cons (jn @r4_nil @mvs_r4))))))))))⟩
        refine runTf g'63 ?_
        refine hQ _ _ (end_byG (.inl rfl) hbel (x1 := .tup [.sl none 0 (some 0), iV 1]) (l2 := [.cells false 4 []]) (.tup [.sl (some (H.length, 0)) 0 none, iV 1]) (resTf @add_nat1 Tryz.results36) [.cells false 4 []] rfl [7] (by decide) ⟨by first | (rw [htl, tlE_z (by omega)]; done) | (rw [htl, tlE_z (by omega)]; rfl) | (rw [htl, tlE_x hfu (by omega) (entR_1 (by omega)) (by omega)]; rfl) | (rw [htl, tlE_x hfu (by omega) (entR_2 (by omega) (by omega)) (by omega)]; rfl) | (rw [htl, tlE_x hfu (by omega) (entR_3 (by omega) (by omega) (by omega)) (by omega)]; rfl) | (rw [htl, tlE_x hfu (by omega) (entR_4 (by omega) (by omega) (by omega) (by omega)) (by omega)]; rfl) | (rw [htl, tlE_x hfu (by omega) (entR_5 (by omega) (by omega) (by omega) (by omega) (by rw [Bool.and_eq_false_iff]; first | exact .inl (by assumption) | exact .inr (by assumption))) (by omega)]; rfl) | (rw [htl, tlE_x hfu (by omega) (entR_6 (by omega) (by omega) (by omega) (by omega) (by rw [Bool.and_eq_true]; exact ⟨by assumption, by assumption⟩) (by rw [Bool.and_eq_false_iff]; first | exact .inl (by assumption) | exact .inr (by assumption))) (by omega)]; rfl), by first | (rw [htl, tlE_z (by omega)]; done) | (rw [htl, tlE_z (by omega)]; rfl) | (rw [htl, tlE_x hfu (by omega) (entR_1 (by omega)) (by omega)]; rfl) | (rw [htl, tlE_x hfu (by omega) (entR_2 (by omega) (by omega)) (by omega)]; rfl) | (rw [htl, tlE_x hfu (by omega) (entR_3 (by omega) (by omega) (by omega)) (by omega)]; rfl) | (rw [htl, tlE_x hfu (by omega) (entR_4 (by omega) (by omega) (by omega) (by omega)) (by omega)]; rfl) | (rw [htl, tlE_x hfu (by omega) (entR_5 (by omega) (by omega) (by omega) (by omega) (by rw [Bool.and_eq_false_iff]; first | exact .inl (by assumption) | exact .inr (by assumption))) (by omega)]; rfl) | (rw [htl, tlE_x hfu (by omega) (entR_6 (by omega) (by omega) (by omega) (by omega) (by rw [Bool.and_eq_true]; exact ⟨by assumption, by assumption⟩) (by rw [Bool.and_eq_false_iff]; first | exact .inl (by assumption) | exact .inr (by assumption))) (by omega)]; rfl)⟩ ?_)
        exact absWf @mvs_r4
      refine runTf g'64 ?_
      refine hQ _ _ (end_byG (.inl rfl) hbel (x1 := .tup [.sl none 0 (some 0), iV 2]) (l2 := [.cells false 4 []]) (.tup [.sl (some (H.length, 0)) 0 none, iV 2]) (resTf @add_nat1 Tryz.results36) [.cells false 4 []] rfl [7] (by decide) ⟨by first | (rw [htl, tlE_z (by omega)]; done) | (rw [htl, tlE_z (by omega)]; rfl) | (rw [htl, tlE_x hfu (by omega) (entR_1 (by omega)) (by omega)]; rfl) | (rw [htl, tlE_x hfu (by omega) (entR_2 (by omega) (by omega)) (by omega)]; rfl) | (rw [htl, tlE_x hfu (by omega) (entR_3 (by omega) (by omega) (by omega)) (by omega)]; rfl) | (rw [htl, tlE_x hfu (by omega) (entR_4 (by omega) (by omega) (by omega) (by omega)) (by omega)]; rfl) | (rw [htl, tlE_x hfu (by omega) (entR_5 (by omega) (by omega) (by omega) (by omega) (by rw [Bool.and_eq_false_iff]; first | exact .inl (by assumption) | exact .inr (by assumption))) (by omega)]; rfl) | (rw [htl, tlE_x hfu (by omega) (entR_6 (by omega) (by omega) (by omega) (by omega) (by rw [Bool.and_eq_true]; exact ⟨by assumption, by assumption⟩) (by rw [Bool.and_eq_false_iff]; first | exact .inl (by assumption) | exact .inr (by assumption))) (by omega)]; rfl), by first | (rw [htl, tlE_z (by omega)]; done) | (rw [htl, tlE_z (by omega)]; rfl) | (rw [htl, tlE_x hfu (by omega) (entR_1 (by omega)) (by omega)]; rfl) | (rw [htl, tlE_x hfu (by omega) (entR_2 (by omega) (by omega)) (by omega)]; rfl) | (rw [htl, tlE_x hfu (by omega) (entR_3 (by omega) (by omega) (by omega)) (by omega)]; rfl) | (rw [htl, tlE_x hfu (by omega) (entR_4 (by omega) (by omega) (by omega) (by omega)) (by omega)]; rfl) | (rw [htl, tlE_x hfu (by omega) (entR_5 (by omega) (by omega) (by omega) (by omega) (by rw [Bool.and_eq_false_iff]; first | exact .inl (by assumption) | exact .inr (by assumption))) (by omega)]; rfl) | (rw [htl, tlE_x hfu (by omega) (entR_6 (by omega) (by omega) (by omega) (by omega) (by rw [Bool.and_eq_true]; exact ⟨by assumption, by assumption⟩) (by rw [Bool.and_eq_false_iff]; first | exact .inl (by assumption) | exact .inr (by assumption))) (by omega)]; rfl)⟩ ?_)
      exact absWf @mvs_r4
    refine runTf g'65 ?_
    refine hQ _ _ (end_byG (.inl rfl) hbel (x1 := .tup [.sl none 0 (some 0), iV 3]) (l2 := [.cells false 4 []]) (.tup [.sl (some (H.length, 0)) 0 none, iV 3]) (resTf @add_nat1 Tryz.results36) [.cells false 4 []] rfl [6] (by decide) ⟨by first | (rw [htl, tlE_z (by omega)]; done) | (rw [htl, tlE_z (by omega)]; rfl) | (rw [htl, tlE_x hfu (by omega) (entR_1 (by omega)) (by omega)]; rfl) | (rw [htl, tlE_x hfu (by omega) (entR_2 (by omega) (by omega)) (by omega)]; rfl) | (rw [htl, tlE_x hfu (by omega) (entR_3 (by omega) (by omega) (by omega)) (by omega)]; rfl) | (rw [htl, tlE_x hfu (by omega) (entR_4 (by omega) (by omega) (by omega) (by omega)) (by omega)]; rfl) | (rw [htl, tlE_x hfu (by omega) (entR_5 (by omega) (by omega) (by omega) (by omega) (by rw [Bool.and_eq_false_iff]; first | exact .inl (by assumption) | exact .inr (by assumption))) (by omega)]; rfl) | (rw [htl, tlE_x hfu (by omega) (entR_6 (by omega) (by omega) (by omega) (by omega) (by rw [Bool.and_eq_true]; exact ⟨by assumption, by assumption⟩) (by rw [Bool.and_eq_false_iff]; first | exact .inl (by assumption) | exact .inr (by assumption))) (by omega)]; rfl), by first | (rw [htl, tlE_z (by omega)]; done) | (rw [htl, tlE_z (by omega)]; rfl) | (rw [htl, tlE_x hfu (by omega) (entR_1 (by omega)) (by omega)]; rfl) | (rw [htl, tlE_x hfu (by omega) (entR_2 (by omega) (by omega)) (by omega)]; rfl) | (rw [htl, tlE_x hfu (by omega) (entR_3 (by omega) (by omega) (by omega)) (by omega)]; rfl) | (rw [htl, tlE_x hfu (by omega) (entR_4 (by omega) (by omega) (by omega) (by omega)) (by omega)]; rfl) | (rw [htl, tlE_x hfu (by omega) (entR_5 (by omega) (by omega) (by omega) (by omega) (by rw [Bool.and_eq_false_iff]; first | exact .inl (by assumption) | exact .inr (by assumption))) (by omega)]; rfl) | (rw [htl, tlE_x hfu (by omega) (entR_6 (by omega) (by omega) (by omega) (by omega) (by rw [Bool.and_eq_true]; exact ⟨by assumption, by assumption⟩) (by rw [Bool.and_eq_false_iff]; first | exact .inl (by assumption) | exact .inr (by assumption))) (by omega)]; rfl)⟩ ?_)
    exact absWf @mvs_r4
  refine runTf g'66 ?_
  refine hQ _ _ (end_byG (.inl rfl) hbel (x1 := .tup [.sl (some (H.length + 2, 0)) ac.length none, iV 0]) (l2 := [.cells (ownG ac.length) 4 (r4 ac)]) (.tup [.sl (some (H.length, 0)) ac.length none, iV 0]) (resTf @add_nat1 Tryz.results36) [] rfl [2] (by decide) ⟨by first | (rw [htl, tlE_z (by omega)]; done) | (rw [htl, tlE_z (by omega)]; rfl) | (rw [htl, tlE_x hfu (by omega) (entR_1 (by omega)) (by omega)]; rfl) | (rw [htl, tlE_x hfu (by omega) (entR_2 (by omega) (by omega)) (by omega)]; rfl) | (rw [htl, tlE_x hfu (by omega) (entR_3 (by omega) (by omega) (by omega)) (by omega)]; rfl) | (rw [htl, tlE_x hfu (by omega) (entR_4 (by omega) (by omega) (by omega) (by omega)) (by omega)]; rfl) | (rw [htl, tlE_x hfu (by omega) (entR_5 (by omega) (by omega) (by omega) (by omega) (by rw [Bool.and_eq_false_iff]; first | exact .inl (by assumption) | exact .inr (by assumption))) (by omega)]; rfl) | (rw [htl, tlE_x hfu (by omega) (entR_6 (by omega) (by omega) (by omega) (by omega) (by rw [Bool.and_eq_true]; exact ⟨by assumption, by assumption⟩) (by rw [Bool.and_eq_false_iff]; first | exact .inl (by assumption) | exact .inr (by assumption))) (by omega)]; rfl), by first | (rw [htl, tlE_z (by omega)]; done) | (rw [htl, tlE_z (by omega)]; rfl) | (rw [htl, tlE_x hfu (by omega) (entR_1 (by omega)) (by omega)]; rfl) | (rw [htl, tlE_x hfu (by omega) (entR_2 (by omega) (by omega)) (by omega)]; rfl) | (rw [htl, tlE_x hfu (by omega) (entR_3 (by omega) (by omega) (by omega)) (by omega)]; rfl) | (rw [htl, tlE_x hfu (by omega) (entR_4 (by omega) (by omega) (by omega) (by omega)) (by omega)]; rfl) | (rw [htl, tlE_x hfu (by omega) (entR_5 (by omega) (by omega) (by omega) (by omega) (by rw [Bool.and_eq_false_iff]; first | exact .inl (by assumption) | exact .inr (by assumption))) (by omega)]; rfl) | (rw [htl, tlE_x hfu (by omega) (entR_6 (by omega) (by omega) (by omega) (by omega) (by rw [Bool.and_eq_true]; exact ⟨by assumption, by assumption⟩) (by rw [Bool.and_eq_false_iff]; first | exact .inl (by assumption) | exact .inr (by assumption))) (by omega)]; rfl)⟩ ?_)
  exact absWf @mvs_r4
theorem tlE_len {tx ty : Int} : ∀ (fu nx : Nat) (q : List Int) (ac : List T4), nx ≤ 256 → (tlE putB tx ty fu nx q ac).1.length ≤ ac.length + (256 - nx)
  | 0, nx, q, ac, h => by show ac.length ≤ _; omega
  | fu + 1, nx, q, ac, h => by
    unfold tlE
    split
    · show ac.length ≤ _; omega
    split
    · simp
    rename_i h1 h2
    obtain ⟨n, hn1, hn2, hn3, -⟩ := entR_ok (Decidable.not_not.1 h2)
    have ih := tlE_len (tx := tx) (ty := ty) fu (entR tx ty nx q).2.1 (entR tx ty nx q).2.2.1 (putB ac (entR tx ty nx q).1) (by omega)
    rw [putB_len] at ih
    omega
theorem rupk_c (H : AHeap) (s : AV) (l : List Tl) (hs : Sl H 3 s l.length (tlR l)) (hl : l.length ≤ 1000) (hok : tlOk H l) : ACalls Tryz.prog 17 [s] H (fun v H' => v = .tup [.sl (some (H.length, 0)) (((runR l).1).length) none, iV ((runR l).2)] ∧ H' = H ++ [.cells (ownG ((runR l).1).length) 4 (r4 ((runR l).1))]) := by
  obtain ⟨bs, os, cs, rfl, hbs⟩ := hs
  have hbls := getElem?_lt hbs
  have hb0s := fun l => get_app (l := l) hbs
  refine AcT false Tryz.func17 ?_; intro hbel Q hQ
  have g'1 := (jn @hbs @hb0s)
  refine runTf g'1 ?_
  refine glp (fun k F Hx => ∃ i : Nat, ∃ acc : List T4, i + k = l.length ∧ unpF putB none l [] = unpF putB (pvT l i) (l.drop i) acc ∧ acc.length ≤ 256 * i ∧ F = [(0, .sl (some (bs, 0)) l.length cs), (4, .sl (some (H.length, 0)) acc.length none), (5, iV ((i : Nat) : Int))] ∧ Hx = H ++ [.cells (ownG acc.length) 4 (r4 acc)]) (l.length) ?_ ?_
  · refine ⟨_, _, _, ⟨0, [], by omega, rfl, Nat.le_refl _, rfl, rfl⟩, Abs.byE hbel [.cells false 4 []] rfl [0] (by decide) ?_⟩
    exact absRf (jn @r4_append (jn @r4_cons (jn @r4_nil @mvs_r4)))
  rintro k0 F Hx ⟨i, acc, hm0, hun, hac, rfl, rfl⟩ J0 hJ0
  have g'2 := (jn @r4_len (jn @r4_one g'1))
  refine rcs g'2 (fun h1 h1d g'3 => ?_) (fun h1 h1d g'24 => ?_)
  · have hlt : i < l.length := by omega
    obtain ⟨bq, oq, cq, hsq, hbq⟩ := hok.at hlt
    have hblq := getElem?_lt hbq
    have hb0q := fun l' => get_app (l := l') hbq
    have hdl := (hok _ (tlG_mem hlt)).2.1
    have hdB := (hok _ (tlG_mem hlt)).2.2
    refine rgs g'3 (fun h2 h2d _ => ?_) (fun h2 h2d _ => ?_)
    · have hsfj : ((((i : Nat) : Int) - 1).toNat : Nat) < l.length := by omega
      have q3 := tlR_at0 (l := l) (j := (((i : Nat) : Int) - 1).toNat) (by omega)
      have q4 := tlR_at1 (l := l) (j := (((i : Nat) : Int) - 1).toNat) (by omega)
      have q5 := tlR_at0 (l := l) (j := i) (by omega)
      have q6 := tlR_at1 (l := l) (j := i) (by omega)
      have g'4 := (jn h2 (jn h2d (jn @hsfj (jn @tlR_len (jn q3 (jn q4 (jn q5 (jn q6 g'3))))))))
      refine runTf g'4 ?_
      refine cd (bbef_c _ _ _ _ _) ?_
      refine rgs g'4 (fun h7 h7d _ => ?_) (fun h7 h7d g'14 => ?_)
      · have hpo : okP l i := fun k hk => by
          obtain rfl : k = (((i : Nat) : Int) - 1).toNat := by omega
          have q := h7d; rw [befB_iff, decide_eq_true_eq] at q; exact q
        have q8 := tlR_at0 (l := l) (j := i) (by omega)
        have g'5 := (jn h7 (jn h7d (jn q8 g'4)))
        refine runTf g'5 ?_
        refine cd (bsize_c _ _ _ (by decide)) ?_
        refine rgs g'5 (fun h9 h9d _ => ?_) (fun h9 h9d g'13 => ?_)
        · have hwx := within_iff.1 h9d
          have hwxb := h9d
          have q10 := tlR_at1 (l := l) (j := i) (by omega)
          have g'6 := (jn h9 (jn h9d (jn q10 g'5)))
          refine runTf g'6 ?_
          refine cd (bsize_c _ _ _ (by decide)) ?_
          refine rcs g'6 (fun h11 h11d g'7 => ?_) (fun h11 h11d _ => ?_)
          · have hfin := unp_1 hun hlt (okT_3 h11d)
            refine runTf g'7 ?_
            refine hQ _ _ (end_byG (.inl rfl) hbel (x1 := .tup [.sl none 0 (some 0), iV 1]) (l2 := [.cells false 4 []]) (.tup [.sl (some (H.length, 0)) 0 none, iV 1]) (resT Tryz.results17) [.cells false 4 []] rfl [1] (by decide) ⟨by first | (unfold runR; rw [hfin]; done) | (unfold runR; rw [hfin]; rfl), by first | (unfold runR; rw [hfin]; done) | (unfold runR; rw [hfin]; rfl)⟩ ?_)
            exact absWf @mvs_r4
          have hwy := within_iff.1 h11d
          have hok2 := okT_4 hpo hwxb h11d
          have q12 := tlR_at2 (l := l) (j := i) (by omega) hsq
          have g'8 := (jn h11 (jn h11d (jn q12 g'6)))
          refine rcs g'8 (fun h13 h13d _ => ?_) (fun h13 h13d _ => ?_)
          · have h13n := bnT h13
            have hfin := unp_3 hun hlt hok2 (List.eq_nil_of_length_eq_zero (by omega))
            have g'9 := (jn h13 (jn h13n (jn @int_bne (jn @int_beq g'8))))
            refine runTf g'9 ?_
            refine hQ _ _ (end_byG (.inl rfl) hbel (x1 := .tup [.sl none 0 (some 0), iV 3]) (l2 := [.cells false 4 []]) (.tup [.sl (some (H.length, 0)) 0 none, iV 3]) (resT Tryz.results17) [.cells false 4 []] rfl [1] (by decide) ⟨by first | (unfold runR; rw [hfin]; done) | (unfold runR; rw [hfin]; rfl), by first | (unfold runR; rw [hfin]; done) | (unfold runR; rw [hfin]; rfl)⟩ ?_)
            exact absWf @mvs_r4
          have h13n := bnT h13
          have hdn : (tlG l i).d ≠ [] := fun e => by rw [e] at h13d; exact h13d rfl
          have hdp : 0 < (tlG l i).d.length := by omega
          have q14 := tlR_p (l := l) (j := i) (by omega) hsq
          have g'10 := (jn h13 (jn h13n (jn @int_bne (jn @int_beq (jn q14 g'8)))))
          refine runTf g'10 ?_
          refine cv (rentries_c _ _ acc _ _ _ ((tlG l i).d) (slA) (⟨_, _, _, rfl, by first | exact hb0q _ | exact hbq⟩) (by omega) hdB (by omega) (by omega) (by omega) (by omega)) ?_
          refine rcs g'10 (fun h15 h15d _ => ?_) (fun h15 h15d _ => ?_)
          · have h15n := bnT h15
            have hfin := unp_e hun hlt hok2 hdn rfl h15d
            have g'11 := j2 h15 h15n g'10
            refine runTf g'11 ?_
            refine hQ _ _ (end_byG (.inl rfl) hbel (x1 := .tup [.sl none 0 (some 0), iV ((tlE putB ((tlG l i).x) ((tlG l i).y) ((tlG l i).d).length 0 ((tlG l i).d) acc).2)]) (l2 := [.cells false 4 []]) (.tup [.sl (some (H.length, 0)) 0 none, iV ((tlE putB ((tlG l i).x) ((tlG l i).y) ((tlG l i).d).length 0 ((tlG l i).d) acc).2)]) (resT Tryz.results17) [.cells false 4 []] rfl [2] (by decide) ⟨by first | (unfold runR; rw [hfin]; done) | (unfold runR; rw [hfin]; rfl), by first | (unfold runR; rw [hfin]; done) | (unfold runR; rw [hfin]; rfl)⟩ ?_)
            exact absWf @mvs_r4
          have h15n := bnT h15
          have hus := unp_s hun hlt hok2 hdn rfl h15d
          have htl := tlE_len (tx := (tlG l i).x) (ty := (tlG l i).y) (tlG l i).d.length 0 (tlG l i).d acc (by omega)
          have g'12 := j2 h15 h15n g'10
          refine runTf g'12 ?_
          refine hJ0 _ _ ⟨k0 - 1, by omega, _, _, _, ⟨i + 1, (tlE putB (tlG l i).x (tlG l i).y (tlG l i).d.length 0 (tlG l i).d acc).1, by omega, hus, (by omega), rfl, rfl⟩, bS hbel [1] (absRf (jn @r4_append (jn @r4_cons (jn @r4_nil @mvs_r4))))⟩
        have hfin := unp_1 hun hlt (okT_2 h9d)
        refine runTf g'13 ?_
        refine hQ _ _ (end_byG (.inl rfl) hbel (x1 := .tup [.sl none 0 (some 0), iV 1]) (l2 := [.cells false 4 []]) (.tup [.sl (some (H.length, 0)) 0 none, iV 1]) (resT Tryz.results17) [.cells false 4 []] rfl [1] (by decide) ⟨by first | (unfold runR; rw [hfin]; done) | (unfold runR; rw [hfin]; rfl), by first | (unfold runR; rw [hfin]; done) | (unfold runR; rw [hfin]; rfl)⟩ ?_)
        exact absWf @mvs_r4
      have hfin := unp_1 hun hlt (okT_1' (j := (((i : Nat) : Int) - 1).toNat) (by omega) (by have q := h7d; rw [befB_iff, decide_eq_false_iff_not] at q; exact q))
      refine runTf g'14 ?_
      refine hQ _ _ (end_byG (.inl rfl) hbel (x1 := .tup [.sl none 0 (some 0), iV 1]) (l2 := [.cells false 4 []]) (.tup [.sl (some (H.length, 0)) 0 none, iV 1]) (resT Tryz.results17) [.cells false 4 []] rfl [1] (by decide) ⟨by first | (unfold runR; rw [hfin]; done) | (unfold runR; rw [hfin]; rfl), by first | (unfold runR; rw [hfin]; done) | (unfold runR; rw [hfin]; rfl)⟩ ?_)
      exact absWf @mvs_r4
    have hpo : okP l i := fun j hj => by omega
    have q16 := tlR_at0 (l := l) (j := i) (by omega)
    have g'15 := (jn h2 (jn h2d (jn @tlR_len (jn q16 g'3))))
    refine runTf g'15 ?_
    refine cd (bsize_c _ _ _ (by decide)) ?_
    refine rgs g'15 (fun h17 h17d _ => ?_) (fun h17 h17d g'23 => ?_)
    · have hwx := within_iff.1 h17d
      have hwxb := h17d
      have q18 := tlR_at1 (l := l) (j := i) (by omega)
      have g'16 := (jn h17 (jn h17d (jn q18 g'15)))
      refine runTf g'16 ?_
      refine cd (bsize_c _ _ _ (by decide)) ?_
      refine rcs g'16 (fun h19 h19d g'17 => ?_) (fun h19 h19d _ => ?_)
      · have hfin := unp_1 hun hlt (okT_3 h19d)
        refine runTf g'17 ?_
        refine hQ _ _ (end_byG (.inl rfl) hbel (x1 := .tup [.sl none 0 (some 0), iV 1]) (l2 := [.cells false 4 []]) (.tup [.sl (some (H.length, 0)) 0 none, iV 1]) (resT Tryz.results17) [.cells false 4 []] rfl [1] (by decide) ⟨by first | (unfold runR; rw [hfin]; done) | (unfold runR; rw [hfin]; rfl), by first | (unfold runR; rw [hfin]; done) | (unfold runR; rw [hfin]; rfl)⟩ ?_)
        exact absWf @mvs_r4
      have hwy := within_iff.1 h19d
      have hok2 := okT_4 hpo hwxb h19d
      have q20 := tlR_at2 (l := l) (j := i) (by omega) hsq
      have g'18 := (jn h19 (jn h19d (jn q20 g'16)))
      refine rcs g'18 (fun h21 h21d _ => ?_) (fun h21 h21d _ => ?_)
      · have h21n := bnT h21
        have hfin := unp_3 hun hlt hok2 (List.eq_nil_of_length_eq_zero (by omega))
        have g'19 := (jn h21 (jn h21n (jn @int_bne (jn @int_beq g'18))))
        refine runTf g'19 ?_
        refine hQ _ _ (end_byG (.inl rfl) hbel (x1 := .tup [.sl none 0 (some 0), iV 3]) (l2 := [.cells false 4 []]) (.tup [.sl (some (H.length, 0)) 0 none, iV 3]) (resT Tryz.results17) [.cells false 4 []] rfl [1] (by decide) ⟨by first | (unfold runR; rw [hfin]; done) | (unfold runR; rw [hfin]; rfl), by first | (unfold runR; rw [hfin]; done) | (unfold runR; rw [hfin]; rfl)⟩ ?_)
        exact absWf @mvs_r4
      have h21n := bnT h21
      have hdn : (tlG l i).d ≠ [] := fun e => by rw [e] at h21d; exact h21d rfl
      have hdp : 0 < (tlG l i).d.length := by omega
      have q22 := tlR_p (l := l) (j := i) (by omega) hsq
      have g'20 := (jn h21 (jn h21n (jn @int_bne (jn @int_beq (jn q22 g'18)))))
      refine runTf g'20 ?_
      refine cv (rentries_c _ _ acc _ _ _ ((tlG l i).d) (slA) (⟨_, _, _, rfl, by first | exact hb0q _ | exact hbq⟩) (by omega) hdB (by omega) (by omega) (by omega) (by omega)) ?_
      refine rcs g'20 (fun h23 h23d _ => ?_) (fun h23 h23d _ => ?_)
      · have h23n := bnT h23
        have hfin := unp_e hun hlt hok2 hdn rfl h23d
        have g'21 := j2 h23 h23n g'20
        refine runTf g'21 ?_
        refine hQ _ _ (end_byG (.inl rfl) hbel (x1 := .tup [.sl none 0 (some 0), iV ((tlE putB ((tlG l i).x) ((tlG l i).y) ((tlG l i).d).length 0 ((tlG l i).d) acc).2)]) (l2 := [.cells false 4 []]) (.tup [.sl (some (H.length, 0)) 0 none, iV ((tlE putB ((tlG l i).x) ((tlG l i).y) ((tlG l i).d).length 0 ((tlG l i).d) acc).2)]) (resT Tryz.results17) [.cells false 4 []] rfl [2] (by decide) ⟨by first | (unfold runR; rw [hfin]; done) | (unfold runR; rw [hfin]; rfl), by first | (unfold runR; rw [hfin]; done) | (unfold runR; rw [hfin]; rfl)⟩ ?_)
        exact absWf @mvs_r4
      have h23n := bnT h23
      have hus := unp_s hun hlt hok2 hdn rfl h23d
      have htl := tlE_len (tx := (tlG l i).x) (ty := (tlG l i).y) (tlG l i).d.length 0 (tlG l i).d acc (by omega)
      have g'22 := j2 h23 h23n g'20
      refine runTf g'22 ?_
      refine hJ0 _ _ ⟨k0 - 1, by omega, _, _, _, ⟨i + 1, (tlE putB (tlG l i).x (tlG l i).y (tlG l i).d.length 0 (tlG l i).d acc).1, by omega, hus, (by omega), rfl, rfl⟩, bS hbel [1] (absRf (jn @r4_append (jn @r4_cons (jn @r4_nil @mvs_r4))))⟩
    have hfin := unp_1 hun hlt (okT_2 h17d)
    refine runTf g'23 ?_
    refine hQ _ _ (end_byG (.inl rfl) hbel (x1 := .tup [.sl none 0 (some 0), iV 1]) (l2 := [.cells false 4 []]) (.tup [.sl (some (H.length, 0)) 0 none, iV 1]) (resT Tryz.results17) [.cells false 4 []] rfl [1] (by decide) ⟨by first | (unfold runR; rw [hfin]; done) | (unfold runR; rw [hfin]; rfl), by first | (unfold runR; rw [hfin]; done) | (unfold runR; rw [hfin]; rfl)⟩ ?_)
    exact absWf @mvs_r4
  have hdz : l.drop i = [] := List.drop_of_length_le (by omega)
  have hfin : unpF putB none l [] = (acc, 0) := by rw [hun, hdz]; rfl
  refine runTf g'24 ?_
  refine hQ _ _ (end_byG (.inl rfl) hbel (x1 := .tup [.sl (some (H.length, 0)) acc.length none, iV 0]) (l2 := [.cells (ownG acc.length) 4 (r4 acc)]) (.tup [.sl (some (H.length, 0)) acc.length none, iV 0]) (resT Tryz.results17) [] rfl [0] (by decide) ⟨by first | (unfold runR; rw [hfin]; done) | (unfold runR; rw [hfin]; rfl), by first | (unfold runR; rw [hfin]; done) | (unfold runR; rw [hfin]; rfl)⟩ ?_)
  exact absWf @mvs_r4
theorem tlOk.app {H : AHeap} {l : List Tl} (h : tlOk H l) (L : AHeap) : tlOk (H ++ L) l := fun e he => ⟨(h e he).1.app L, (h e he).2⟩
/-- The entry of a cell, of what has been unpacked. -/
def getR (r : List T4 × Int) (x y : Int) : T4 × Int := if r.2 = 0 then (atE r.1 x y, 0) else ((0, 0, 0, 0), r.2)
theorem tget_c (H : AHeap) (s : AV) (l : List Tl) (x y : Int) (hs : Sl H 3 s l.length (tlR l)) (hl : l.length ≤ 1000) (hok : tlOk H l) : ACalls Tryz.prog 11 [s, .agg [iV x, iV y]] H (fun v H' => v = .tup [.agg [iV (((getR (unpR l) x y).1).1), iV (((getR (unpR l) x y).1).2.1), iV (((getR (unpR l) x y).1).2.2.1), iV (((getR (unpR l) x y).1).2.2.2)], iV ((getR (unpR l) x y).2)] ∧ H' = H) := by
  obtain ⟨bs, os, cs, rfl, hbs⟩ := hs
  have hbls := getElem?_lt hbs
  have hb0s := fun l => get_app (l := l) hbs
  have hvu := unp_vld (ts := l) (by omega)
  have hvv := vldE_iff.2 hvu.1
  have hlu := hvu.2
  refine AcT true Tryz.func11 ?_; intro hbel Q hQ
  have g'1 := (jn @hbs @hb0s)
  refine runTf g'1 ?_
  refine cv (unpack_c _ _ l (⟨_, _, _, rfl, by first | exact hb0s _ | exact hbs⟩) (by omega) (by first | assumption | exact tlOk.app (by assumption) _)) ?_
  refine rcs g'1 (fun h1 h1d _ => ?_) (fun h1 h1d _ => ?_)
  · have h1n := bnT h1
    have hfin : getR (unpR l) x y = ((0, 0, 0, 0), (unpR l).2) := by unfold getR; rw [if_neg h1d]
    have g'2 := (jn h1 (jn h1n (jn @int_bne (jn @int_beq g'1))))
    exact eR g'2 hQ hbel (.tup [.agg [iV 0, iV 0, iV 0, iV 0], iV ((unpR l).2)]) Tryz.results11 ⟨by rw [hfin], rfl⟩
  have h1n := bnT h1
  have hfin : getR (unpR l) x y = (atE (unpR l).1 x y, 0) := by unfold getR; rw [if_pos h1d]
  have g'3 := (jn h1 (jn h1n (jn @int_bne (jn @int_beq g'1))))
  refine runTf g'3 ?_
  refine cvr g'3 (eat_c _ _ ((unpR l).1) x y (slA) (by omega) (by assumption)) ?_
  exact eP hQ hbel (.tup [.agg [iV ((atE ((unpR l).1) x y).1), iV ((atE ((unpR l).1) x y).2.1), iV ((atE ((unpR l).1) x y).2.2.1), iV ((atE ((unpR l).1) x y).2.2.2)], iV 0]) Tryz.results11 ⟨by rw [hfin], rfl⟩
/-- What Merge gives, by its Unpack. -/
def merX (un : List Tl → List T4 × Int) (ad : List T4 → List T4 → List T4 × Int) (a b : List Tl) : List (Int × Int × List Int) × Int :=
  if (un a).2 ≠ 0 then ([], (un a).2) else if (un b).2 ≠ 0 then ([], (un b).2) else if (ad (un a).1 (un b).1).2 ≠ 0 then ([], (ad (un a).1 (un b).1).2) else (packL (ad (un a).1 (un b).1).1, 0)
theorem hbel_r4 {H : AHeap} {l : List T4} {o : Bool} (h : HBel H.length H) : HBel (H ++ [ABlk.cells o 4 (r4 l)]).length (H ++ [ABlk.cells o 4 (r4 l)]) :=
  (h.up (by simp)).app (fun x hx => by rw [List.mem_singleton.1 hx]; exact bels_r4)
theorem hbel_r42 {H : AHeap} {l m : List T4} {o p : Bool} (h : HBel H.length H) : HBel (H ++ [ABlk.cells o 4 (r4 l), ABlk.cells p 4 (r4 m)]).length (H ++ [ABlk.cells o 4 (r4 l), ABlk.cells p 4 (r4 m)]) := by
  have := hbel_r4 (l := m) (o := p) (hbel_r4 (l := l) (o := o) h)
  rwa [List.append_assoc] at this
theorem hbel_r43 {H : AHeap} {l m k : List T4} {o p q : Bool} (h : HBel H.length H) : HBel (H ++ [ABlk.cells o 4 (r4 l), ABlk.cells p 4 (r4 m), ABlk.cells q 4 (r4 k)]).length (H ++ [ABlk.cells o 4 (r4 l), ABlk.cells p 4 (r4 m), ABlk.cells q 4 (r4 k)]) := by
  have := hbel_r4 (l := k) (o := q) (hbel_r42 (l := l) (o := o) (m := m) (p := p) h)
  rwa [List.append_assoc] at this
theorem tmrg_c (H : AHeap) (s : AV) (a : List Tl) (r : AV) (b : List Tl) (hs : Sl H 3 s a.length (tlR a)) (hr : Sl H 3 r b.length (tlR b)) (hl : a.length ≤ 1000) (hl2 : b.length ≤ 1000) (hok : tlOk H a) (hok2 : tlOk H b) (hla : (unpR a).1.length ≤ 30000) (hlb : (unpR b).1.length ≤ 30000) : ACalls Tryz.prog 6 [s, r] H (fun v H' => ∃ w, v = .tup [w, .int .i64 (merX unpR comR a b).2] ∧ TAt H (merX unpR comR a b).1 w H') := by
  obtain ⟨bs, os, cs, rfl, hbs⟩ := hs
  obtain ⟨br, or, cr, rfl, hbr⟩ := hr
  have hbls := getElem?_lt hbs
  have hb0s := fun l => get_app (l := l) hbs
  have hblr := getElem?_lt hbr
  have hb0r := fun l => get_app (l := l) hbr
  have hva := unp_vld (ts := a) (by omega)
  have hvb := unp_vld (ts := b) (by omega)
  refine AcT true Tryz.func6 ?_; intro hbel Q hQ
  have g'1 := (jn @hbs (jn @hb0s (jn @hbr @hb0r)))
  refine runTf g'1 ?_
  refine cv (unpack_c _ _ a (⟨_, _, _, rfl, by first | exact hb0s _ | exact hbs⟩) (by omega) (by first | assumption | exact tlOk.app (by assumption) _)) ?_
  refine rcs g'1 (fun h1 h1d _ => ?_) (fun h1 h1d _ => ?_)
  · have h1n := bnT h1
    have g'2 := (jn h1 (jn h1n (jn @int_bne (jn @int_beq g'1))))
    refine runTf g'2 ?_
    exact hQ _ _ (end_tnil rfl (hbel_r4 hbel) [.int .i64 (unpR a).2] rfl (resT Tryz.results6) fun w H' hT => ⟨w, by rw [merX, if_pos h1d], by rw [merX, if_pos h1d]; exact hT⟩)
  have h1n := bnT h1
  have g'3 := (jn h1 (jn h1n (jn @int_bne (jn @int_beq g'1))))
  refine runTf g'3 ?_
  refine cv (unpack_c _ _ b (⟨_, _, _, rfl, by first | exact hb0r _ | exact hbr⟩) (by omega) (by first | assumption | exact tlOk.app (by assumption) _)) ?_
  refine rcs g'3 (fun h2 h2d _ => ?_) (fun h2 h2d _ => ?_)
  · have h2n := bnT h2
    have g'4 := j2 h2 h2n g'3
    refine runTf g'4 ?_
    exact hQ _ _ (end_tnil rfl (hbel_r42 hbel) [.int .i64 (unpR b).2] rfl (resT Tryz.results6) fun w H' hT => ⟨w, by rw [merX, if_neg (not_not_intro h1d), if_pos h2d], by rw [merX, if_neg (not_not_intro h1d), if_pos h2d]; exact hT⟩)
  have h2n := bnT h2
  have g'5 := j2 h2 h2n g'3
  refine runTf g'5 ?_
  refine cv (eadd_c _ _ (unpR a).1 _ (unpR b).1 (slA) (slA) (by omega) (by omega)) ?_
  refine rcs g'5 (fun h3 h3d _ => ?_) (fun h3 h3d _ => ?_)
  · have h3n := bnT h3
    have g'6 := j2 h3 h3n g'5
    refine runTf g'6 ?_
    exact hQ _ _ (end_tnil rfl (hbel_r43 hbel) [.int .i64 (comR (unpR a).1 (unpR b).1).2] rfl (resT Tryz.results6) fun w H' hT => ⟨w, by rw [merX, if_neg (not_not_intro h1d), if_neg (not_not_intro h2d), if_pos h3d], by rw [merX, if_neg (not_not_intro h1d), if_neg (not_not_intro h2d), if_pos h3d]; exact hT⟩)
  have h3n := bnT h3
  have hvc := com_vld (a := (unpR a).1) (b := (unpR b).1) (by omega) h3d
  have hlc := hvc.2
  have g'7 := j2 h3 h3n g'5
  refine runTf g'7 ?_
  refine call_of (by kernel_rfl) (pack_c _ _ (comR (unpR a).1 (unpR b).1).1 (slA) (by omega) (vldE_iff.2 hvc.1)) ?_
  intro w H' hT
  refine runTf g'7 ?_
  exact hQ _ _ (end_tat (TAt.up hT) [.int .i64 0] rfl (resT Tryz.results6) ⟨w, by rw [merX, if_neg (not_not_intro h1d), if_neg (not_not_intro h2d), if_neg (not_not_intro h3d)], by rw [merX, if_neg (not_not_intro h1d), if_neg (not_not_intro h2d), if_neg (not_not_intro h3d)]; exact TAt.up hT⟩)
def bys (xs : List Int) : List UInt8 := xs.map fun n => UInt8.ofNat n.toNat
theorem bys_map : ∀ xs : List Int, (ints .u8 xs).mapM byteOf = some (bys xs)
  | [] => rfl
  | x :: xs => by
    have ih := bys_map xs
    show (AV.int .u8 x :: ints .u8 xs).mapM byteOf = _
    rw [List.mapM_cons, ih]
    rfl
theorem need_pos {p : Prop} [Decidable p] (h : p) : need p = some () := by unfold need; rw [if_pos h]
theorem ints_all0 {k : IntKind} {l : List Int} : (ints k l).take (l.length * 1) = ints k l := List.take_of_length_le (by rw [ints_len]; omega)
/-- A slice of bytes, as a text. -/
theorem conv_bytes {H : AHeap} {b : Nat} {o : Bool} {c : Option Nat} {xs : List Int} (hb : H[b]? = some (.cells o 1 (ints .u8 xs))) : aConv Tryz.prog 40 9 (.sl (some (b, 0)) xs.length c) H = some (.str (bys xs)) := by
  have h1 := bys_map xs
  have he : aElems 1 (.sl (some (b, 0)) xs.length c) H = some (xs.length, ints .u8 xs) := by
    unfold aElems ards
    simp only [hb]
    rw [List.drop_zero, ints_all0, if_pos (by rw [ints_len]; omega)]
    rfl
  unfold aConv
  simp only [tElem40, Option.bind_some]
  rw [need_pos ⟨tInt5, by kernel_rfl⟩, Option.bind_some, he, Option.bind_some]
  simp only [h1, Option.map_some]
theorem bys_eq : ∀ {xs ys : List Int}, (∀ c ∈ xs, 0 ≤ c ∧ c ≤ 255) → (∀ c ∈ ys, 0 ≤ c ∧ c ≤ 255) → ((bys xs == bys ys) = decide (xs = ys)) := by
  intro xs ys hx hy
  have key : ∀ {xs ys : List Int}, (∀ c ∈ xs, 0 ≤ c ∧ c ≤ 255) → (∀ c ∈ ys, 0 ≤ c ∧ c ≤ 255) → bys xs = bys ys → xs = ys := by
    intro xs
    induction xs with
    | nil => intro ys _ _ h; cases ys with
      | nil => rfl
      | cons y ys => simp [bys] at h
    | cons x xs ih =>
      intro ys hx hy h
      cases ys with
      | nil => simp [bys] at h
      | cons y ys =>
        unfold bys at h
        rw [List.map_cons, List.map_cons, List.cons.injEq] at h
        have hx0 := hx x (List.mem_cons_self ..)
        have hy0 := hy y (List.mem_cons_self ..)
        have e := congrArg UInt8.toNat h.1
        rw [UInt8.toNat_ofNat', UInt8.toNat_ofNat'] at e
        have e2 : x = y := by omega
        rw [e2, ih (fun c hc => hx c (List.mem_cons_of_mem _ hc)) (fun c hc => hy c (List.mem_cons_of_mem _ hc)) h.2]
  rw [Bool.eq_iff_iff, beq_iff_eq, decide_eq_true_eq]
  exact ⟨key hx hy, fun h => by rw [h]⟩
set_option maxRecDepth 100000 in
theorem bytes2_c (H : AHeap) (s r : AV) (xs ys : List Int) (hs : Sl H 1 s xs.length (ints .u8 xs)) (hr : Sl H 1 r ys.length (ints .u8 ys)) (hx : ∀ c ∈ xs, 0 ≤ c ∧ c ≤ 255) (hy : ∀ c ∈ ys, 0 ≤ c ∧ c ≤ 255) : ACalls Tryz.prog 20 [s, r] H (fun v H' => v = .bool (decide (xs = ys)) ∧ H' = H) := by
  obtain ⟨b1, o1, c1, rfl, hb1⟩ := hs
  obtain ⟨b2, o2, c2, rfl, hb2⟩ := hr
  have hc1 := conv_bytes (c := c1) hb1
  have hc2 := conv_bytes (c := c2) hb2
  refine AcT true Tryz.func20 ?_; intro hbel Q hQ
  simp -implicitDefEqProofs (disch := omega) only [hc1, hc2, simprocAttr, amset, tyset, Function.comp_apply, one1, lenV, calleeOf, lateOk, belowV, aop, AV.ofValue, AV.ofCell, AV.cells, AV.flat, AV.one, arep, aBin, aAppend]
  exact eQ hQ hbel (.bool (bys xs == bys ys)) Tryz.results20 ⟨by rw [bys_eq hx hy], rfl⟩
theorem tl3_take {l m : List Tl} {i : Nat} (h : i < l.length) (k : i < m.length) (e : (l.take i).map tl3 = (m.take i).map tl3) (ex : (tlG l i).x = (tlG m i).x) (ey : (tlG l i).y = (tlG m i).y) (ed : (tlG l i).d = (tlG m i).d) : (l.take (i + 1)).map tl3 = (m.take (i + 1)).map tl3 := by
  have g : ∀ {n : List Tl} (hn : i < n.length), n[i] = tlG n i := fun hn => by unfold tlG; rw [List.getD_eq_getElem?_getD, List.getElem?_eq_getElem hn]; rfl
  rw [List.take_succ_eq_append_getElem h, List.take_succ_eq_append_getElem k, List.map_append, List.map_append, e, g h, g k]
  simp [tl3, ex, ey, ed]
theorem tl3_ne {l m : List Tl} {i : Nat} (h : i < l.length) (k : i < m.length) (hn : ¬ ((tlG l i).x = (tlG m i).x ∧ (tlG l i).y = (tlG m i).y ∧ (tlG l i).d = (tlG m i).d)) : l.map tl3 ≠ m.map tl3 := fun e => by
  have g : ∀ {n : List Tl} (hn : i < n.length), n[i] = tlG n i := fun hn => by unfold tlG; rw [List.getD_eq_getElem?_getD, List.getElem?_eq_getElem hn]; rfl
  have e1 : (l.map tl3)[i]? = (m.map tl3)[i]? := by rw [e]
  rw [List.getElem?_map, List.getElem?_map, List.getElem?_eq_getElem h, List.getElem?_eq_getElem k, g h, g k] at e1
  simp [tl3] at e1
  exact hn e1
/-- The number of bytes of tiles. -/
def sizL (l : List Tl) : Nat := (l.map fun t => t.d.length).sum
theorem sizL_take {l : List Tl} {i : Nat} (h : i < l.length) : sizL (l.take (i + 1)) = sizL (l.take i) + (tlG l i).d.length := by
  have g : l[i] = tlG l i := by unfold tlG; rw [List.getD_eq_getElem?_getD, List.getElem?_eq_getElem h]; rfl
  unfold sizL
  rw [List.take_succ_eq_append_getElem h, List.map_append, List.sum_append, g]
  simp
theorem sizL_bd {l : List Tl} (h : ∀ e ∈ l, e.d.length ≤ 1000000000) : sizL l ≤ 1000000000 * l.length := by
  induction l with
  | nil => exact Nat.le_refl _
  | cons a l ih =>
    have h1 := h a (List.mem_cons_self ..)
    have h2 := ih fun e he => h e (List.mem_cons_of_mem _ he)
    unfold sizL at h2 ⊢
    simp only [List.map_cons, List.sum_cons, List.length_cons]
    omega
def tlOk0 (H : AHeap) (l : List Tl) : Prop := ∀ e ∈ l, Sl H 1 e.s e.d.length (ints .u8 e.d) ∧ e.d.length ≤ 9223372036854775807 ∧ ∀ c ∈ e.d, 0 ≤ c ∧ c ≤ 255
theorem tlOk0.at {H : AHeap} {l : List Tl} {j : Nat} (k : tlOk0 H l) (h : j < l.length) : ∃ b o c, (tlG l j).s = .sl (some (b, 0)) (tlG l j).d.length c ∧ H[b]? = some (.cells o 1 (ints .u8 (tlG l j).d)) := by
  obtain ⟨b, o, c, e1, e2⟩ := (k _ (tlG_mem h)).1
  exact ⟨b, o, c, e1, e2⟩
theorem add_natT (a b : Nat) : (a : Int) + (b : Int) = ((a + b : Nat) : Int) := rfl
def fewB (l : List Tl) : Bool := decide (l.length ≤ 30) && l.all fun t => decide (t.d.length ≤ 2000)
theorem same_c (H : AHeap) (s : AV) (l : List Tl) (r : AV) (m : List Tl) (hs : Sl H 3 s l.length (tlR l)) (hr : Sl H 3 r m.length (tlR m)) (hl : l.length ≤ 100000) (hm : m.length ≤ 100000) (hok : tlOk H l) (hok2 : tlOk H m) : ACalls Tryz.prog 8 [s, r] H (fun v H' => v = .bool (decide (l.map tl3 = m.map tl3)) ∧ H' = H) := by
  obtain ⟨bs, os, cs, rfl, hbs⟩ := hs
  have hbls := getElem?_lt hbs
  have hb0s := fun l => get_app (l := l) hbs
  obtain ⟨br, or, cr, rfl, hbr⟩ := hr
  have hblr := getElem?_lt hbr
  have hb0r := fun l => get_app (l := l) hbr
  refine AcT true Tryz.func8 ?_; intro hbel Q hQ
  have g'1 := (jn @hbs (jn @hb0s (jn @hbr @hb0r)))
  refine rcs g'1 (fun h1 h1d _ => ?_) (fun h1 h1d _ => ?_)
  · have h1n := bnT h1
    have hfin : l.map tl3 ≠ m.map tl3 := fun e => by have q := congrArg List.length e; rw [List.length_map, List.length_map] at q; omega
    have g'2 := (jn h1 (jn h1n (jn @int_bne (jn @int_beq g'1))))
    exact eS g'2 hQ hbel (.bool false) Tryz.results8 ⟨by first | (rw [decide_eq_true hfin]; done) | (rw [decide_eq_false hfin]), rfl⟩
  have h1n := bnT h1
  have hlm : l.length = m.length := by omega
  have g'3 := (jn h1 (jn h1n (jn @int_bne (jn @int_beq g'1))))
  refine runTf g'3 ?_
  refine glp (fun k F Hx => ∃ i : Nat, i + k = l.length ∧ (l.take i).map tl3 = (m.take i).map tl3 ∧ F = [(0, .sl (some (bs, 0)) l.length cs), (1, .sl (some (br, 0)) m.length cr), (5, iV ((i : Nat) : Int))] ∧ H = Hx) (l.length) ?_ ?_
  · refine ⟨_, _, _, ⟨0, by omega, rfl, rfl, rfl⟩, Abs.by0 hbel ?_⟩
    exact absW
  rintro k0 F Hx ⟨i, hm0, ho, rfl, rfl⟩ J0 hJ0
  refine rcs g'3 (fun h2 h2d _ => ?_) (fun h2 h2d g'11 => ?_)
  · have hlt : i < l.length := by omega
    obtain ⟨bq, oq, cq, hsq, hbq⟩ := hok.at hlt
    have hblq := getElem?_lt hbq
    have hb0q := fun l' => get_app (l := l') hbq
    have hdl := (hok _ (tlG_mem hlt)).2.1
    have hdB := (hok _ (tlG_mem hlt)).2.2
    have hltm : i < m.length := by omega
    obtain ⟨bp, op, cp, hsp, hbp⟩ := hok2.at hltm
    have hblp := getElem?_lt hbp
    have hb0p := fun l' => get_app (l := l') hbp
    have hdl2 := (hok2 _ (tlG_mem hltm)).2.1
    have hdB2 := (hok2 _ (tlG_mem hltm)).2.2
    have q3 := tlR_at0 (l := l) (j := i) (by omega)
    have q4 := tlR_at0 (l := m) (j := i) (by omega)
    have g'4 := (jn h2 (jn h2d (jn @tlR_len (jn q3 (jn q4 g'3)))))
    refine rgs g'4 (fun h5 h5d _ => ?_) (fun h5 h5d _ => ?_)
    · have h5n := bnT h5
      have q6 := tlR_at1 (l := l) (j := i) (by omega)
      have q7 := tlR_at1 (l := m) (j := i) (by omega)
      have g'5 := (jn h5 (jn h5n (jn q6 (jn q7 g'4))))
      refine rgs g'5 (fun h8 h8d _ => ?_) (fun h8 h8d _ => ?_)
      · have h8n := bnT h8
        have q9 := tlR_at2 (l := l) (j := i) (by omega) hsq
        have q10 := tlR_at2 (l := m) (j := i) (by omega) hsp
        have g'6 := (jn h8 (jn h8n (jn q9 (jn q10 g'5))))
        refine runTf g'6 ?_
        refine cd (bytes2_c _ _ _ ((tlG l i).d) ((tlG m i).d) (⟨_, _, _, rfl, by first | exact hb0q _ | exact hbq⟩) (⟨_, _, _, rfl, by first | exact hb0p _ | exact hbp⟩) hdB hdB2) ?_
        refine rcs g'6 (fun h11 h11d g'7 => ?_) (fun h11 h11d g'8 => ?_)
        · have hfin := tl3_ne hlt hltm (fun q => by have r := h11d; first | exact r q.2.2 | (rw [q.2.2] at r; simp at r))
          exact eS g'7 hQ hbel (.bool false) Tryz.results8 ⟨by first | (rw [decide_eq_true hfin]; done) | (rw [decide_eq_false hfin]), rfl⟩
        have ho2 := tl3_take hlt hltm ho (by omega) (by omega) (by have r := h11d; first | exact r | exact of_decide_eq_true r)
        refine runTf g'8 ?_
        refine hJ0 _ _ ⟨k0 - 1, by omega, _, _, _, ⟨i + 1, by omega, ho2, rfl, rfl⟩, Abs.by0 hbel ?_⟩
        exact absW
      have h8n := bnT h8
      have hfin := tl3_ne hlt hltm (fun q => by first | exact h8d q.2.1 | omega)
      have g'9 := j2 h8 h8n g'5
      exact eS g'9 hQ hbel (.bool false) Tryz.results8 ⟨by first | (rw [decide_eq_true hfin]; done) | (rw [decide_eq_false hfin]), rfl⟩
    have h5n := bnT h5
    have hfin := tl3_ne hlt hltm (fun q => by first | exact h5d q.1 | omega)
    have g'10 := j2 h5 h5n g'4
    exact eS g'10 hQ hbel (.bool false) Tryz.results8 ⟨by first | (rw [decide_eq_true hfin]; done) | (rw [decide_eq_false hfin]), rfl⟩
  obtain rfl : i = l.length := by omega
  have hfin : l.map tl3 = m.map tl3 := by rwa [List.take_length, hlm, List.take_length] at ho
  exact eS g'11 hQ hbel (.bool true) Tryz.results8 ⟨by first | (rw [decide_eq_true hfin]; done) | (rw [decide_eq_false hfin]), rfl⟩
theorem few_f {l : List Tl} {i : Nat} (h : i < l.length) (k : 2000 < (tlG l i).d.length) : fewB l = false := by
  unfold fewB
  cases q : l.all fun t => decide (t.d.length ≤ 2000) with
  | false => rw [Bool.and_false]
  | true => rw [List.all_eq_true] at q; have := of_decide_eq_true (q _ (tlG_mem h)); omega
theorem few_s {l : List Tl} {i : Nat} (h : ∀ j, j < i → (tlG l j).d.length ≤ 2000) (k : ¬ 2000 < (tlG l i).d.length) : ∀ j, j < i + 1 → (tlG l j).d.length ≤ 2000 := fun j hj => by
  rcases Nat.lt_or_ge j i with q | q
  · exact h j q
  rw [show j = i by omega]; omega
theorem few_e {l : List Tl} {i : Nat} (h : ∀ j, j < i → (tlG l j).d.length ≤ 2000) (k : l.length ≤ i ∨ 30 ≤ i) : fewB l = decide (l.length ≤ 30) := by
  unfold fewB
  by_cases q : l.length ≤ 30
  · have : (l.all fun t => decide (t.d.length ≤ 2000)) = true := List.all_eq_true.2 fun t ht => by
      obtain ⟨j, hj, rfl⟩ := List.mem_iff_getElem.1 ht
      have := h j (by omega)
      unfold tlG at this
      rw [List.getD_eq_getElem?_getD, List.getElem?_eq_getElem hj] at this
      exact decide_eq_true this
    rw [this, Bool.and_true]
  rw [decide_eq_false q, Bool.false_and]
theorem few_ok {H : AHeap} {l : List Tl} (h : fewB l = true) (k : tlOk0 H l) : l.length ≤ 30 ∧ tlOk H l ∧ ∀ e ∈ l, e.d.length ≤ 2000 := by
  unfold fewB at h
  rw [Bool.and_eq_true, decide_eq_true_eq, List.all_eq_true] at h
  have h2 : ∀ e ∈ l, e.d.length ≤ 2000 := fun e he => of_decide_eq_true (h.2 e he)
  exact ⟨h.1, fun e he => ⟨(k e he).1, by have := h2 e he; omega, (k e he).2.2⟩, h2⟩
theorem tsz_c (H : AHeap) (s : AV) (l : List Tl) (hs : Sl H 3 s l.length (tlR l)) (hl : l.length ≤ 1000) (hok : tlOk H l) : ACalls Tryz.prog 14 [s] H (fun v H' => v = iV ((sizL l : Nat) : Int) ∧ H' = H) := by
  obtain ⟨bs, os, cs, rfl, hbs⟩ := hs
  have hbls := getElem?_lt hbs
  have hb0s := fun l => get_app (l := l) hbs
  refine AcT true Tryz.func14 ?_; intro hbel Q hQ
  have g'12 := (jn @hbs (jn @hb0s @add_natT))
  refine runTf g'12 ?_
  have sT0 : sizL (l.take 0) = 0 := rfl
  refine glp (fun k F Hx => ∃ i : Nat, i + k = l.length ∧ F = [(3, iV ((sizL (l.take i) : Nat) : Int)), (6, .sl (some (bs, 0)) l.length cs), (7, iV ((l.length : Nat) : Int)), (8, iV ((i : Nat) : Int))] ∧ H = Hx) (l.length) ?_ ?_
  · refine ⟨_, _, _, ⟨0, by omega, rfl, rfl⟩, Abs.by0 hbel ?_⟩
    exact absWf @sT0
  rintro k0 F Hx ⟨i, hm0, rfl, rfl⟩ J0 hJ0
  have hsb := sizL_bd (l := l.take i) (fun e he => (hok e (List.mem_of_mem_take he)).2.1)
  have hsl : (l.take i).length ≤ 1000 := by rw [List.length_take]; omega
  refine rcs g'12 (fun h1 h1d _ => ?_) (fun h1 h1d g'14 => ?_)
  · have hlt : i < l.length := by omega
    obtain ⟨bq, oq, cq, hsq, hbq⟩ := hok.at hlt
    have hblq := getElem?_lt hbq
    have hb0q := fun l' => get_app (l := l') hbq
    have hdl := (hok _ (tlG_mem hlt)).2.1
    have hdB := (hok _ (tlG_mem hlt)).2.2
    have hst := sizL_take hlt
    have q2 := tlR_p (l := l) (j := i) (by omega) hsq
    have g'13 := (jn h1 (jn h1d (jn @tlR_len (jn q2 g'12))))
    refine runTf g'13 ?_
    refine hJ0 _ _ ⟨k0 - 1, by omega, _, _, _, ⟨i + 1, by omega, rfl, rfl⟩, Abs.byN hbel ?_⟩
    exact absWf (jn @hst @add_natT)
  obtain rfl : i = l.length := by omega
  have hfin : sizL (l.take l.length) = sizL l := by rw [List.take_length]
  exact eS g'14 hQ hbel (iV ((sizL (l.take l.length) : Nat) : Int)) Tryz.results14 ⟨by rw [hfin], rfl⟩
theorem few_c (H : AHeap) (s : AV) (l : List Tl) (hs : Sl H 3 s l.length (tlR l)) (hl : l.length ≤ 9223372036854775807) (hok : tlOk0 H l) : ACalls Tryz.prog 5 [s] H (fun v H' => v = .bool (fewB l) ∧ H' = H) := by
  obtain ⟨bs, os, cs, rfl, hbs⟩ := hs
  have hbls := getElem?_lt hbs
  have hb0s := fun l => get_app (l := l) hbs
  refine AcT true Tryz.func5 ?_; intro hbel Q hQ
  have g'15 := (jn @hbs @hb0s)
  refine runTf g'15 ?_
  refine glp (fun k F Hx => ∃ i : Nat, i + k = l.length ∧ (∀ j, j < i → (tlG l j).d.length ≤ 2000) ∧ F = [(0, .sl (some (bs, 0)) l.length cs), (3, iV ((i : Nat) : Int))] ∧ H = Hx) (l.length) ?_ ?_
  · refine ⟨_, _, _, ⟨0, by omega, (fun j h => by omega), rfl, rfl⟩, Abs.by0 hbel ?_⟩
    exact absW
  rintro k0 F Hx ⟨i, hm0, ho, rfl, rfl⟩ J0 hJ0
  refine rgs g'15 (fun h1 h1d g'16 => ?_) (fun h1 h1d g'21 => ?_)
  · have hlt : i < l.length := by omega
    refine rcs g'16 (fun h2 h2d _ => ?_) (fun h2 h2d g'20 => ?_)
    · obtain ⟨bq, oq, cq, hsq, hbq⟩ := hok.at hlt
      have hblq := getElem?_lt hbq
      have hb0q := fun l' => get_app (l := l') hbq
      have hdl := (hok _ (tlG_mem hlt)).2.1
      have hdB := (hok _ (tlG_mem hlt)).2.2
      have q3 := tlR_at2 (l := l) (j := i) (by omega) hsq
      have g'17 := (jn h2 (jn h2d (jn @tlR_len (jn q3 g'16))))
      refine rcs g'17 (fun h4 h4d g'18 => ?_) (fun h4 h4d g'19 => ?_)
      · have hfin : fewB l = false := few_f hlt (by omega)
        exact eS g'18 hQ hbel (.bool false) Tryz.results5 ⟨by first | (rw [hfin]; done) | (rw [hfin]; congr 1; rw [Bool.eq_iff_iff, decide_eq_true_eq, decide_eq_true_eq]; omega), rfl⟩
      have ho2 := few_s ho (by omega)
      refine runTf g'19 ?_
      refine hJ0 _ _ ⟨k0 - 1, by omega, _, _, _, ⟨i + 1, by omega, ho2, rfl, rfl⟩, Abs.by0 hbel ?_⟩
      exact absW
    have hfin : fewB l = decide (l.length ≤ 30) := few_e ho (.inr (by omega))
    exact eS g'20 hQ hbel (.bool (decide (((l.length : Nat) : Int) ≤ 30))) Tryz.results5 ⟨by first | (rw [hfin]; done) | (rw [hfin]; congr 1; rw [Bool.eq_iff_iff, decide_eq_true_eq, decide_eq_true_eq]; omega), rfl⟩
  have hfin : fewB l = decide (l.length ≤ 30) := few_e ho (.inl (by omega))
  exact eS g'21 hQ hbel (.bool (decide (((l.length : Nat) : Int) ≤ 30))) Tryz.results5 ⟨by first | (rw [hfin]; done) | (rw [hfin]; congr 1; rw [Bool.eq_iff_iff, decide_eq_true_eq, decide_eq_true_eq]; omega), rfl⟩
end Go.Proofs.YtgfjhidfpjmmnaaGreat
