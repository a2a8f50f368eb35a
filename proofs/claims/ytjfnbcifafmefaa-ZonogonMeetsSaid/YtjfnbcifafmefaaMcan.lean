/- Plain facts: putting one more generator into a canonical form, and merging a sorted row. Conditions: as each theorem states. -/
import Derived.Test.YtjfnbcifafmefaaMzon
namespace Go.Proofs.Ytjfnbcifafmefaa
set_option linter.unusedSimpArgs false
set_option linter.unusedVariables false
open Go.RowKit
/-- One element of the old form, with the generator g on its way (done: it has been put). -/
def pst (g : Pt) (s : List Pt × Bool) (e : Pt) : List Pt × Bool :=
  if crs g e = 0 then (s.1 ++ [padd e g], true) else if 0 < crs g e ∧ s.2 = false then (s.1 ++ [g, e], true) else (s.1 ++ [e], s.2)
def putC (C : List Pt) (g : Pt) : List Pt := let s := C.foldl (pst g) ([], false); if s.2 = true then s.1 else s.1 ++ [g]
/-- One more generator. -/
def putL (C : List Pt) (g : Pt) : List Pt := if nrm g = (0, 0) then C else putC C (nrm g)
def canonL (l : List Pt) : List Pt := l.foldl putL []
/-- The directions of generators. -/
def dirs (l : List Pt) : List Pt := (l.map nrm).filter fun g => decide (g ≠ (0, 0))
theorem dirs_up {l : List Pt} : ∀ e ∈ dirs l, up e := fun e he => by
  unfold dirs at he
  simp only [List.mem_filter, List.mem_map, decide_eq_true_eq] at he
  obtain ⟨⟨g, -, rfl⟩, h⟩ := he
  exact nrm_up h
theorem pst_before {g : Pt} : ∀ (A : List Pt) (o : List Pt) (d : Bool), (∀ a ∈ A, crs g a < 0) → A.foldl (pst g) (o, d) = (o ++ A, d)
  | [], o, d, _ => by simp
  | a :: A, o, d, h => by
    have ha := h a (by simp)
    rw [List.foldl_cons]
    have : pst g (o, d) a = (o ++ [a], d) := by
      unfold pst
      rw [if_neg (by omega), if_neg (by simp only; omega)]
    rw [this, pst_before A _ d fun b hb => h b (by simp [hb])]
    simp
theorem pst_behind {g : Pt} : ∀ (A : List Pt) (o : List Pt), (∀ a ∈ A, 0 < crs g a) → A.foldl (pst g) (o, true) = (o ++ A, true)
  | [], o, _ => by simp
  | a :: A, o, h => by
    have ha := h a (by simp)
    rw [List.foldl_cons]
    have : pst g (o, true) a = (o ++ [a], true) := by
      unfold pst
      rw [if_neg (by omega), if_neg (by simp)]
    rw [this, pst_behind A _ fun b hb => h b (by simp [hb])]
    simp
/-- Where g stands in a sorted row. -/
theorem split_at {g : Pt} (hg : up g) : ∀ (C : List Pt), C.Pairwise (fun a b => 0 < crs a b) → (∀ e ∈ C, up e) →
    (∃ A B, C = A ++ B ∧ (∀ a ∈ A, crs g a < 0) ∧ ∀ b ∈ B, 0 < crs g b) ∨ ∃ A e B, C = A ++ e :: B ∧ (∀ a ∈ A, crs g a < 0) ∧ crs g e = 0 ∧ ∀ b ∈ B, 0 < crs g b
  | [], _, _ => .inl ⟨[], [], rfl, by simp, by simp⟩
  | c :: C, hs, hu => by
    rw [List.pairwise_cons] at hs
    have hc := hu c (by simp)
    rcases Int.lt_trichotomy (crs g c) 0 with h | h | h
    · rcases split_at hg C hs.2 (fun e he => hu e (by simp [he])) with ⟨A, B, rfl, h1, h2⟩ | ⟨A, e, B, rfl, h1, h2, h3⟩
      · exact .inl ⟨c :: A, B, rfl, fun a ha => by
          rcases List.mem_cons.1 ha with rfl | ha
          · exact h
          · exact h1 a ha, h2⟩
      · exact .inr ⟨c :: A, e, B, rfl, fun a ha => by
          rcases List.mem_cons.1 ha with rfl | ha
          · exact h
          · exact h1 a ha, h2, h3⟩
    · exact .inr ⟨[], c, C, rfl, by simp, h, fun b hb => crs_par_l hg hc (hu b (by simp [hb])) h (hs.1 b hb)⟩
    · exact .inl ⟨[], c :: C, rfl, by simp, fun b hb => by
        rcases List.mem_cons.1 hb with rfl | hb
        · exact h
        · exact crs_trans hg hc (hu b (by simp [hb])) h (hs.1 b hb)⟩
theorem putC_none {A B : List Pt} {g : Pt} (h1 : ∀ a ∈ A, crs g a < 0) (h2 : ∀ b ∈ B, 0 < crs g b) : putC (A ++ B) g = A ++ g :: B := by
  unfold putC
  simp only [List.foldl_append, pst_before A [] false h1, List.nil_append]
  cases B with
  | nil => simp
  | cons b B =>
    have hb := h2 b (by simp)
    rw [List.foldl_cons]
    have : pst g (A, false) b = (A ++ [g, b], true) := by
      unfold pst
      rw [if_neg (by omega), if_pos ⟨hb, rfl⟩]
    rw [this, pst_behind B _ fun c hc => h2 c (by simp [hc])]
    simp
theorem putC_some {A B : List Pt} {g e : Pt} (h1 : ∀ a ∈ A, crs g a < 0) (h0 : crs g e = 0) (h2 : ∀ b ∈ B, 0 < crs g b) : putC (A ++ e :: B) g = A ++ padd e g :: B := by
  unfold putC
  simp only [List.foldl_append, pst_before A [] false h1, List.nil_append, List.foldl_cons]
  have : pst g (A, false) e = (A ++ [padd e g], true) := by
    unfold pst
    rw [if_pos h0]
  rw [this, pst_behind B _ h2]
  simp
theorem putC_can {C S : List Pt} (h : Can C S) {g : Pt} (hg : up g) : Can (putC C g) (S ++ [g]) := by
  have hsum : ∀ (k : Pt), dsum (S ++ [g]) k = if crs g k = 0 then padd (dsum S k) g else dsum S k := fun k => by
    rw [dsum_append]
    simp only [dsum]
    split
    · rw [padd_zero]
    · rw [padd_zero]
  rcases split_at hg C h.sorted h.ups with ⟨A, B, rfl, h1, h2⟩ | ⟨A, e, B, rfl, h1, h0, h2⟩
  · rw [putC_none h1 h2]
    have hs := h.sorted
    rw [List.pairwise_append] at hs
    refine ⟨?_, fun x hx => ?_, fun k hk => ?_⟩
    · rw [List.pairwise_append, List.pairwise_cons]
      exact ⟨hs.1, ⟨h2, hs.2.1⟩, fun a ha b hb => by
        rcases List.mem_cons.1 hb with rfl | hb
        · rw [crs_anti]; have := h1 a ha; omega
        · exact hs.2.2 a ha b hb⟩
    · rcases List.mem_append.1 hx with hx | hx
      · exact h.ups x (by simp [hx])
      · rcases List.mem_cons.1 hx with rfl | hx
        · exact hg
        · exact h.ups x (by simp [hx])
    · rw [hsum, ← h.sums k hk, dsum_append, dsum_append]
      simp only [dsum]
      split
      · rw [padd_assoc, padd_comm g]
      · rfl
  · rw [putC_some h1 h0 h2]
    have hs := h.sorted
    rw [List.pairwise_append, List.pairwise_cons] at hs
    have he := h.ups e (by simp)
    have heg : ∀ k, crs (padd e g) k = crs e k + crs g k := fun k => crs_add_l e g k
    refine ⟨?_, fun x hx => ?_, fun k hk => ?_⟩
    · rw [List.pairwise_append, List.pairwise_cons]
      refine ⟨hs.1, ⟨fun b hb => ?_, hs.2.1.2⟩, fun a ha b hb => ?_⟩
      · rw [heg]; have := hs.2.1.1 b hb; have := h2 b hb; omega
      · rcases List.mem_cons.1 hb with rfl | hb
        · rw [crs_add_r]; have := hs.2.2 a ha e (by simp); have := h1 a ha; have := crs_anti g a; omega
        · exact hs.2.2 a ha b (by simp [hb])
    · rcases List.mem_append.1 hx with hx | hx
      · exact h.ups x (by simp [hx])
      · rcases List.mem_cons.1 hx with rfl | hx
        · exact up_add he hg
        · exact h.ups x (by simp [hx])
    · rw [hsum, ← h.sums k hk, dsum_append, dsum_append]
      simp only [dsum]
      have e1 : crs e k = 0 ↔ crs g k = 0 := ⟨fun h3 => par_trans hg he hk h0 h3, fun h3 => par_trans he hg hk (by rw [crs_anti]; omega) h3⟩
      by_cases hc : crs g k = 0
      · rw [if_pos (by rw [heg]; have := e1.2 hc; omega), if_pos (e1.2 hc), if_pos hc]
        simp only [padd, Prod.mk.injEq]; omega
      · have hc' : crs e k ≠ 0 := fun h3 => hc (e1.1 h3)
        have hne : crs (padd e g) k ≠ 0 := by
          intro h3
          -- e + g is parallel to e
          have h4 : crs e (padd e g) = 0 := by rw [crs_add_r, crs_self, crs_anti]; omega
          exact hc' (par_trans he (up_add he hg) hk h4 h3)
        rw [if_neg hne, if_neg hc', if_neg hc]
theorem Can.nil : Can [] [] := ⟨.nil, by simp, fun _ _ => rfl⟩
theorem canonL_can (l : List Pt) : Can (canonL l) (dirs l) := by
  have gen : ∀ (l : List Pt) (C S : List Pt), Can C S → Can (l.foldl putL C) (S ++ dirs l) := by
    intro l
    induction l with
    | nil => intro C S h; simpa [dirs] using h
    | cons g l ih =>
      intro C S h
      rw [List.foldl_cons]
      by_cases h0 : nrm g = (0, 0)
      · have e1 : putL C g = C := by unfold putL; rw [if_pos h0]
        have e2 : dirs (g :: l) = dirs l := by simp [dirs, h0]
        rw [e1, e2]; exact ih C S h
      · have e1 : putL C g = putC C (nrm g) := by unfold putL; rw [if_neg h0]
        have e2 : dirs (g :: l) = nrm g :: dirs l := by simp [dirs, h0]
        rw [e1, e2]
        have := ih (putC C (nrm g)) (S ++ [nrm g]) (putC_can h (nrm_up h0))
        simpa using this
  have := gen l [] [] .nil
  simpa [canonL] using this
/-- Merging a sorted row. -/
def mst (out : List Pt) (g : Pt) : List Pt :=
  match out.getLast? with
  | some k => if crs k g = 0 then out.dropLast ++ [padd k g] else out ++ [g]
  | none => out ++ [g]
def mergeL (S : List Pt) : List Pt := S.foldl mst []
theorem mst_nil (g : Pt) : mst [] g = [g] := rfl
theorem mst_snoc (o : List Pt) (k g : Pt) : mst (o ++ [k]) g = if crs k g = 0 then o ++ [padd k g] else o ++ [k] ++ [g] := by
  unfold mst
  rw [List.getLast?_append]
  simp
theorem merge_can (S : List Pt) (hs : S.Pairwise fun a b => 0 ≤ crs a b) (hu : ∀ e ∈ S, up e) : Can (mergeL S) S := by
  have gen : ∀ (T P out : List Pt), Can out P → (P = [] ↔ out = []) → (∀ k, out.getLast? = some k → ∀ t ∈ T, 0 ≤ crs k t) → T.Pairwise (fun a b => 0 ≤ crs a b) → (∀ e ∈ T, up e) → Can (T.foldl mst out) (P ++ T) := by
    intro T
    induction T with
    | nil => intro P out h _ _ _ _; simpa using h
    | cons g T ih =>
      intro P out h hn hl ht hu
      rw [List.pairwise_cons] at ht
      have hg := hu g (by simp)
      rw [List.foldl_cons]
      have e : P ++ g :: T = (P ++ [g]) ++ T := by simp
      rw [e]
      have hsum : ∀ (k : Pt), dsum (P ++ [g]) k = if crs g k = 0 then padd (dsum P k) g else dsum P k := fun k => by
        rw [dsum_append]
        simp only [dsum]
        split
        · rw [padd_zero]
        · rw [padd_zero]
      rcases List.eq_nil_or_concat out with rfl | ⟨o, k, rfl⟩
      · rw [mst_nil]
        have hP : P = [] := hn.2 rfl
        subst hP
        refine ih [g] [g] ⟨by simp, by simpa using hg, fun _ _ => rfl⟩ (by simp) (fun k hk t htm => ?_) ht.2 (fun x hx => hu x (by simp [hx]))
        simp at hk; subst hk
        exact ht.1 t htm
      · rw [List.concat_eq_append] at *
        have hk := h.ups k (by simp)
        have hkg := hl k (by simp) g (by simp)
        have hso := h.sorted
        rw [List.pairwise_append] at hso
        have hok : ∀ a ∈ o, 0 < crs a k := fun a ha => hso.2.2 a ha k (by simp)
        rw [mst_snoc]
        by_cases hc : crs k g = 0
        · rw [if_pos hc]
          have hkgk : crs k (padd k g) = 0 := by rw [crs_add_r, crs_self]; omega
          have hupkg := up_add hk hg
          refine ih (P ++ [g]) (o ++ [padd k g]) ⟨?_, fun x hx => ?_, fun z hz => ?_⟩ (by simp) (fun q hq t htm => ?_) ht.2 (fun x hx => hu x (by simp [hx]))
          · rw [List.pairwise_append]
            exact ⟨hso.1, by simp, fun a ha b hb => by
              simp at hb; subst hb
              exact crs_par_r (h.ups a (by simp [ha])) hk hupkg (hok a ha) hkgk⟩
          · rcases List.mem_append.1 hx with hx | hx
            · exact h.ups x (by simp [hx])
            · simp at hx; subst hx; exact hupkg
          · rw [hsum, ← h.sums z hz, dsum_append, dsum_append]
            simp only [dsum]
            have e1 : crs k z = 0 ↔ crs g z = 0 := ⟨fun h3 => par_trans hg hk hz (by rw [crs_anti]; omega) h3, fun h3 => par_trans hk hg hz hc h3⟩
            by_cases hcz : crs g z = 0
            · rw [if_pos (by rw [crs_add_l]; have := e1.2 hcz; omega), if_pos (e1.2 hcz), if_pos hcz]
              simp only [padd, Prod.mk.injEq]; omega
            · have hcz' : crs k z ≠ 0 := fun h3 => hcz (e1.1 h3)
              have hne : crs (padd k g) z ≠ 0 := fun h3 => hcz' (par_trans hk hupkg hz hkgk h3)
              rw [if_neg hne, if_neg hcz', if_neg hcz]
          · simp at hq; subst hq
            rw [crs_add_l]
            have h5 := hl k (by simp) t (by simp [htm])
            have h6 := ht.1 t htm
            omega
        · rw [if_neg hc]
          refine ih (P ++ [g]) (o ++ [k] ++ [g]) ⟨?_, fun x hx => ?_, fun z hz => ?_⟩ (by simp) (fun q hq t htm => ?_) ht.2 (fun x hx => hu x (by simp [hx]))
          · rw [List.pairwise_append]
            exact ⟨h.sorted, by simp, fun a ha b hb => by
              simp at hb; subst hb
              rcases List.mem_append.1 ha with ha | ha
              · exact crs_trans (h.ups a (by simp [ha])) hk hg (hok a ha) (by omega)
              · simp at ha; subst ha; omega⟩
          · rcases List.mem_append.1 hx with hx | hx
            · exact h.ups x hx
            · simp at hx; subst hx; exact hg
          · rw [hsum, ← h.sums z hz, dsum_append]
            simp only [dsum]
            split
            · rw [padd_zero]
            · rw [padd_zero]
          · simp at hq; subst hq
            exact ht.1 t htm
  have := gen S [] [] .nil (by simp) (by simp) hs hu
  simpa [mergeL] using this
/-- Sorting and merging, in whatever order equals come, is putting one behind the other. -/
theorem merge_eq {l S : List Pt} (hp : S.Perm (dirs l)) (hs : S.Pairwise fun a b => 0 ≤ crs a b) : mergeL S = canonL l :=
  ((merge_can S hs fun e he => dirs_up e (hp.mem_iff.1 he)).perm hp).eq (canonL_can l)
end Go.Proofs.Ytjfnbcifafmefaa
