/- Parts of the proof: walks and plain facts. Conditions: as each theorem states. -/
import Derived.Test.YtcghekjnjbpeoaaG2
import Derived.Shelf.Small.Bits
import Derived.Shelf.Strconv.Itoa0
import Derived.Shelf.Bits.Mul64
import Derived.Shelf.SlSortCmp.WholeK
import Derived.Shelf.SlGeneric
import Derived.Ground.SlsfProg
import Derived.Test.YtcghekjnjbpeoaaProg
import Derived.Lib.SortBridge
import Derived.Lib.RowBridge
import Derived.Test.YtcghekjnjbpeoaaG1
import Derived.Deep.RegionHeld3
namespace Go.Proofs.Ytcghekjnjbpeoaa
set_option linter.unusedSimpArgs false
set_option linter.unusedVariables false
open Go.RowKit
theorem g3_eq' {l : List T3} {j : Nat} (h : j < l.length) : (g31 l j, g32 l j, g33 l j) = l[j] := g3_eq h
theorem g33_set {l : List T3} {i j : Nat} {v : T3} (h : i < l.length) : g33 (l.set i v) j = if i = j then v.2.2 else g33 l j := by
  unfold g33 g3
  simp only [List.getD_eq_getElem?_getD, List.getElem?_set]
  split
  · first | rfl | (rw [if_pos h]; rfl)
  rfl
theorem g33_swp {l : List T3} {i k j : Nat} (hi : i < l.length) (hk : k < l.length) : g33 (swpH l i k) j = if k = j then g33 l i else if i = j then g33 l k else g33 l j := by
  unfold swpH
  rw [g33_set (by rw [List.length_set]; exact hk), g33_set hi]
theorem swpH_perm {l : List T3} {i k : Nat} (hi : i < l.length) (hk : k < l.length) : (swpH l i k).Perm l := by
  unfold swpH
  rw [g3_eq' hi, g3_eq' hk]
  exact List.set_set_perm hi hk
/-- The first n visits are a heap. -/
def HO (n : Nat) (l : List T3) : Prop := ∀ j, 0 < j → j < n → g33 l ((j - 1) / 2) ≤ g33 l j
def HU (n i : Nat) (l : List T3) : Prop := (∀ j, 0 < j → j < n → j ≠ i → g33 l ((j - 1) / 2) ≤ g33 l j) ∧ ∀ j, 0 < j → j < n → (j - 1) / 2 = i → 0 < i → g33 l ((i - 1) / 2) ≤ g33 l j
def HD (n i : Nat) (l : List T3) : Prop := (∀ j, 0 < j → j < n → (j - 1) / 2 ≠ i → g33 l ((j - 1) / 2) ≤ g33 l j) ∧ ∀ j, 0 < j → j < n → (j - 1) / 2 = i → 0 < i → g33 l ((i - 1) / 2) ≤ g33 l j
theorem upH_ok {n : Nat} : ∀ (f i : Nat) (l : List T3), n ≤ l.length → i < n → i ≤ f → HU n i l → HO n (upH f i l) ∧ (upH f i l).Perm l
  | 0, i, l, hl, hi, hf, h => by
    have : i = 0 := by omega
    subst this
    refine ⟨fun j h1 h2 => h.1 j h1 h2 (by omega), List.Perm.refl _⟩
  | f + 1, i, l, hl, hi, hf, h => by
    unfold upH
    split
    · rename_i q
      have hp : (i - 1) / 2 < i := by omega
      have hk : HU n ((i - 1) / 2) (swpH l i ((i - 1) / 2)) := by
        constructor
        · intro j h1 h2 h3
          rw [g33_swp (by omega) (by omega), g33_swp (by omega) (by omega)]
          have a1 := h.1 j h1 h2
          have a2 := h.2 j h1 h2
          by_cases e1 : i = j
          · subst e1
            rw [if_pos rfl, if_neg (by omega), if_pos rfl]; omega
          rw [if_neg (show ¬ (i - 1) / 2 = j by omega), if_neg e1]
          by_cases e2 : (j - 1) / 2 = (i - 1) / 2
          · rw [if_pos e2.symm]
            have := a1 (fun e => e1 e.symm)
            rw [e2] at this; omega
          rw [if_neg (fun e => e2 e.symm)]
          by_cases e3 : i = (j - 1) / 2
          · rw [if_pos e3]
            exact a2 e3.symm (by omega)
          rw [if_neg e3]
          exact a1 (fun e => e1 e.symm)
        intro j h1 h2 h3 h4
        rw [g33_swp (by omega) (by omega), g33_swp (by omega) (by omega)]
        have b1 := h.1 ((i - 1) / 2) h4 (by omega) (by omega)
        rw [if_neg (show ¬ (i - 1) / 2 = ((i - 1) / 2 - 1) / 2 by omega), if_neg (show ¬ i = ((i - 1) / 2 - 1) / 2 by omega), if_neg (show ¬ (i - 1) / 2 = j by omega)]
        by_cases e1 : i = j
        · rw [if_pos e1]; exact b1
        rw [if_neg e1]
        have a1 := h.1 j h1 h2 (fun e => e1 e.symm)
        rw [h3] at a1; omega
      have r := upH_ok f ((i - 1) / 2) _ (by rw [swpH_len]; exact hl) (by omega) (by omega) hk
      exact ⟨r.1, r.2.trans (swpH_perm (by omega) (by omega))⟩
    rename_i q
    refine ⟨fun j h1 h2 => ?_, List.Perm.refl _⟩
    by_cases e : j = i
    · subst e; omega
    exact h.1 j h1 h2 e
theorem g33_app {l m : List T3} {j : Nat} (h : j < l.length) : g33 (l ++ m) j = g33 l j := by
  unfold g33 g3
  simp only [List.getD_eq_getElem?_getD, List.getElem?_append_left h]
theorem push_ok {l : List T3} {v : T3} (h : HO l.length l) : HO (l.length + 1) (pushH l v) ∧ (pushH l v).Perm (v :: l) := by
  have r := upH_ok (n := l.length + 1) l.length l.length (l ++ [v]) (by rw [List.length_append]; exact Nat.le_refl _) (by omega) (Nat.le_refl _) ⟨fun j h1 h2 h3 => by
    rw [g33_app (by omega), g33_app (by omega)]; exact h j h1 (by omega), fun j h1 h2 h3 h4 => by omega⟩
  exact ⟨r.1, r.2.trans (List.perm_append_singleton _ _)⟩
theorem minH_le {l : List T3} {n i j : Nat} (hj : j < n) (hc : j = 2 * i + 1 ∨ j = 2 * i + 2) : g33 l (minH l n i) ≤ g33 l j ∧ g33 l (minH l n i) ≤ g33 l i := by
  unfold minH
  simp only
  by_cases q : 2 * i + 1 < n ∧ g33 l (2 * i + 1) < g33 l i
  · simp only [if_pos q]
    by_cases q2 : 2 * i + 2 < n ∧ g33 l (2 * i + 2) < g33 l (2 * i + 1)
    · rw [if_pos q2]
      rcases hc with rfl | rfl <;> omega
    rw [if_neg q2]
    rcases hc with rfl | rfl <;> omega
  simp only [if_neg q]
  by_cases q2 : 2 * i + 2 < n ∧ g33 l (2 * i + 2) < g33 l i
  · rw [if_pos q2]
    rcases hc with rfl | rfl <;> omega
  rw [if_neg q2]
  rcases hc with rfl | rfl <;> omega
theorem minH_ch {l : List T3} {n i : Nat} (h : minH l n i ≠ i) : minH l n i = 2 * i + 1 ∨ minH l n i = 2 * i + 2 := by
  unfold minH at *
  simp only at *
  by_cases q : 2 * i + 1 < n ∧ g33 l (2 * i + 1) < g33 l i
  · simp only [if_pos q] at h ⊢
    split
    · exact .inr rfl
    exact .inl rfl
  simp only [if_neg q] at h ⊢
  split
  · exact .inr rfl
  rename_i q2; rw [if_neg q2] at h; exact absurd rfl h
theorem dn_ok {n : Nat} : ∀ (f i : Nat) (l : List T3), n ≤ l.length → n ≤ f + i → HD n i l → HO n (dnH n f i l) ∧ (dnH n f i l).Perm l
  | 0, i, l, hl, hf, h => ⟨fun j h1 h2 => h.1 j h1 h2 (by omega), List.Perm.refl _⟩
  | f + 1, i, l, hl, hf, h => by
    unfold dnH
    by_cases q : minH l n i = i
    · rw [if_pos q]
      refine ⟨fun j h1 h2 => ?_, List.Perm.refl _⟩
      by_cases e : (j - 1) / 2 = i
      · have := (minH_le (l := l) (n := n) (i := i) h2 (by omega)).1
        rw [q] at this
        rw [e]; exact this
      exact h.1 j h1 h2 e
    rw [if_neg q]
    have hm := minH_lt q
    have hc := minH_ch q
    have hle := minH_le (l := l) (n := n) (i := i) hm.1 hc
    have hall := fun j (hj : j < n) (hc : j = 2 * i + 1 ∨ j = 2 * i + 2) => (minH_le (l := l) (n := n) (i := i) hj hc).1
    generalize minH l n i = k at *
    have hk : HD n k (swpH l i k) := by
      constructor
      · intro j h1 h2 h3
        rw [g33_swp (by omega) (by omega), g33_swp (by omega) (by omega)]
        rw [if_neg (fun e => h3 e.symm)]
        by_cases e1 : k = j
        · subst e1
          rw [if_pos rfl, if_pos (by omega)]; exact hle.2
        rw [if_neg e1]
        by_cases e2 : i = (j - 1) / 2
        · rw [if_pos e2, if_neg (show ¬ i = j by omega)]
          exact hall j h2 (by omega)
        rw [if_neg e2]
        by_cases e3 : i = j
        · subst e3
          rw [if_pos rfl]
          exact h.2 k (by omega) hm.1 (by omega) h1
        rw [if_neg e3]
        exact h.1 j h1 h2 (fun e => e2 e.symm)
      intro j h1 h2 h3 h4
      rw [g33_swp (by omega) (by omega), g33_swp (by omega) (by omega)]
      have ek : (k - 1) / 2 = i := by omega
      rw [ek, if_neg (show ¬ k = i by omega), if_pos rfl, if_neg (show ¬ k = j by omega), if_neg (show ¬ i = j by omega)]
      have := h.1 j h1 h2 (by omega)
      rw [h3] at this; exact this
    have r := dn_ok f k _ (by rw [swpH_len]; exact hl) (by omega) hk
    exact ⟨r.1, r.2.trans (swpH_perm (by omega) (by omega))⟩
theorem g33_take {l : List T3} {n j : Nat} (h : j < n) : g33 (l.take n) j = g33 l j := by
  unfold g33 g3
  simp only [List.getD_eq_getElem?_getD, List.getElem?_take, if_pos h]
theorem g3_take {l : List T3} {n j : Nat} (h : j < n) : g3 (l.take n) j = g3 l j := by
  unfold g3
  simp only [List.getD_eq_getElem?_getD, List.getElem?_take, if_pos h]
theorem swp_take {l : List T3} {n i k : Nat} (hi : i < n) (hk : k < n) : (swpH l i k).take n = swpH (l.take n) i k := by
  unfold swpH
  rw [List.take_set, List.take_set]
  unfold g31 g32 g33
  rw [g3_take hi, g3_take hk]
theorem min_take {l : List T3} {n i : Nat} (hi : i < n) : minH (l.take n) n i = minH l n i := by
  unfold minH
  simp only
  by_cases q : 2 * i + 1 < n
  · by_cases q2 : 2 * i + 2 < n
    · rw [g33_take q, g33_take hi, g33_take q2]
      by_cases c : 2 * i + 1 < n ∧ g33 l (2 * i + 1) < g33 l i
      · simp only [if_pos c, g33_take q]
      simp only [if_neg c, g33_take hi]
    rw [g33_take q, g33_take hi]
    simp only [q2, false_and, if_false]
  have q2 : ¬ 2 * i + 2 < n := by omega
  simp only [q, q2, false_and, if_false]
theorem dn_take {n : Nat} : ∀ (f i : Nat) (l : List T3), i < n → (dnH n f i l).take n = dnH n f i (l.take n)
  | 0, _, _, _ => rfl
  | f + 1, i, l, hi => by
    unfold dnH
    rw [min_take hi]
    split
    · rfl
    rename_i q
    have hm := minH_lt q
    rw [dn_take f _ _ hm.1, swp_take hi hm.1]
theorem pop_ok {n : Nat} {R : List T3} (hn : n < R.length) (h : HO (n + 1) R) : HO n ((popR (n + 1) R).take n) ∧ (R.take (n + 1)).Perm (g3 R 0 :: (popR (n + 1) R).take n) := by
  have eg : ∀ j (hj : j < R.length), (g31 R j, g32 R j, g33 R j) = R[j] := fun j hj => g3_eq' hj
  unfold popR
  rw [Nat.add_sub_cancel, eg n hn]
  cases n with
  | zero =>
    refine ⟨fun j h1 h2 => by omega, ?_⟩
    cases R with
    | nil => simp at hn
    | cons v R => exact List.Perm.refl _
  | succ m =>
    rw [dn_take _ _ _ (by omega), List.take_set]
    have ht : (R.take (m + 1)).length = m + 1 := by rw [List.length_take]; omega
    have r := dn_ok (n := m + 1) (m + 1) 0 ((R.take (m + 1)).set 0 R[m + 1]) (by rw [List.length_set, ht]; exact Nat.le_refl _) (by omega) ⟨fun j h1 h2 h3 => by
      rw [g33_set (by omega), g33_set (by omega), if_neg (by omega), if_neg (by omega), g33_take (by omega), g33_take h2]
      exact h j h1 (by omega), fun j h1 h2 h3 h4 => by omega⟩
    refine ⟨r.1, ?_⟩
    refine List.Perm.trans ?_ (List.Perm.cons _ r.2.symm)
    rw [List.take_succ_eq_append_getElem hn]
    cases R with
    | nil => simp at hn
    | cons v R =>
      rw [List.take_succ_cons, List.set_cons_zero]
      show (v :: (R.take m ++ [_])).Perm (v :: _ :: R.take m)
      exact List.Perm.cons _ (List.perm_append_singleton _ _)
theorem HO_min {n : Nat} {l : List T3} (h : HO n l) : ∀ j, j < n → g33 l 0 ≤ g33 l j := fun j => by
  induction j using Nat.strongRecOn with
  | _ j ih =>
    intro hj
    by_cases e : j = 0
    · subst e; exact Int.le_refl _
    exact Int.le_trans (ih ((j - 1) / 2) (by omega) (by omega)) (h j (by omega) hj)
theorem ints_set1 {k : IntKind} {l : List Int} {j : Nat} {a : Int} : (ints k l).set j (.int k a) = ints k (l.set j a) := ints_set
theorem bels_prs {n : Nat} : ∀ {l : List (Int × Int)}, AV.bels n (prs l) = true
  | [] => rfl
  | p :: l => by rw [prs_cons]; simp only [AV.bels, AV.bel, Bool.true_and]; exact bels_prs
theorem HBel.put {n : Nat} {H : AHeap} (h : HBel n H) (b : Nat) {x : ABlk} (hx : x.bel n = true) : HBel n (H.set b x) := fun c y hy => by
  rw [List.getElem?_set] at hy
  split at hy
  · split at hy
    · simp at hy; subst hy; exact hx
    cases hy
  exact h c y hy
/-- A call of a function without results, by its text. -/
theorem AcN {P : Program} (q : Bool) {f : FuncId} {fn : Func} {args : List AV} {R : AV → AHeap → Prop} {H : AHeap} (hf : P.funcs[f]? = some fn) {c : Code} (h : HBel H.length H → ∀ Q : Exit → Fr → AHeap → Prop, (∀ F H', AEnd P fn H.length R .normal F H' → Q .normal F H') → AGo P fn.ntmps H.length q Q [.code c] (argF 0 args) H)
    (hb : fn.body = some c := by rfl) (hm : P.follows .mixedOrders = true := by exact try_mixed) (ha : args.length ≤ fn.ntmps := by exact Nat.le_of_ble_eq_true (by kernel_rfl)) (hc : codeOk fn.ntmps q c = true := by kernel_rfl) : ACalls P f args H R :=
  ACalls_run hm hf q _ rfl ha (by rw [hb]; exact congrArg some hc) fun hbel Q _ hQ c' hc' => by
    rw [hb] at hc'
    injection hc' with hc'
    subst hc'
    exact h hbel Q hQ
theorem put_old {α : Type} {H l : List α} {x : α} {b : Nat} (h : b < H.length) : (H ++ l).set b x = H.set b x ++ l := List.set_append_left _ _ h
theorem get_put {α : Type} {H l : List α} {x : α} {b : Nat} (h : b < H.length) : (H.set b x ++ l)[b]? = some x := by
  rw [List.getElem?_append_left (by rw [List.length_set]; exact h), List.getElem?_set_self h]
theorem get_put0 {α : Type} {H : List α} {x : α} {b : Nat} (h : b < H.length) : (H.set b x)[b]? = some x := List.getElem?_set_self h
theorem put_put {α : Type} {H l : List α} {x y : α} {b : Nat} (h : b < H.length) : (H.set b x ++ l).set b y = H.set b y ++ l := by
  rw [put_old (by rw [List.length_set]; exact h), List.set_set]
theorem get_pk {α : Type} {H l : List α} {x : α} {b k : Nat} : (H.set b x ++ l)[H.length + k]? = l[k]? := by
  rw [List.getElem?_append_right (by rw [List.length_set]; omega), List.length_set]; congr 1; omega
theorem get_p0 {α : Type} {H l : List α} {x : α} {b : Nat} : (H.set b x ++ l)[H.length]? = l[0]? := get_pk (k := 0)
theorem set_pk {α : Type} {H l : List α} {x y : α} {b k : Nat} : (H.set b x ++ l).set (H.length + k) y = H.set b x ++ l.set k y := by
  rw [List.set_append_right _ _ (by rw [List.length_set]; omega), List.length_set]; congr 2; omega
theorem set_p0 {α : Type} {H l : List α} {x y : α} {b : Nat} : (H.set b x ++ l).set H.length y = H.set b x ++ l.set 0 y := set_pk (k := 0)
theorem Abs0.put {n : Nat} {σ : Nat → Nat} {F1 F2 : Fr} {H1 H2 : AHeap} (h : Abs0 n σ F1 H1 F2 H2) (hs : ∀ c, n ≤ c → n ≤ σ c) (hi : ∀ b, σ b < H1.length → b < H2.length) (ho : ∀ (b : Nat) (x : ABlk), H2[b]? = some x → x.owned = true → ∃ x', H1[σ b]? = some x' ∧ x'.owned = true) {bf : Nat} (hb : bf < n) (hd : H1[bf]? = some .dead) (y : ABlk) : Abs0 n σ F1 (H1.set bf (y.mv σ)) F2 (H2.set bf y) := by
  have lt1 : bf < H1.length := getElem?_lt hd
  have lt2 : bf < H2.length := Nat.lt_of_lt_of_le hb h.len
  have hsb : ∀ c, c ≠ bf → σ c ≠ bf := fun c hc => by
    by_cases hcn : c < n
    · rw [h.small c hcn]; exact hc
    have := hs c (by omega); omega
  have own : ∀ (b : Nat) (x : ABlk), (H2.set bf y)[b]? = some x → x.owned = true → ∃ x', (H1.set bf (y.mv σ))[σ b]? = some x' ∧ x'.owned = true := fun b x hx ox => by
    by_cases e : bf = b
    · subst e
      rw [List.getElem?_set_self lt2] at hx; injection hx with hx; subst hx
      rw [h.small _ hb, List.getElem?_set_self lt1]
      exact ⟨_, rfl, by cases y <;> exact ox⟩
    rw [List.getElem?_set_ne e] at hx
    rw [List.getElem?_set_ne (hsb b (fun k => e k.symm)).symm]
    exact ho b x hx ox
  refine ⟨h.small, by rw [List.length_set]; exact h.len, fun E E' e1 e2 e3 t v hv => h.frame E E' (by rw [e1, List.length_set]) (by rw [e2, List.length_set]) e3 t v hv, fun E E' e1 e2 eB e3 w hw b x hx => ?_, fun b c x z hx hz ox oz hbc => ⟨?_, own b x hx ox, own c z hz oz⟩⟩
  · rw [List.length_set] at e1 e2
    by_cases e : bf = b
    · subst e
      rw [List.getElem?_set_self lt2] at hx; injection hx with hx; subst hx
      have k := hw bf _ (List.getElem?_set_self lt1)
      rw [e3, h.small _ hb]
      exact blk_mv eB e3 (fun b hb => by rw [e2]; exact hi b (by rw [← e1]; exact hb)) k
    rw [List.getElem?_set_ne e] at hx
    refine h.heap E E' e1 e2 eB e3 w (fun c z hz => ?_) b x hx
    by_cases e' : bf = c
    · subst e'; rw [hd] at hz; injection hz with hz; subst hz; trivial
    exact hw c z (by rw [List.getElem?_set_ne e']; exact hz)
  by_cases e : bf = b
  · subst e; rw [h.small _ hb]; exact (hsb c (fun k => hbc k.symm)).symm
  by_cases e' : bf = c
  · subst e'; rw [h.small _ hb]; exact hsb b (fun k => e k.symm)
  rw [List.getElem?_set_ne e] at hx
  rw [List.getElem?_set_ne e'] at hz
  exact (h.inj b c x z hx hz ox oz hbc).1
/-- A state that is seen as another one, where the caller's variable has been written. -/
theorem Abs.byP {H M l1 l2 : AHeap} {F1 F2 : Fr} {bf : Nat} {b1 : ABlk} (b2 : ABlk) (hbel : HBel H.length H) (hbf : bf < H.length) (hM : M = H.set bf b1 ++ l1) (G : AHeap) (hG : G.all phant = true) (sel : List Nat) (hnd : sel.Nodup)
    (h : absF (H.length + (l1 ++ G).length) (sig H.length (l1 ++ G).length sel) F1 F2 ∧ b1 = b2.mv (sig H.length (l1 ++ G).length sel) ∧ absH (H.length + (l1 ++ G).length) (sig H.length (l1 ++ G).length sel) (l1 ++ G) sel l2) : Abs H.length (sig H.length (l1 ++ G).length sel) F1 M F2 (H.set bf b2 ++ l2) := by
  subst hM
  obtain ⟨hF, hb, ha⟩ := h
  have hl := (absH_get ha).1
  have hH := (absH_get ha).2
  have hn : (H.set bf .dead).length = H.length := List.length_set
  have hbel2 : HBel H.length (H.set bf .dead) := fun b x hx => by
    by_cases e : bf = b
    · subst e; rw [List.getElem?_set_self hbf] at hx; injection hx with hx; subst hx; rfl
    rw [List.getElem?_set_ne e] at hx; exact hbel b x hx
  have k := Abs0.of (n := H.length) (H0 := H.set bf .dead) (l1 := l1 ++ G) (l2 := l2) (F1 := F1) (F2 := F2) hn hbel2 sel hnd (absF_mem hF) hl hH
  have small : ∀ b, b < H.length → sig H.length (l1 ++ G).length sel b = b := fun b hb => by simp [sig, hb]
  have k2 := k.put (bf := bf) (fun c hc => by
      unfold sig
      rw [if_neg (by omega)]
      split <;> omega) (fun b hb => by
      simp only [List.length_append, List.length_set] at hb ⊢
      unfold sig at hb
      split at hb
      · omega
      · split at hb
        · rename_i q; have := getElem?_lt q; omega
        omega) (fun b x hx ho => by
      by_cases hbn : b < H.length
      · rw [small b hbn, List.getElem?_append_left (by rw [hn]; exact hbn)]
        rw [List.getElem?_append_left (by rw [hn]; exact hbn)] at hx
        exact ⟨x, hx, ho⟩
      rw [List.getElem?_append_right (by rw [hn]; omega), hn] at hx
      have hlt := getElem?_lt hx
      have h1 : sel[b - H.length]? = some (sel[b - H.length]'(by omega)) := List.getElem?_eq_getElem _
      have h2 : sig H.length (l1 ++ G).length sel b = H.length + sel[b - H.length]'(by omega) := by unfold sig; rw [if_neg hbn, h1]
      rw [h2, List.getElem?_append_right (by rw [hn]; omega), hn, show ∀ i : Nat, H.length + i - H.length = i from fun i => by omega]
      rcases hH _ _ x h1 hx with rfl | h4 | h4
      · cases ho
      · exact ⟨_, h4, by cases x <;> exact ho⟩
      exact h4.own (by cases x <;> exact ho)) hbf (by rw [List.getElem?_append_left (by rw [hn]; exact hbf)]; exact List.getElem?_set_self hbf) b2
  rw [put_put hbf, put_put hbf, ← hb, ← List.append_assoc] at k2
  exact ⟨G, hG, k2⟩
/-- At the end of a function that has written its caller's variable, with new blocks. -/
theorem end_put {P : Program} {fn : Func} {H M l1 l2 : AHeap} {bf : Nat} {b1 : ABlk} (b2 : ABlk) {R : AV → AHeap → Prop} {F : Fr} {e : Exit} (he : e = .ret ∨ e = .normal) (hbel : HBel H.length H) (hbf : bf < H.length) (hM : M = H.set bf b1 ++ l1) {x1 : AV} (x2 : AV) (hx : aResult P fn F M = some x1) (G : AHeap) (hG : G.all phant = true) (sel : List Nat) (hnd : sel.Nodup) (hR : R x2 (H.set bf b2 ++ l2))
    (h : W (H.length + (l1 ++ G).length) x1 (x2.mv (sig H.length (l1 ++ G).length sel)) ∧ b1 = b2.mv (sig H.length (l1 ++ G).length sel) ∧ absH (H.length + (l1 ++ G).length) (sig H.length (l1 ++ G).length sel) (l1 ++ G) sel l2) : AEnd P fn H.length R e F M := by
  have kk := Abs.byP (F1 := [(0, x1)]) (F2 := [(0, x2)]) b2 hbel hbf hM G hG sel hnd ⟨⟨h.1, trivial⟩, h.2⟩
  rcases he with rfl | rfl
  · exact ⟨x1, hx, _, x2, _, hR, kk⟩
  exact ⟨x1, hx, _, x2, _, hR, kk⟩
theorem Abs0.le {n m : Nat} {σ : Nat → Nat} {F1 F2 : Fr} {H1 H2 : AHeap} (h : Abs0 m σ F1 H1 F2 H2) (hn : n ≤ m) : Abs0 n σ F1 H1 F2 H2 :=
  ⟨fun b hb => h.small b (Nat.lt_of_lt_of_le hb hn), Nat.le_trans hn h.len, h.frame, h.heap, h.inj⟩
theorem Abs.le {n m : Nat} {σ : Nat → Nat} {F1 F2 : Fr} {H1 H2 : AHeap} (h : Abs m σ F1 H1 F2 H2) (hn : n ≤ m) : Abs n σ F1 H1 F2 H2 := by
  obtain ⟨G, hG, k⟩ := h
  exact ⟨G, hG, k.le hn⟩
theorem AEnd.le {P : Program} {fn : Func} {n m : Nat} {R : AV → AHeap → Prop} {e : Exit} {F : Fr} {H : AHeap} (h : AEnd P fn m R e F H) (hn : n ≤ m) : AEnd P fn n R e F H := by
  cases e with
  | normal => obtain ⟨x1, hx, σ, x2, H2, hr, ha⟩ := h; exact ⟨x1, hx, σ, x2, H2, hr, ha.le hn⟩
  | ret => obtain ⟨x1, hx, σ, x2, H2, hr, ha⟩ := h; exact ⟨x1, hx, σ, x2, H2, hr, ha.le hn⟩
  | _ => exact h
theorem grow1 {H X G : AHeap} {b : Nat} {x : ABlk} (hG : G = H ++ X) (h : ∀ l : AHeap, (H ++ l)[b]? = some x) : G[b]? = some x := by subst hG; exact h _
mutual
theorem bel_up1 {n m : Nat} (hn : n ≤ m) : ∀ x : AV, x.bel n = true → x.bel m = true
  | .any, _ => rfl
  | .int _ _, _ => rfl
  | .bool _, _ => rfl
  | .str _, _ => rfl
  | .ptr none, _ => rfl
  | .ptr (some (b, o)), h => by simp [AV.bel] at h ⊢; omega
  | .sl none _ _, _ => rfl
  | .sl (some (b, o)) _ _, h => by simp [AV.bel] at h ⊢; omega
  | .mp none, _ => rfl
  | .mp (some b), h => by simp [AV.bel] at h ⊢; omega
  | .nilfn, _ => rfl
  | .fn f caps, h => by simp only [AV.bel] at h ⊢; exact bel_up hn caps h
  | .agg cs, h => by simp only [AV.bel] at h ⊢; exact bel_up hn cs h
  | .tup cs, h => by simp only [AV.bel] at h ⊢; exact bel_up hn cs h
theorem bel_up {n m : Nat} (hn : n ≤ m) : ∀ xs : List AV, AV.bels n xs = true → AV.bels m xs = true
  | [], _ => rfl
  | x :: r, h => by
    simp only [AV.bels, Bool.and_eq_true] at h ⊢
    exact ⟨bel_up1 hn x h.1, bel_up hn r h.2⟩
end
theorem ABlk.bel_up {n m : Nat} (hn : n ≤ m) {x : ABlk} (h : x.bel n = true) : x.bel m = true := by
  cases x with
  | dead => rfl
  | cells o e xs => exact Go.Proofs.Ytcghekjnjbpeoaa.bel_up hn xs h
  | map es =>
    simp only [ABlk.bel, Bool.and_eq_true] at h ⊢
    exact ⟨Go.Proofs.Ytcghekjnjbpeoaa.bel_up hn _ h.1, Go.Proofs.Ytcghekjnjbpeoaa.bel_up hn _ h.2⟩
theorem hbel_grow {H X G : AHeap} (hG : G = H ++ X) (hb : HBel H.length H) (hX : ∀ x ∈ X, x.bel G.length = true) : HBel G.length G := fun b x hx => by
  subst hG
  rcases Nat.lt_or_ge b H.length with q | q
  · rw [List.getElem?_append_left q] at hx
    exact ABlk.bel_up (by simp) (hb b x hx)
  rw [List.getElem?_append_right q] at hx
  exact hX x (List.mem_of_getElem? hx)
theorem bels_ints {n : Nat} {k : IntKind} : ∀ {l : List Int}, AV.bels n (ints k l) = true
  | [] => rfl
  | p :: l => by rw [ints_cons]; simp only [AV.bels, AV.bel, bels_ints (l := l), Bool.true_and]
/-- One block more. -/
theorem grow_bel {G X : AHeap} {x : ABlk} (h : ∀ y ∈ X, y.bel G.length = true) (hx : x.bel (G ++ [x]).length = true) : ∀ y ∈ X ++ [x], y.bel (G ++ [x]).length = true := fun y hy => by
  rcases List.mem_append.1 hy with q | q
  · exact ABlk.bel_up (by simp) (h y q)
  rw [List.mem_singleton.1 q]; exact hx
theorem grow_len {G : AHeap} {x : ABlk} : (G ++ [x]).length = G.length + 1 := by simp
theorem Abs.byX {n : Nat} {H0 l1 l2 : AHeap} {x : ABlk} {F1 F2 : Fr} (hn : n ≤ H0.length) (hsc : HBel H0.length H0) (G : AHeap) (hG : G.all phant = true) (sel : List Nat) (hnd : sel.Nodup) (h : absF (H0.length + (l1 ++ G).length) (sig H0.length (l1 ++ G).length sel) F1 F2 ∧ absH (H0.length + (l1 ++ G).length) (sig H0.length (l1 ++ G).length sel) (l1 ++ G) sel (x :: l2)) : Abs n (sig H0.length (l1 ++ G).length sel) F1 (H0 ++ l1) F2 ((H0 ++ [x]) ++ l2) := by
  have k := (Abs.byG hsc G hG sel hnd h).le hn
  have e : H0 ++ x :: l2 = (H0 ++ [x]) ++ l2 := by simp
  rw [← e]; exact k
theorem pre_le {H G : AHeap} (h : ∃ X, G = H ++ X) : H.length ≤ G.length := by obtain ⟨X, rfl⟩ := h; simp
def mkv (p : Int × Int) : AV × AV := (.agg [.int .i64 p.1, .int .i64 p.2], .bool true)
/-- The map of a set of cells. -/
def mset (l : List (Int × Int)) : List (AV × AV) := l.map mkv
def memP (l : List (Int × Int)) (x y : Int) : Bool := decide ((x, y) ∈ l)
theorem memP_iff {l : List (Int × Int)} {x y : Int} : memP l x y = true ↔ (x, y) ∈ l := by simp [memP]
def insP (l : List (Int × Int)) (x y : Int) : List (Int × Int) := if memP l x y = true then l else l ++ [(x, y)]
def fdP : List (Int × Int) → Int → Int → Option (Nat × AV)
  | [], _, _ => none
  | p :: r, x, y => bif ((x == p.1) && ((y == p.2) && true)) then some (0, .bool true) else (fdP r x y).map fun q => (q.1 + 1, q.2)
theorem fdP_some : ∀ {l : List (Int × Int)} {x y : Int} {q : Nat × AV}, fdP l x y = some q → (x, y) ∈ l ∧ q.2 = .bool true ∧ l[q.1]? = some (x, y) ∧ l.eraseIdx q.1 = l.erase (x, y)
  | [], _, _, _, h => by cases h
  | p :: r, x, y, q, h => by
    unfold fdP at h
    by_cases e : p = (x, y)
    · subst e
      simp only [BEq.rfl, Bool.and_true, cond_true, Option.some.injEq] at h
      subst h
      exact ⟨List.mem_cons_self .., rfl, rfl, by simp⟩
    have hb : ((x == p.1) && ((y == p.2) && true)) = false := by
      rw [Bool.eq_false_iff]
      intro hh
      simp only [Bool.and_true, Bool.and_eq_true, beq_iff_eq] at hh
      exact e (Prod.ext hh.1.symm hh.2.symm)
    rw [hb] at h
    simp only [cond_false, Option.map_eq_some_iff] at h
    obtain ⟨q', hq, rfl⟩ := h
    obtain ⟨h1, h2, h3, h4⟩ := fdP_some hq
    refine ⟨List.mem_cons_of_mem _ h1, h2, h3, ?_⟩
    rw [List.erase_cons_tail (by simpa using e)]
    show p :: r.eraseIdx q'.1 = _
    rw [h4]
theorem fdP_none : ∀ {l : List (Int × Int)} {x y : Int}, fdP l x y = none → (x, y) ∉ l
  | [], _, _, _ => by simp
  | p :: r, x, y, h => by
    unfold fdP at h
    cases hb : ((x == p.1) && ((y == p.2) && true)) with
    | true => rw [hb] at h; cases h
    | false =>
      rw [hb] at h
      simp only [cond_false, Option.map_eq_none_iff] at h
      intro hm
      rcases List.mem_cons.1 hm with e | hm
      · subst e; simp at hb
      exact fdP_none h hm
section
variable {P : Program} {kt : TypeId}
theorem find_mblk (hE : ∀ a b c d : Int, aEq P 20 kt [.int .i64 a, .int .i64 b] [.int .i64 c, .int .i64 d] = some ((a == c) && ((b == d) && true))) (x y : Int) : ∀ l : List (Int × Int), aFind P kt [.int .i64 x, .int .i64 y] (l.map mkv) = some (fdP l x y)
  | [] => rfl
  | p :: r => by
    rw [List.map_cons]
    show (aEq P 20 kt [.int .i64 x, .int .i64 y] [.int .i64 p.1, .int .i64 p.2]).bind _ = _
    rw [hE, find_mblk hE x y r]
    show _ = some (bif ((x == p.1) && ((y == p.2) && true)) then some (0, .bool true) else (fdP r x y).map fun q => (q.1 + 1, q.2))
    cases ((x == p.1) && ((y == p.2) && true)) <;> rfl
theorem key_mblk (hE : ∀ a b c d : Int, aEq P 20 kt [.int .i64 a, .int .i64 b] [.int .i64 c, .int .i64 d] = some ((a == c) && ((b == d) && true))) (x y : Int) : aKey P kt (.agg [.int .i64 x, .int .i64 y]) = some [.int .i64 x, .int .i64 y] := by
  unfold aKey
  simp only [hE, Option.bind_some, sameInts, decide_true, Bool.and_true, need, if_true, Option.map_some]
end
def lkM (P : Program) (t : TypeId) (B : Option ABlk) (k : AV) : Option AV :=
  match B with
  | some (.map es) => (tMap P t).bind fun p => (aKey P p.1 k).bind fun ks => (aFind P p.1 ks es).bind fun o => (need (tZeroOk P p.2 = true)).bind fun _ => (zeroAV P p.2).map fun z => match o with | some q => q.2 | none => z
  | _ => none
def upM (P : Program) (t : TypeId) (B : Option ABlk) (k x : AV) : Option ABlk :=
  match B with
  | some (.map es) => (tMap P t).bind fun p => (aKey P p.1 k).bind fun ks => (aFind P p.1 ks es).bind fun o =>
      match o with
      | none => some (.map (es ++ [(.agg ks, x)]))
      | some q => (need ((match es[q.1]? with | some (.agg ks', _) => sameInts ks' ks | _ => false) = true)).map fun _ => .map (es.set q.1 (.agg ks, x))
  | _ => none
def deM (P : Program) (t : TypeId) (B : Option ABlk) (k : AV) : Option ABlk :=
  match B with
  | some (.map es) => (tMap P t).bind fun p => (aKey P p.1 k).bind fun ks => (aFind P p.1 ks es).map fun o =>
      match o with
      | none => .map es
      | some q => .map (es.eraseIdx q.1)
  | _ => none
theorem lk_eq {P : Program} {t : TypeId} {b : Nat} {k : AV} {H : AHeap} : aLookup P t (.mp (some b)) k false H = lkM P t H[b]? k := by
  unfold aLookup lkM aEnts
  cases tMap P t with
  | none => simp only [Option.bind_none]; split <;> rfl
  | some p =>
    simp only [Option.bind_some]
    cases H[b]? with
    | none => rfl
    | some x => cases x <;> rfl
def lkG (P : Program) (t : TypeId) (m k : AV) (ok : Bool) (H : AHeap) : Option AV := aLookup P t m k ok H
/-- As general as the definition's own equation, and ahead of it in the list. -/
theorem lk_gen {P : Program} {t : TypeId} {m k : AV} {ok : Bool} {H : AHeap} : aLookup P t m k ok H = lkG P t m k ok H := rfl
theorem lk_mp {P : Program} {t : TypeId} {b : Nat} {k : AV} {H : AHeap} : lkG P t (.mp (some b)) k false H = lkM P t H[b]? k := lk_eq
theorem up_eq {P : Program} {t : TypeId} {b : Nat} {k x : AV} {H : AHeap} : aMapUpdate P t (.mp (some b)) k x H = (upM P t H[b]? k x).map fun y => H.set b y := by
  unfold aMapUpdate upM
  simp only
  cases H[b]? with
  | none => rfl
  | some z =>
    cases z with
    | map es =>
      simp only
      cases tMap P t with
      | none => rfl
      | some p =>
        simp only [Option.bind_some]
        cases aKey P p.1 k with
        | none => rfl
        | some ks =>
          simp only [Option.bind_some]
          cases aFind P p.1 ks es with
          | none => rfl
          | some o =>
            simp only [Option.bind_some]
            cases o with
            | none => rfl
            | some q => simp only [Option.map_map]; rfl
    | _ => rfl
theorem de_eq {P : Program} {t : TypeId} {b : Nat} {k : AV} {H : AHeap} : aDelete P t (.mp (some b)) k H = (deM P t H[b]? k).map fun y => H.set b y := by
  unfold aDelete deM
  simp only
  cases H[b]? with
  | none => rfl
  | some z =>
    cases z with
    | map es =>
      simp only
      cases tMap P t with
      | none => rfl
      | some p =>
        simp only [Option.bind_some]
        cases aKey P p.1 k with
        | none => rfl
        | some ks =>
          simp only [Option.bind_some]
          cases aFind P p.1 ks es with
          | none => rfl
          | some o => cases o <;> rfl
    | _ => rfl
section
variable {P : Program} {t kt et : TypeId} (hT : tMap P t = some (kt, et)) (hE : ∀ a b c d : Int, aEq P 20 kt [.int .i64 a, .int .i64 b] [.int .i64 c, .int .i64 d] = some ((a == c) && ((b == d) && true)))
include hT hE
theorem lk_mblk (hz : tZeroOk P et = true) (h0 : zeroAV P et = some (.bool false)) (l : List (Int × Int)) (x y : Int) : lkM P t (some (.map (mset l))) (.agg [.int .i64 x, .int .i64 y]) = some (.bool (memP l x y)) := by
  unfold lkM mset
  simp only [hT, Option.bind_some, key_mblk hE, find_mblk hE, hz, need, if_true, h0, Option.map_some]
  cases h : fdP l x y with
  | none => simp [memP, fdP_none h]
  | some q => obtain ⟨h1, h2, -⟩ := fdP_some h; simp [memP, h1, h2]
theorem up_mblk (l : List (Int × Int)) (x y : Int) : upM P t (some (.map (mset l))) (.agg [.int .i64 x, .int .i64 y]) (.bool true) = some (.map (mset (insP l x y))) := by
  unfold upM mset
  simp only [hT, Option.bind_some, key_mblk hE, find_mblk hE]
  unfold insP
  cases h : fdP l x y with
  | none =>
    have hm : memP l x y = false := by simp [memP, fdP_none h]
    rw [hm]
    simp [mkv]
  | some q =>
    obtain ⟨h1, h2, h3, -⟩ := fdP_some h
    have hm : memP l x y = true := memP_iff.2 h1
    have hg : (l.map mkv)[q.1]? = some (.agg [.int .i64 x, .int .i64 y], .bool true) := by rw [List.getElem?_map, h3]; rfl
    have hs : (l.map mkv).set q.1 (.agg [.int .i64 x, .int .i64 y], .bool true) = l.map mkv := by
      refine List.ext_getElem? fun j => ?_
      rw [List.getElem?_set]
      split
      · rename_i e; subst e
        rw [hg, if_pos (getElem?_lt hg)]
      rfl
    rw [if_pos hm]
    simp only [hg, sameInts, decide_true, Bool.and_true, need, if_true, Option.map_some, hs]
theorem de_mblk (l : List (Int × Int)) (x y : Int) : deM P t (some (.map (mset l))) (.agg [.int .i64 x, .int .i64 y]) = some (.map (mset (l.erase (x, y)))) := by
  unfold deM mset
  simp only [hT, Option.bind_some, key_mblk hE, find_mblk hE, Option.map_some]
  cases h : fdP l x y with
  | none => rw [List.erase_of_not_mem (fdP_none h)]
  | some q =>
    obtain ⟨-, -, -, h4⟩ := fdP_some h
    simp only [Option.some.injEq, ABlk.map.injEq]
    rw [← h4]
    exact erase_map mkv l q.1
end
theorem mset_nil : mset [] = [] := rfl
theorem mv_mset {σ : Nat → Nat} (l : List (Int × Int)) : List.map (fun p => (AV.mv σ p.1, AV.mv σ p.2)) (mset l) = mset l := by
  unfold mset
  rw [List.map_map]
  rfl
/-- The list's element, or none. -/
def gc (cs : List (List (Int × Int))) (a : Nat) : List (Int × Int) := cs.getD a []
theorem gc_lt {cs : List (List (Int × Int))} {a : Nat} (h : a < cs.length) : gc cs a = cs[a] := by simp [gc, List.getD_eq_getElem?_getD, h]
/-- Slices that lie block behind block, from block n on. -/
def slr : Nat → List (List (Int × Int)) → List AV
  | _, [] => []
  | n, c :: r => .sl (some (n, 0)) c.length none :: slr (n + 1) r
def cblk (c : List (Int × Int)) : ABlk := .cells true 2 (prs c)
theorem slr_nil {n : Nat} : slr n [] = [] := rfl
theorem slr_len : ∀ {n : Nat} {cs : List (List (Int × Int))}, (slr n cs).length = cs.length
  | _, [] => rfl
  | n, c :: r => by simp only [slr, List.length_cons, slr_len]
theorem slr_ones : ∀ {n : Nat} {cs : List (List (Int × Int))}, (slr n cs).all AV.one = true
  | _, [] => rfl
  | n, c :: r => by simp only [slr, List.all_cons, slr_ones, AV.one, Bool.and_true]
theorem slr_snoc {c : List (Int × Int)} : ∀ {n : Nat} {cs : List (List (Int × Int))}, slr n (cs ++ [c]) = slr n cs ++ [.sl (some (n + cs.length, 0)) c.length none]
  | n, [] => rfl
  | n, d :: r => by
    rw [List.cons_append]
    simp only [slr, slr_snoc (n := n + 1) (cs := r), List.length_cons, List.cons_append]
    rw [show n + 1 + r.length = n + (r.length + 1) by omega]
theorem slr_get : ∀ {n : Nat} {cs : List (List (Int × Int))} {i : Nat}, i < cs.length → (slr n cs)[i]? = some (.sl (some (n + i, 0)) (gc cs i).length none)
  | n, d :: r, 0, _ => rfl
  | n, d :: r, i + 1, h => by
    have := slr_get (n := n + 1) (cs := r) (i := i) (by simpa using h)
    rw [show n + 1 + i = n + (i + 1) by omega] at this
    exact this
theorem mvs_slr {m k : Nat} {sel : List Nat} : ∀ {n : Nat} {cs : List (List (Int × Int))}, n + cs.length ≤ m → AV.mvs (sig m k sel) (slr n cs) = slr n cs
  | _, [], _ => rfl
  | n, c :: r, h => by
    simp only [List.length_cons] at h
    have ih := mvs_slr (m := m) (k := k) (sel := sel) (n := n + 1) (cs := r) (by omega)
    have hs := sig_lt (n := m) (m := k) (sel := sel) (b := n) (by omega)
    simp only [slr, AV.mvs, AV.mv, ih, hs]
theorem bels_slr {m : Nat} : ∀ {n : Nat} {cs : List (List (Int × Int))}, n + cs.length ≤ m → AV.bels m (slr n cs) = true
  | _, [], _ => rfl
  | n, c :: r, h => by
    simp only [List.length_cons] at h
    have ih := bels_slr (m := m) (n := n + 1) (cs := r) (by omega)
    have hs : n < m := by omega
    simp only [slr, AV.bels, AV.bel, ih, hs, decide_true, Bool.and_true]
theorem cblk_get {H K : AHeap} {cs : List (List (Int × Int))} {i : Nat} (h : i < cs.length) : (H ++ (cs.map cblk ++ K))[H.length + i]? = some (.cells true 2 (prs (gc cs i))) := by
  rw [List.getElem?_append_right (by omega), Nat.add_sub_cancel_left, List.getElem?_append_left (by simpa using h), List.getElem?_map, List.getElem?_eq_getElem h, gc_lt h]
  rfl
theorem grow_at {H L X G : AHeap} {row : ABlk} {cs : List (List (Int × Int))} {n : Nat} (hG : G = H ++ (L ++ (X ++ [row]))) (hX : X = cs.map cblk) (hn : n = (H ++ L).length) : ∀ i, i < cs.length → G[n + i]? = some (.cells true 2 (prs (gc cs i))) := by
  intro i hi
  subst hG hX hn
  have := cblk_get (H := H ++ L) (K := [row]) hi
  rw [List.append_assoc] at this
  exact this
end Go.Proofs.Ytcghekjnjbpeoaa
namespace Go.Proofs
open Go.Shelf
def Try.lays128_ren : Go.Shelf.Ren := ⟨fun | 128 => 62 | n => n, fun | 51 => 93 | 3 => 3 | 4 => 4 | 46 => 72 | 5 => 5 | 9 => 9 | n => n, fun | n => n⟩
theorem Try.lays128 : Go.Proofs.Lays.n128 Try.prog Try.lays128_ren := {
  mixed := by kernel_rfl
  f128 := Try.func62.trans (congrArg some (by kernel_rfl))
  t3 := Try.underlying3
  a3 := Try.isAgg3
  z3 := Try.sizeOf3
  v3 := Try.zeroValue3
  t4 := Try.underlying4
  a4 := Try.isAgg4
  z4 := Try.sizeOf4
  v4 := Try.zeroValue4
  t5 := Try.underlying5
  a5 := Try.isAgg5
  z5 := Try.sizeOf5
  v5 := Try.zeroValue5
  t9 := Try.underlying9
  a9 := Try.isAgg9
  z9 := Try.sizeOf9
  v9 := Try.zeroValue9
  t46 := Try.underlying72
  a46 := Try.isAgg72
  z46 := Try.sizeOf72
  v46 := Try.zeroValue72
  t51 := Try.underlying93
  a51 := Try.isAgg93
  z51 := Try.sizeOf93
  v51 := Try.zeroValue93 }
theorem Try.bits_Len32 (x : Int) (w : World) (h0 : 0 ≤ x) (h1 : x ≤ 4294967295) :
    Calls Try.prog 62 #[.int .u32 x] w fun e w' => e = .returned (.int .i64 (Lib.bitLen x.toNat)) ∧ w' = w := Any.bits_Len32 Try.lays128 x w h0 h1
def Try.lays125_ren : Go.Shelf.Ren := ⟨fun | 125 => 44 | 128 => 62 | 129 => 63 | n => n, fun | 46 => 72 | 3 => 3 | 51 => 93 | 53 => 95 | 4 => 4 | 5 => 5 | 9 => 9 | n => n, fun | n => n⟩
theorem Try.lays125 : Go.Proofs.Lays.n125 Try.prog Try.lays125_ren := {
  mixed := by kernel_rfl
  f125 := Try.func44.trans (congrArg some (by kernel_rfl))
  f128 := Try.func62.trans (congrArg some (by kernel_rfl))
  f129 := Try.func63.trans (congrArg some (by kernel_rfl))
  t3 := Try.underlying3
  a3 := Try.isAgg3
  z3 := Try.sizeOf3
  v3 := Try.zeroValue3
  t4 := Try.underlying4
  a4 := Try.isAgg4
  z4 := Try.sizeOf4
  v4 := Try.zeroValue4
  t5 := Try.underlying5
  a5 := Try.isAgg5
  z5 := Try.sizeOf5
  v5 := Try.zeroValue5
  t9 := Try.underlying9
  a9 := Try.isAgg9
  z9 := Try.sizeOf9
  v9 := Try.zeroValue9
  t46 := Try.underlying72
  a46 := Try.isAgg72
  z46 := Try.sizeOf72
  v46 := Try.zeroValue72
  t51 := Try.underlying93
  a51 := Try.isAgg93
  z51 := Try.sizeOf93
  v51 := Try.zeroValue93
  t53 := Try.underlying95
  a53 := Try.isAgg95
  z53 := Try.sizeOf95
  v53 := Try.zeroValue95 }
theorem Try.bits_Len (x : Int) (w : World) (h0 : 0 ≤ x) (h1 : x ≤ 18446744073709551615) :
    Calls Try.prog 44 #[.int .u64 x] w fun e w' => e = .returned (.int .i64 (Lib.bitLen x.toNat)) ∧ w' = w := Any.bits_Len Try.lays125 x w h0 h1
def Try.lays129_ren : Go.Shelf.Ren := ⟨fun | 129 => 63 | n => n, fun | 53 => 95 | 3 => 3 | 4 => 4 | 46 => 72 | 5 => 5 | 9 => 9 | n => n, fun | n => n⟩
theorem Try.lays129 : Go.Proofs.Lays.n129 Try.prog Try.lays129_ren := {
  mixed := by kernel_rfl
  f129 := Try.func63.trans (congrArg some (by kernel_rfl))
  t3 := Try.underlying3
  a3 := Try.isAgg3
  z3 := Try.sizeOf3
  v3 := Try.zeroValue3
  t4 := Try.underlying4
  a4 := Try.isAgg4
  z4 := Try.sizeOf4
  v4 := Try.zeroValue4
  t5 := Try.underlying5
  a5 := Try.isAgg5
  z5 := Try.sizeOf5
  v5 := Try.zeroValue5
  t9 := Try.underlying9
  a9 := Try.isAgg9
  z9 := Try.sizeOf9
  v9 := Try.zeroValue9
  t46 := Try.underlying72
  a46 := Try.isAgg72
  z46 := Try.sizeOf72
  v46 := Try.zeroValue72
  t53 := Try.underlying95
  a53 := Try.isAgg95
  z53 := Try.sizeOf95
  v53 := Try.zeroValue95 }
theorem Try.bits_Len64 (x : Int) (w : World) (h0 : 0 ≤ x) (h1 : x ≤ 18446744073709551615) :
    Calls Try.prog 63 #[.int .u64 x] w fun e w' => e = .returned (.int .i64 (Lib.bitLen x.toNat)) ∧ w' = w := Any.bits_Len64 Try.lays129 x w h0 h1
def Try.lays264_ren : Go.Shelf.Ren := ⟨fun | 264 => 82 | n => n, fun | 53 => 95 | 46 => 72 | n => n, fun | n => n⟩
theorem Try.lays264 : Go.Proofs.Lays.n264 Try.prog Try.lays264_ren := {
  mixed := by kernel_rfl
  f264 := Try.func82.trans (congrArg some (by kernel_rfl))
  t46 := Try.underlying72
  a46 := Try.isAgg72
  z46 := Try.sizeOf72
  v46 := Try.zeroValue72
  t53 := Try.underlying95
  a53 := Try.isAgg95
  z53 := Try.sizeOf95
  v53 := Try.zeroValue95 }
open Go.RowKit Go.Lib in
theorem Try.bits_Mul64 (x y : Nat) (hx : x < 18446744073709551616) (hy : y < 18446744073709551616) (w : World) :
    Calls Try.prog 82 #[.int .u64 x, .int .u64 y] w fun e w' => e = .returned (.tuple #[.int .u64 ((x * y / 18446744073709551616 : Nat) : Int), .int .u64 ((x * y % 18446744073709551616 : Nat) : Int)]) ∧ w' = w := Any.bits_Mul64 Try.lays264 x y hx hy w
def Try.lays212_ren : Go.Shelf.Ren := ⟨fun | 212 => 72 | 263 => 81 | 264 => 82 | n => n, fun | 46 => 72 | 51 => 93 | 146 => 112 | 53 => 95 | 148 => 114 | n => n, fun | n => n⟩
theorem Try.lays212 : Go.Proofs.Lays.n212 Try.prog Try.lays212_ren := {
  mixed := by kernel_rfl
  f212 := Try.func72.trans (congrArg some (by kernel_rfl))
  f263 := Try.func81.trans (congrArg some (by kernel_rfl))
  f264 := Try.func82.trans (congrArg some (by kernel_rfl))
  t46 := Try.underlying72
  a46 := Try.isAgg72
  z46 := Try.sizeOf72
  v46 := Try.zeroValue72
  t51 := Try.underlying93
  a51 := Try.isAgg93
  z51 := Try.sizeOf93
  v51 := Try.zeroValue93
  t53 := Try.underlying95
  a53 := Try.isAgg95
  z53 := Try.sizeOf95
  v53 := Try.zeroValue95
  t146 := Try.underlying112
  a146 := Try.isAgg112
  z146 := Try.sizeOf112
  v146 := Try.zeroValue112
  t148 := Try.underlying114
  a148 := Try.isAgg114
  z148 := Try.sizeOf114
  v148 := Try.zeroValue114 }
theorem Try.bits_Mul (x y : Nat) (hx : x < 18446744073709551616) (hy : y < 18446744073709551616) (w : World) :
    Calls Try.prog 72 #[.int .u64 x, .int .u64 y] w fun e w' => e = .returned (.tuple #[.int .u64 ((x * y / 18446744073709551616 : Nat) : Int), .int .u64 ((x * y % 18446744073709551616 : Nat) : Int)]) ∧ w' = w := Any.bits_Mul Try.lays212 x y hx hy w
def Try.sort23_ren : Go.Shelf.Ren := ⟨fun | 6 => 23 | 15 => 44 | 14 => 43 | 28 => 62 | 29 => 63 | 20 => 54 | 21 => 55 | 22 => 56 | 23 => 57 | 24 => 58 | 25 => 59 | 26 => 60 | 27 => 61 | 46 => 73 | 47 => 74 | 48 => 75 | 49 => 76 | 50 => 77 | 57 => 83 | n => n, fun | 22 => 27 | 24 => 36 | 25 => 53 | 3 => 3 | 39 => 72 | 0 => 0 | 53 => 93 | 55 => 95 | 4 => 4 | 46 => 86 | 45 => 85 | 50 => 90 | 5 => 5 | 9 => 9 | 66 => 105 | 70 => 82 | 76 => 116 | 77 => 117 | n => n, fun | n => n⟩
theorem Try.sort23 : Go.Proofs.SlLaysF0.n6 Try.prog Try.sort23_ren := {
  mixed := by kernel_rfl
  f6 := ⟨Try.f23.name, by decide, Try.func23.trans (congrArg some (by kernel_rfl))⟩
  f14 := ⟨Try.f43.name, by decide, Try.func43.trans (congrArg some (by kernel_rfl))⟩
  f15 := Try.func44.trans (congrArg some (by kernel_rfl))
  f20 := ⟨Try.f54.name, by decide, Try.func54.trans (congrArg some (by kernel_rfl))⟩
  f21 := ⟨Try.f55.name, by decide, Try.func55.trans (congrArg some (by kernel_rfl))⟩
  f22 := ⟨Try.f56.name, by decide, Try.func56.trans (congrArg some (by kernel_rfl))⟩
  f23 := ⟨Try.f57.name, by decide, Try.func57.trans (congrArg some (by kernel_rfl))⟩
  f24 := ⟨Try.f58.name, by decide, Try.func58.trans (congrArg some (by kernel_rfl))⟩
  f25 := ⟨Try.f59.name, by decide, Try.func59.trans (congrArg some (by kernel_rfl))⟩
  f26 := ⟨Try.f60.name, by decide, Try.func60.trans (congrArg some (by kernel_rfl))⟩
  f27 := ⟨Try.f61.name, by decide, Try.func61.trans (congrArg some (by kernel_rfl))⟩
  f28 := Try.func62.trans (congrArg some (by kernel_rfl))
  f29 := Try.func63.trans (congrArg some (by kernel_rfl))
  f46 := ⟨Try.f73.name, by decide, Try.func73.trans (congrArg some (by kernel_rfl))⟩
  f47 := Try.func74.trans (congrArg some (by kernel_rfl))
  f48 := Try.func75.trans (congrArg some (by kernel_rfl))
  f49 := ⟨Try.f76.name, by decide, Try.func76.trans (congrArg some (by kernel_rfl))⟩
  f50 := ⟨Try.f77.name, by decide, Try.func77.trans (congrArg some (by kernel_rfl))⟩
  f57 := ⟨Try.f83.name, by decide, Try.func83.trans (congrArg some (by kernel_rfl))⟩
  t0 := Try.underlying0
  a0 := Try.isAgg0
  z0 := Try.sizeOf0
  v0 := Try.zeroValue0
  t3 := Try.underlying3
  a3 := Try.isAgg3
  z3 := Try.sizeOf3
  v3 := Try.zeroValue3
  t4 := Try.underlying4
  a4 := Try.isAgg4
  z4 := Try.sizeOf4
  v4 := Try.zeroValue4
  t5 := Try.underlying5
  a5 := Try.isAgg5
  z5 := Try.sizeOf5
  v5 := Try.zeroValue5
  t9 := Try.underlying9
  a9 := Try.isAgg9
  z9 := Try.sizeOf9
  v9 := Try.zeroValue9
  t22 := Try.underlying27
  a22 := Try.isAgg27
  z22 := Try.sizeOf27
  v22 := Try.zeroValue27
  t25 := Try.underlying53
  a25 := Try.isAgg53
  z25 := Try.sizeOf53
  v25 := Try.zeroValue53
  t39 := Try.underlying72
  a39 := Try.isAgg72
  z39 := Try.sizeOf72
  v39 := Try.zeroValue72
  t45 := Try.underlying85
  a45 := Try.isAgg85
  z45 := Try.sizeOf85
  v45 := Try.zeroValue85
  t46 := Try.underlying86
  a46 := Try.isAgg86
  z46 := Try.sizeOf86
  v46 := Try.zeroValue86
  t50 := Try.underlying90
  a50 := Try.isAgg90
  z50 := Try.sizeOf90
  v50 := Try.zeroValue90
  t53 := Try.underlying93
  a53 := Try.isAgg93
  z53 := Try.sizeOf93
  v53 := Try.zeroValue93
  t55 := Try.underlying95
  a55 := Try.isAgg95
  z55 := Try.sizeOf95
  v55 := Try.zeroValue95
  t66 := Try.underlying105
  a66 := Try.isAgg105
  z66 := Try.sizeOf105
  v66 := Try.zeroValue105
  t70 := Try.underlying82
  a70 := Try.isAgg82
  z70 := Try.sizeOf82
  v70 := Try.zeroValue82
  t76 := Try.underlying116
  a76 := Try.isAgg116
  z76 := Try.sizeOf116
  v76 := Try.zeroValue116
  t77 := Try.underlying117
  a77 := Try.isAgg117
  z77 := Try.sizeOf117
  v77 := Try.zeroValue117 }
def Try.sort28_ren : Go.Shelf.Ren := ⟨fun | 6 => 28 | 15 => 44 | 14 => 45 | 28 => 62 | 29 => 63 | 20 => 64 | 21 => 65 | 22 => 66 | 23 => 67 | 24 => 68 | 25 => 69 | 26 => 70 | 27 => 71 | 46 => 78 | 47 => 74 | 48 => 75 | 49 => 79 | 50 => 80 | 57 => 84 | n => n, fun | 22 => 39 | 24 => 45 | 25 => 60 | 3 => 3 | 39 => 72 | 0 => 0 | 53 => 93 | 55 => 95 | 4 => 4 | 46 => 86 | 45 => 85 | 50 => 90 | 5 => 5 | 9 => 9 | 66 => 105 | 70 => 82 | 76 => 116 | 77 => 117 | n => n, fun | n => n⟩
theorem Try.sort28 : Go.Proofs.SlLaysF0.n6 Try.prog Try.sort28_ren := {
  mixed := by kernel_rfl
  f6 := ⟨Try.f28.name, by decide, Try.func28.trans (congrArg some (by kernel_rfl))⟩
  f14 := ⟨Try.f45.name, by decide, Try.func45.trans (congrArg some (by kernel_rfl))⟩
  f15 := Try.func44.trans (congrArg some (by kernel_rfl))
  f20 := ⟨Try.f64.name, by decide, Try.func64.trans (congrArg some (by kernel_rfl))⟩
  f21 := ⟨Try.f65.name, by decide, Try.func65.trans (congrArg some (by kernel_rfl))⟩
  f22 := ⟨Try.f66.name, by decide, Try.func66.trans (congrArg some (by kernel_rfl))⟩
  f23 := ⟨Try.f67.name, by decide, Try.func67.trans (congrArg some (by kernel_rfl))⟩
  f24 := ⟨Try.f68.name, by decide, Try.func68.trans (congrArg some (by kernel_rfl))⟩
  f25 := ⟨Try.f69.name, by decide, Try.func69.trans (congrArg some (by kernel_rfl))⟩
  f26 := ⟨Try.f70.name, by decide, Try.func70.trans (congrArg some (by kernel_rfl))⟩
  f27 := ⟨Try.f71.name, by decide, Try.func71.trans (congrArg some (by kernel_rfl))⟩
  f28 := Try.func62.trans (congrArg some (by kernel_rfl))
  f29 := Try.func63.trans (congrArg some (by kernel_rfl))
  f46 := ⟨Try.f78.name, by decide, Try.func78.trans (congrArg some (by kernel_rfl))⟩
  f47 := Try.func74.trans (congrArg some (by kernel_rfl))
  f48 := Try.func75.trans (congrArg some (by kernel_rfl))
  f49 := ⟨Try.f79.name, by decide, Try.func79.trans (congrArg some (by kernel_rfl))⟩
  f50 := ⟨Try.f80.name, by decide, Try.func80.trans (congrArg some (by kernel_rfl))⟩
  f57 := ⟨Try.f84.name, by decide, Try.func84.trans (congrArg some (by kernel_rfl))⟩
  t0 := Try.underlying0
  a0 := Try.isAgg0
  z0 := Try.sizeOf0
  v0 := Try.zeroValue0
  t3 := Try.underlying3
  a3 := Try.isAgg3
  z3 := Try.sizeOf3
  v3 := Try.zeroValue3
  t4 := Try.underlying4
  a4 := Try.isAgg4
  z4 := Try.sizeOf4
  v4 := Try.zeroValue4
  t5 := Try.underlying5
  a5 := Try.isAgg5
  z5 := Try.sizeOf5
  v5 := Try.zeroValue5
  t9 := Try.underlying9
  a9 := Try.isAgg9
  z9 := Try.sizeOf9
  v9 := Try.zeroValue9
  t22 := Try.underlying39
  a22 := Try.isAgg39
  z22 := Try.sizeOf39
  v22 := Try.zeroValue39
  t25 := Try.underlying60
  a25 := Try.isAgg60
  z25 := Try.sizeOf60
  v25 := Try.zeroValue60
  t39 := Try.underlying72
  a39 := Try.isAgg72
  z39 := Try.sizeOf72
  v39 := Try.zeroValue72
  t45 := Try.underlying85
  a45 := Try.isAgg85
  z45 := Try.sizeOf85
  v45 := Try.zeroValue85
  t46 := Try.underlying86
  a46 := Try.isAgg86
  z46 := Try.sizeOf86
  v46 := Try.zeroValue86
  t50 := Try.underlying90
  a50 := Try.isAgg90
  z50 := Try.sizeOf90
  v50 := Try.zeroValue90
  t53 := Try.underlying93
  a53 := Try.isAgg93
  z53 := Try.sizeOf93
  v53 := Try.zeroValue93
  t55 := Try.underlying95
  a55 := Try.isAgg95
  z55 := Try.sizeOf95
  v55 := Try.zeroValue95
  t66 := Try.underlying105
  a66 := Try.isAgg105
  z66 := Try.sizeOf105
  v66 := Try.zeroValue105
  t70 := Try.underlying82
  a70 := Try.isAgg82
  z70 := Try.sizeOf82
  v70 := Try.zeroValue82
  t76 := Try.underlying116
  a76 := Try.isAgg116
  z76 := Try.sizeOf116
  v76 := Try.zeroValue116
  t77 := Try.underlying117
  a77 := Try.isAgg117
  z77 := Try.sizeOf117
  v77 := Try.zeroValue117 }
end Go.Proofs
namespace Go.Proofs.Ytcghekjnjbpeoaa
set_option linter.unusedSimpArgs false
set_option linter.unusedVariables false
open Go.RowKit Go.Sort
theorem below_grow (w : World) (os : Array Obj) : Below w.heap.size w (Go.Sort.grow w os) := ⟨rfl, rfl, rfl, by simp [grow], fun k hk => heap_grow_old w os hk⟩
theorem splice_all {xs ys : List AV} (h : ys.length = xs.length) : splice xs 0 ys = ys := by
  have hl : 0 + ys.length ≤ xs.length := by omega
  refine List.ext_getElem? fun j => ?_
  rw [splice_get hl]
  by_cases hj : j < ys.length
  · rw [if_pos ⟨by omega, by omega⟩, Nat.sub_zero]
  rw [if_neg (by omega), List.getElem?_eq_none (by omega), List.getElem?_eq_none (by omega)]
theorem rels_prs {E : Env} : ∀ (l : List (Int × Int)), RelL E (prs l) (enc2 l)
  | [] => .nil E
  | p :: l => .cons (.int _ _) (.cons (.int _ _) (rels_prs l))
theorem prs_onef : ∀ (l : List (Int × Int)), (prs l).all AV.one = true
  | [] => rfl
  | p :: l => by rw [prs_cons]; simp [AV.one, prs_onef l]
section
variable {E : Env} {H : AHeap} {w : World}
theorem Emb.putP (h : Emb E H w) {b q : Nat} {zs ys : List (Int × Int)} (hg : H[b]? = some (.cells true 2 (prs zs))) (hl : ys.length = zs.length) (os : Array Obj) :
    Emb E (H.set b (.cells true 2 (prs ys))) (Go.Sort.grow ((w.drewN q).setCells (E.loc b).blk ((E.loc b).off) (enc2 ys)) os) := by
  have h0 : Emb E H (w.drewN q) := h.up (below_drewN (Below.refl _ _) q)
  have hw : awrite H b 0 (prs ys) = some (H.set b (.cells true 2 (prs ys))) := by
    unfold awrite
    rw [hg]
    simp only
    rw [if_pos ⟨by simp [prs_len, hl], prs_onef ys⟩, splice_all (by simp [prs_len, hl])]
  exact ((h0.write (rels_prs ys) hw).2.2.2).up (below_grow _ os)
end
/-- Elements as their two cells. -/
def encP {α : Type} (val : α → Int × Int) (x : α) : List Value := [.int .i64 (val x).1, .int .i64 (val x).2]
theorem flat_list {α : Type} [Inhabited α] (val : α → Int × Int) (zs : List α) : flatK (encP val) 2 zs.toArray = (enc2 (zs.map val)).toArray := by
  refine ext_get! (by simp [enc2_len]) fun t ht => ?_
  have ht' : t < zs.length * 2 := by simpa using ht
  rw [get_flatK _ _ _ _ (by simpa using ht')]
  have hj : t / 2 < zs.length := by omega
  obtain ⟨e1, e2⟩ := enc2_at (zs.map val) (t / 2) (by simpa using hj)
  have hx : zs.toArray[t / 2]! = zs[t / 2] := by simp [hj]
  rw [hx]
  have hr : (enc2 (zs.map val)).toArray[t]! = ((enc2 (zs.map val))[t]?).getD default := by simp [List.getElem!_eq_getElem?_getD]
  rw [hr]
  rcases Nat.mod_two_eq_zero_or_one t with h | h
  · have : t = t / 2 * 2 := by omega
    rw [← this] at e1
    rw [h, e1]
    simp [encP]
  have : t = t / 2 * 2 + 1 := by omega
  rw [← this] at e2
  rw [h, e2]
  simp [encP]
abbrev Pt := Int × Int
def crs (a b : Pt) : Int := a.1 * b.2 - a.2 * b.1
/-- In the upper half plane (or on its right border), and not zero. -/
def up (p : Pt) : Prop := 0 < p.2 ∨ (p.2 = 0 ∧ 0 < p.1)
instance (p : Pt) : Decidable (up p) := inferInstanceAs (Decidable (_ ∨ _))
theorem crs_self (a : Pt) : crs a a = 0 := by unfold crs; rw [Int.mul_comm]; omega
theorem crs_anti (a b : Pt) : crs b a = -crs a b := by unfold crs; rw [Int.mul_comm b.1, Int.mul_comm b.2]; omega
def padd (a b : Pt) : Pt := (a.1 + b.1, a.2 + b.2)
theorem padd_comm (a b : Pt) : padd a b = padd b a := by unfold padd; rw [Int.add_comm, Int.add_comm a.2]
theorem padd_assoc (a b c : Pt) : padd (padd a b) c = padd a (padd b c) := by simp [padd, Int.add_assoc]
theorem padd_zero (a : Pt) : padd a (0, 0) = a := by simp [padd]
theorem zero_padd (a : Pt) : padd (0, 0) a = a := by simp [padd]
/-- The sum of those that are parallel to g. -/
def dsum : List Pt → Pt → Pt
  | [], _ => (0, 0)
  | h :: l, g => if crs h g = 0 then padd h (dsum l g) else dsum l g
theorem dsum_append (g : Pt) : ∀ l m : List Pt, dsum (l ++ m) g = padd (dsum l g) (dsum m g)
  | [], m => by rw [List.nil_append]; exact (zero_padd _).symm
  | h :: l, m => by
    simp only [List.cons_append, dsum, dsum_append g l m]
    split
    · rw [padd_assoc]
    rfl
theorem dsum_perm {l m : List Pt} (g : Pt) (h : l.Perm m) : dsum l g = dsum m g := by
  induction h with
  | nil => rfl
  | cons x _ ih => simp only [dsum, ih]
  | swap x y l =>
    simp only [dsum]
    split <;> split <;> try rfl
    rw [← padd_assoc, ← padd_assoc, padd_comm y x]
  | trans _ _ ih1 ih2 => rw [ih1, ih2]
theorem dsum_none {l : List Pt} {g : Pt} (h : ∀ e ∈ l, crs e g ≠ 0) : dsum l g = (0, 0) := by
  induction l with
  | nil => rfl
  | cons x l ih =>
    simp only [dsum]
    rw [if_neg (h x (by simp)), ih fun e he => h e (by simp [he])]
/-- C is the canonical form of the directions in S. -/
structure Can (C S : List Pt) : Prop where
  sorted : C.Pairwise fun a b => 0 < crs a b
  ups : ∀ e ∈ C, up e
  sums : ∀ g, up g → dsum C g = dsum S g
theorem Can.perm {C S S' : List Pt} (h : Can C S) (hp : S.Perm S') : Can C S' := ⟨h.sorted, h.ups, fun g hg => by rw [h.sums g hg, dsum_perm g hp]⟩
theorem Can.own {C S : List Pt} (h : Can C S) {e : Pt} (he : e ∈ C) : dsum C e = e := by
  obtain ⟨A, B, rfl⟩ := List.append_of_mem he
  have hs := h.sorted
  rw [List.pairwise_append] at hs
  obtain ⟨h1, h2, h3⟩ := hs
  rw [List.pairwise_cons] at h2
  rw [dsum_append]
  simp only [dsum, crs_self, if_true]
  rw [dsum_none (l := A) fun a ha => by have := h3 a ha e (by simp); omega, dsum_none (l := B) fun b hb => by have := h2.1 b hb; rw [crs_anti]; omega, padd_zero, zero_padd]
theorem Can.nil : Can [] [] := ⟨.nil, by simp, fun _ _ => rfl⟩
/-- cmp.Compare -/
def cmpI (x y : Int) : Int := if x < y then -1 else if y < x then 1 else 0
/-- Coordinates of at most M. -/
def Bd (M : Int) (p : Pt) : Prop := -M ≤ p.1 ∧ p.1 ≤ M ∧ -M ≤ p.2 ∧ p.2 ≤ M
theorem isNaN_h (x : Int) (W : World) : Calls Try.prog 46 #[.int .i64 x] W fun e w' => e = .returned (.bool false) ∧ w' = W := by
  go_enter Try.func46, Try.ntmps46
  go_wp2
  go_ret
  exact ⟨by simp, rfl⟩
theorem compare_h (x y : Int) (W : World) : Calls Try.prog 31 #[.int .i64 x, .int .i64 y] W fun e w' => e = .returned (.int .i64 (cmpI x y)) ∧ w' = W := by
  have hcon := isNaN_h
  go_enter Try.func31, Try.ntmps31
  go_wp2_with (go_at_call 46; refine (hcon _ _).mono ?_; rintro e w' ⟨rfl, rfl⟩)
  · go_ret
    exact ⟨ret_int (by unfold cmpI; rw [if_pos (by assumption)]), rfl⟩
  · go_ret
    exact ⟨ret_int (by unfold cmpI; rw [if_neg (by omega), if_pos (by assumption)]), rfl⟩
  go_ret
  exact ⟨ret_int (by unfold cmpI; rw [if_neg (by omega), if_neg (by omega)]), rfl⟩
/-- Generators in the upper half plane, of bounded coordinates. -/
structure Up where
  p : Pt
  up : up p
  bd : Bd 268435456 p
instance : Inhabited Up := ⟨⟨(1, 0), .inr ⟨rfl, by decide⟩, by unfold Bd; simp⟩⟩

def vldB (W H : Int) (xs : List Int) : Bool := decide (1 ≤ W ∧ W ≤ 64 ∧ 1 ≤ H ∧ H ≤ 64 ∧ (xs.length : Int) = W * H ∧ ∀ v ∈ xs, v ≤ 2)
def inB (W H x y : Int) : Bool := decide (0 ≤ x ∧ x < W ∧ 0 ≤ y ∧ y < H)
def atI (W H : Int) (xs : List Int) (x y : Int) : Int := if inB W H x y then gi xs (y * W + x).toNat else 2
structure Vld (W H : Int) (xs : List Int) : Prop where
  w0 : 1 ≤ W
  w1 : W ≤ 64
  h0 : 1 ≤ H
  h1 : H ≤ 64
  len : (xs.length : Int) = W * H
  le : ∀ v ∈ xs, v ≤ 2
theorem vld_iff {W H : Int} {xs : List Int} : vldB W H xs = true ↔ Vld W H xs := by
  unfold vldB
  rw [decide_eq_true_iff]
  exact ⟨fun ⟨a, b, c, d, e, f⟩ => ⟨a, b, c, d, e, f⟩, fun ⟨a, b, c, d, e, f⟩ => ⟨a, b, c, d, e, f⟩⟩
theorem vld_false {W H : Int} {xs : List Int} : vldB W H xs = false ↔ ¬ Vld W H xs := by
  rw [← vld_iff]; simp
theorem inB_iff {W H x y : Int} : inB W H x y = true ↔ 0 ≤ x ∧ x < W ∧ 0 ≤ y ∧ y < H := by
  unfold inB; rw [decide_eq_true_iff]
theorem inB_false {W H x y : Int} : inB W H x y = false ↔ ¬ (0 ≤ x ∧ x < W ∧ 0 ≤ y ∧ y < H) := by
  unfold inB; rw [decide_eq_false_iff_not]

theorem mul_le_64 {a b : Int} (h0 : 0 ≤ a) (h1 : a ≤ 64) (h2 : 0 ≤ b) (h3 : b ≤ 64) : 0 ≤ a * b ∧ a * b ≤ 4096 :=
  ⟨Int.mul_nonneg h0 h2, Int.le_trans (Int.mul_le_mul h1 h3 h2 (by omega)) (by omega)⟩
theorem Vld.pos {W H : Int} {xs : List Int} (h : Vld W H xs) : 1 ≤ W * H ∧ W * H ≤ 4096 ∧ 0 < xs.length ∧ xs.length ≤ 4096 := by
  have h1 : 1 * 1 ≤ W * H := Int.mul_le_mul h.w0 h.h0 (by omega) (by have := h.w0; omega)
  have h2 := mul_le_64 (a := W) (b := H) (by have := h.w0; omega) h.w1 (by have := h.h0; omega) h.h1
  have h3 := h.len
  omega
/-- The number of a cell. -/
theorem idx_bd {W H x y : Int} (h : inB W H x y = true) : 0 ≤ y * W ∧ 0 ≤ y * W + x ∧ y * W + x < W * H := by
  obtain ⟨a, b, c, d⟩ := inB_iff.1 h
  have h1 : 0 ≤ y * W := Int.mul_nonneg c (by omega)
  have h2 : (y + 1) * W ≤ H * W := Int.mul_le_mul_of_nonneg_right (by omega) (by omega)
  rw [Int.add_mul, Int.one_mul] at h2
  rw [Int.mul_comm W H]
  omega
theorem Vld.idx {W H x y : Int} {xs : List Int} (hv : Vld W H xs) (h : inB W H x y = true) : 0 ≤ y * W ∧ y * W ≤ 4096 ∧ 0 ≤ y * W + x ∧ y * W + x < W * H ∧ (y * W + x).toNat < xs.length ∧ 0 ≤ x ∧ x < 64 ∧ 0 ≤ y ∧ y < 64 := by
  have h1 := idx_bd h
  have h2 := hv.pos
  have h3 := hv.len
  obtain ⟨a, b, c, d⟩ := inB_iff.1 h
  have := hv.w1
  have := hv.h1
  omega
/-- A cell of the plan with the value v. -/
def isB (W H : Int) (xs : List Int) (x y v : Int) : Bool := inB W H x y && (gi xs (y * W + x).toNat == v)
/-- A frontier cell. -/
def froB (W H : Int) (xs : List Int) (x y : Int) : Bool := isB W H xs x y 1 && (isB W H xs (x + 1) y 0 || isB W H xs (x - 1) y 0 || isB W H xs x (y + 1) 0 || isB W H xs x (y - 1) 0)
/-- The cells with p in row y with x below j. -/
def rowP (p : Int → Int → Bool) (y : Nat) : Nat → List (Int × Int)
  | 0 => []
  | j + 1 => rowP p y j ++ if p j y = true then [((j : Int), (y : Int))] else []
/-- The cells with p in the rows below i, w cells each. -/
def gridP (p : Int → Int → Bool) (w : Nat) : Nat → List (Int × Int)
  | 0 => []
  | i + 1 => gridP p w i ++ rowP p i w
theorem rowP_len (p : Int → Int → Bool) (y : Nat) : ∀ j, (rowP p y j).length ≤ j
  | 0 => by simp [rowP]
  | j + 1 => by
    have := rowP_len p y j
    simp only [rowP, List.length_append]
    split <;> simp <;> omega
theorem gridP_len (p : Int → Int → Bool) (w : Nat) : ∀ i, (gridP p w i).length ≤ i * w
  | 0 => by simp [gridP]
  | i + 1 => by
    have := gridP_len p w i
    have := rowP_len p i w
    simp only [gridP, List.length_append]
    rw [Nat.add_mul]; omega
theorem rowP_mem (p : Int → Int → Bool) (y : Nat) : ∀ (j : Nat) (c : Int × Int), c ∈ rowP p y j ↔ (0 ≤ c.1 ∧ c.1 < j ∧ c.2 = y ∧ p c.1 c.2 = true)
  | 0, c => by simp [rowP]; omega
  | j + 1, c => by
    simp only [rowP, List.mem_append, rowP_mem p y j c]
    obtain ⟨a, b⟩ := c
    by_cases hp : p j y = true
    · rw [if_pos hp]
      simp only [List.mem_singleton, Prod.mk.injEq]
      constructor
      · rintro (⟨h1, h2, h3, h4⟩ | ⟨rfl, rfl⟩)
        · exact ⟨h1, by omega, h3, h4⟩
        exact ⟨by omega, by omega, rfl, hp⟩
      rintro ⟨h1, h2, h3, h4⟩
      by_cases hj : a = j
      · exact .inr ⟨hj, h3⟩
      exact .inl ⟨h1, by omega, h3, h4⟩
    rw [if_neg hp]
    simp only [List.not_mem_nil, or_false]
    constructor
    · rintro ⟨h1, h2, h3, h4⟩; exact ⟨h1, by omega, h3, h4⟩
    rintro ⟨h1, h2, h3, h4⟩
    refine ⟨h1, ?_, h3, h4⟩
    have : a ≠ j := fun e => hp (by rw [← e, ← h3]; exact h4)
    show a < j
    have : a < ((j + 1 : Nat) : Int) := h2
    omega
theorem gridP_mem (p : Int → Int → Bool) (w : Nat) : ∀ (i : Nat) (c : Int × Int), c ∈ gridP p w i ↔ (0 ≤ c.1 ∧ c.1 < w ∧ 0 ≤ c.2 ∧ c.2 < i ∧ p c.1 c.2 = true)
  | 0, c => by simp [gridP]; omega
  | i + 1, c => by
    simp only [gridP, List.mem_append, gridP_mem p w i c, rowP_mem]
    constructor
    · rintro (⟨h1, h2, h3, h4, h5⟩ | ⟨h1, h2, h3, h4⟩)
      · exact ⟨h1, h2, h3, by omega, h5⟩
      exact ⟨h1, h2, by omega, by omega, h4⟩
    rintro ⟨h1, h2, h3, h4, h5⟩
    by_cases hi : c.2 = i
    · exact .inr ⟨h1, h2, hi, h5⟩
    exact .inl ⟨h1, h2, h3, by omega, h5⟩
theorem prs_snoc {l : List (Int × Int)} {x y : Int} : prs l ++ [.int .i64 x, .int .i64 y] = prs (l ++ [(x, y)]) := by rw [prs_append]; rfl
/-- A slice that is appended to: none yet, or the whole of a block of its own. -/
def OutP (b : Nat) (s : AV) (X : ABlk) (l : List (Int × Int)) : Prop := (l = [] ∧ s = .sl none 0 (some 0) ∧ X = .dead) ∨ (0 < l.length ∧ s = .sl (some (b, 0)) l.length none ∧ X = .cells true 2 (prs l))
/-- What a function hands back that has made a list of pairs. -/
def retP (H : AHeap) (l : List (Int × Int)) : AV × AHeap := if l = [] then (.sl none 0 (some 0), H) else (.sl (some (H.length, 0)) l.length none, H ++ [.cells true 2 (prs l)])
theorem retP_nil {H : AHeap} : retP H [] = (.sl none 0 (some 0), H) := rfl
theorem retP_pos {H : AHeap} {l : List (Int × Int)} (h : 0 < l.length) : retP H l = (.sl (some (H.length, 0)) l.length none, H ++ [.cells true 2 (prs l)]) := by
  unfold retP; rw [if_neg (fun e => by rw [e] at h; simp at h)]
/-- The frontier cells of a plan. -/
def froL (W H : Int) (xs : List Int) : List (Int × Int) := gridP (froB W H xs) W.toNat H.toNat
theorem isB_at {W H : Int} {xs : List Int} {x y v : Int} (hv : v ≠ 2) : isB W H xs x y v = (atI W H xs x y == v) := by
  unfold isB atI
  cases h : inB W H x y
  · simp; exact fun e => hv e.symm
  simp

mutual
def AV.eqb : AV → AV → Bool
  | .any, y => (match y with | .any => true | _ => false)
  | .int k n, y => (match y with | .int k' n' => decide (k = k') && decide (n = n') | _ => false)
  | .bool b, y => (match y with | .bool b' => b == b' | _ => false)
  | .str s, y => (match y with | .str s' => decide (s = s') | _ => false)
  | .ptr a, y => (match y with | .ptr a' => decide (a = a') | _ => false)
  | .sl a l c, y => (match y with | .sl a' l' c' => decide (a = a') && (decide (l = l') && decide (c = c')) | _ => false)
  | .mp r, y => (match y with | .mp r' => decide (r = r') | _ => false)
  | .fn f cs, y => (match y with | .fn f' cs' => decide (f = f') && AV.eqbs cs cs' | _ => false)
  | .nilfn, y => (match y with | .nilfn => true | _ => false)
  | .agg cs, y => (match y with | .agg cs' => AV.eqbs cs cs' | _ => false)
  | .tup cs, y => (match y with | .tup cs' => AV.eqbs cs cs' | _ => false)
def AV.eqbs : List AV → List AV → Bool
  | [], ys => (match ys with | [] => true | _ => false)
  | x :: xs, ys => (match ys with | y :: ys => AV.eqb x y && AV.eqbs xs ys | [] => false)
end
mutual
theorem AV.eqb_eq : ∀ (x y : AV), AV.eqb x y = true → x = y
  | .any, y, h => by cases y <;> first | rfl | (simp [AV.eqb] at h)
  | .int k n, y, h => by cases y <;> first | (simp [AV.eqb] at h; done) | (simp [AV.eqb] at h; rw [h.1, h.2])
  | .bool b, y, h => by cases y <;> first | (simp [AV.eqb] at h; done) | (simp [AV.eqb] at h; rw [h])
  | .str s, y, h => by cases y <;> first | (simp [AV.eqb] at h; done) | (simp [AV.eqb] at h; rw [h])
  | .ptr a, y, h => by cases y <;> first | (simp [AV.eqb] at h; done) | (simp [AV.eqb] at h; rw [h])
  | .sl a l c, y, h => by cases y <;> first | (simp [AV.eqb] at h; done) | (simp [AV.eqb] at h; rw [h.1, h.2.1, h.2.2])
  | .mp r, y, h => by cases y <;> first | (simp [AV.eqb] at h; done) | (simp [AV.eqb] at h; rw [h])
  | .fn f cs, y, h => by
    cases y <;> first | (simp [AV.eqb] at h; done) | skip
    simp [AV.eqb] at h
    rw [h.1, AV.eqbs_eq _ _ h.2]
  | .nilfn, y, h => by cases y <;> first | rfl | (simp [AV.eqb] at h)
  | .agg cs, y, h => by
    cases y <;> first | (simp [AV.eqb] at h; done) | skip
    simp [AV.eqb] at h
    rw [AV.eqbs_eq _ _ h]
  | .tup cs, y, h => by
    cases y <;> first | (simp [AV.eqb] at h; done) | skip
    simp [AV.eqb] at h
    rw [AV.eqbs_eq _ _ h]
theorem AV.eqbs_eq : ∀ (xs ys : List AV), AV.eqbs xs ys = true → xs = ys
  | [], ys, h => by cases ys <;> first | rfl | (simp [AV.eqbs] at h)
  | x :: xs, ys, h => by
    cases ys with
    | nil => simp [AV.eqbs] at h
    | cons y ys =>
      simp [AV.eqbs] at h
      rw [AV.eqb_eq _ _ h.1, AV.eqbs_eq _ _ h.2]
end
def ABlk.eqb : ABlk → ABlk → Bool
  | .dead, y => (match y with | .dead => true | _ => false)
  | .cells o e xs, y => (match y with | .cells o' e' xs' => (o == o') && (decide (e = e') && AV.eqbs xs xs') | _ => false)
  | .map es, y => (match y with | .map es' => AV.eqbs (es.map (·.1)) (es'.map (·.1)) && AV.eqbs (es.map (·.2)) (es'.map (·.2)) | _ => false)
theorem pairs_eq {α β : Type} : ∀ {l m : List (α × β)}, l.map (·.1) = m.map (·.1) → l.map (·.2) = m.map (·.2) → l = m
  | [], [], _, _ => rfl
  | [], _ :: _, h, _ => by simp at h
  | _ :: _, [], h, _ => by simp at h
  | (a, b) :: l, (c, d) :: m, h1, h2 => by
    simp only [List.map_cons, List.cons.injEq] at h1 h2
    rw [h1.1, h2.1, pairs_eq h1.2 h2.2]
theorem ABlk.eqb_eq {x y : ABlk} (h : ABlk.eqb x y = true) : x = y := by
  cases x <;> cases y <;> first | rfl | (simp [ABlk.eqb] at h; done) | skip
  · simp [ABlk.eqb] at h
    rw [h.1, h.2.1, AV.eqbs_eq _ _ h.2.2]
  simp only [ABlk.eqb, Bool.and_eq_true] at h
  rw [pairs_eq (AV.eqbs_eq _ _ h.1) (AV.eqbs_eq _ _ h.2)]
/-- The memory begins as it was. -/
def prefixB : AHeap → AHeap → Bool
  | [], _ => true
  | x :: r, y :: s => ABlk.eqb x y && prefixB r s
  | _ :: _, [] => false
theorem prefixB_eq : ∀ {H H' : AHeap}, prefixB H H' = true → ∃ l, H' = H ++ l
  | [], H', _ => ⟨H', rfl⟩
  | x :: r, [], h => by simp [prefixB] at h
  | x :: r, y :: s, h => by
    simp only [prefixB, Bool.and_eq_true] at h
    obtain ⟨l, hl⟩ := prefixB_eq h.2
    exact ⟨l, by rw [← ABlk.eqb_eq h.1, hl]; rfl⟩
/-- A frame as a tree by the bits of a slot's number. -/
inductive FT where
  | nil
  | leaf (x : AV)
  | node (l r : FT)
def FT.get : Nat → FT → Nat → AV
  | 0, f, _ => (match f with | .leaf x => x | _ => .any)
  | d + 1, f, t => (match f with | .node l r => bif Nat.beq (t % 2) 0 then FT.get d l (t / 2) else FT.get d r (t / 2) | _ => .any)
def FT.set : Nat → Nat → AV → FT → FT
  | 0, _, x, _ => .leaf x
  | d + 1, t, x, f => (match f with
    | .node l r => bif Nat.beq (t % 2) 0 then .node (FT.set d (t / 2) x l) r else .node l (FT.set d (t / 2) x r)
    | _ => bif Nat.beq (t % 2) 0 then .node (FT.set d (t / 2) x .nil) .nil else .node .nil (FT.set d (t / 2) x .nil))
theorem FT.get_nil : ∀ (d s : Nat), FT.get d .nil s = .any
  | 0, _ => rfl
  | _ + 1, _ => rfl
theorem FT.get_set : ∀ (d t s : Nat) (x : AV) (f : FT), t < 2 ^ d → s < 2 ^ d → FT.get d (FT.set d t x f) s = if t = s then x else FT.get d f s
  | 0, t, s, x, f, ht, hs => by
    have : t = s := by simp at ht hs; omega
    rw [if_pos this]; rfl
  | d + 1, t, s, x, f, ht, hs => by
    have ht' : t / 2 < 2 ^ d := by rw [Nat.pow_succ] at ht; omega
    have hs' : s / 2 < 2 ^ d := by rw [Nat.pow_succ] at hs; omega
    have ih := FT.get_set d (t / 2) (s / 2) x
    have hb : ∀ u : Nat, Nat.beq (u % 2) 0 = decide (u % 2 = 0) := fun u => by
      by_cases h : u % 2 = 0
      · rw [h]; rfl
      have : u % 2 = 1 := by omega
      rw [this]; rfl
    have key : ∀ l r : FT, FT.get (d + 1) (bif Nat.beq (t % 2) 0 then .node (FT.set d (t / 2) x l) r else .node l (FT.set d (t / 2) x r)) s = if t = s then x else FT.get (d + 1) (.node l r) s := fun l r => by
      rw [hb]
      by_cases h1 : t % 2 = 0
      · simp only [h1, decide_true, cond_true, FT.get]
        rw [hb]
        by_cases h2 : s % 2 = 0
        · simp only [h2, decide_true, cond_true]
          rw [ih l ht' hs']
          by_cases e : t = s
          · rw [if_pos (by rw [e]), if_pos e]
          rw [if_neg (by omega), if_neg e]
        simp only [h2, decide_false, cond_false]
        rw [if_neg (by omega)]
      simp only [h1, decide_false, cond_false, FT.get]
      rw [hb]
      by_cases h2 : s % 2 = 0
      · simp only [h2, decide_true, cond_true]
        rw [if_neg (by omega)]
      simp only [h2, decide_false, cond_false]
      rw [ih r ht' hs']
      by_cases e : t = s
      · rw [if_pos (by rw [e]), if_pos e]
      rw [if_neg (by omega), if_neg e]
    cases f with
    | node l r => exact key l r
    | nil =>
      have := key .nil .nil
      rw [show FT.get (d + 1) (.node .nil .nil) s = FT.get (d + 1) .nil s by simp [FT.get, FT.get_nil]] at this
      exact this
    | leaf y =>
      have := key .nil .nil
      rw [show FT.get (d + 1) (.node .nil .nil) s = FT.get (d + 1) (.leaf y) s by simp [FT.get, FT.get_nil]] at this
      exact this
/-- What a slot holds. -/
def getT (f : FT) (t : Nat) : AV := bif Nat.blt t 1024 then FT.get 10 f t else .any
def putR (d : Option Tmp) (x : AV) (f : FT) : FT :=
  match d with
  | some t => FT.set 10 t x f
  | none => f
def okD (d : Option Tmp) : Bool :=
  match d with
  | some t => Nat.blt t 1024
  | none => true
theorem look_putR {f : FT} {G : Fr} (h : getT f = look G) {d : Option Tmp} (hd : okD d = true) (x : AV) : getT (putR d x f) = look (putF d x G) := by
  funext s
  cases d with
  | none => exact congrFun h s
  | some t =>
    have hs := congrFun h s
    have ht : t < 1024 := Nat.le_of_ble_eq_true hd
    show getT (FT.set 10 t x f) s = look ((t, x) :: G) s
    unfold getT at hs ⊢
    simp only [look]
    cases hb : Nat.blt s 1024 with
    | false =>
      rw [hb] at hs
      have hlt : ¬ s < 1024 := fun hh => by rw [show Nat.blt s 1024 = true from Nat.ble_eq_true_of_le hh] at hb; cases hb
      have : (t == s) = false := by rw [beq_eq_false_iff_ne]; exact fun e => hlt (e ▸ ht)
      rw [this]; exact hs
    | true =>
      rw [hb] at hs
      simp only [cond_true] at hs ⊢
      have hlt : s < 1024 := Nat.le_of_ble_eq_true hb
      rw [FT.get_set 10 t s x f (by simpa using ht) (by simpa using hlt), hs]
      by_cases e : t = s
      · simp [e]
      have : (t == s) = false := by simp [e]
      rw [if_neg e, this]; rfl
theorem getT_nil : getT .nil = look [] := by
  funext s
  unfold getT
  cases Nat.blt s 1024 <;> simp [FT.get_nil, look]
/-- The arguments' frame. -/
def argT : Nat → List AV → FT
  | _, [] => .nil
  | i, x :: r => FT.set 10 i x (argT (i + 1) r)
theorem argT_eq : ∀ (xs : List AV) (i : Nat), i + xs.length ≤ 1024 → getT (argT i xs) = look (argF i xs)
  | [], i, _ => getT_nil
  | x :: r, i, h => by
    simp only [List.length_cons] at h
    exact look_putR (d := some i) (argT_eq r (i + 1) (by omega)) (Nat.ble_eq_true_of_le (by omega)) x
def ev (f : FT) : Operand → AV
  | .tmp t => getT f t
  | .const v => AV.ofValue v
  | .global _ => .any
  | .func g => .fn g []
theorem ev_eq {f : FT} {G : Fr} (h : getT f = look G) : ev f = aev G := by
  funext o; cases o <;> simp [ev, aev, h]
def aopE (P : Program) (o : Op) (e : Operand → AV) (H : AHeap) : Option (AV × AHeap) :=
  match o with
  | .move x => some (e x, H)
  | .assign x => some (e x, H)
  | .pick c a b => (match e c with | .bool t => some (bif t then e a else e b, H) | _ => none)
  | .alloc t => aAlloc P t H
  | .box _ x => aBox (e x) H
  | .build t ps => (aBuild P t (ps.toList.map fun p => (p.1, e p.2))).map fun r => (r, H)
  | .buildSlice t n ps => aBuildSlice P t n (ps.toList.map fun p => (p.1, e p.2)) H
  | .load t a => aLoad P t (e a) H
  | .store t a x => (aStore P t (e a) (e x) H).map fun H' => (.any, H')
  | .nilCheck x => (match e x with | .ptr (some a) => some (.ptr (some a), H) | .fn f c => some (.fn f c, H) | _ => none)
  | .binOp op t x y _ => (aBin P op t (e x) (e y)).map fun r => (r, H)
  | .unOp op _ x => (aUn op (e x)).map fun r => (r, H)
  | .convert s d x => (aConv P s d (e x) H).map fun r => (r, H)
  | .makeFunc fn first caps => (match fn with | .func f => (need (first.toList.length = 0)).map fun _ => (.fn f (caps.toList.map e), H) | _ => none)
  | .makeMap t r => (match r with | none => some (.mp (some H.length), H ++ [.map []]) | some x => (match e x with | .int _ _ => (tMap P t).map fun _ => (.mp (some H.length), H ++ [.map []]) | _ => none))
  | .makeSlice t l c => aMakeSlice P t (e l) (e c) H
  | .slice t x lo hi mx => (aSlice P t (e x) (lo.map e) (hi.map e) (mx.map e) H).map fun r => (r, H)
  | .fieldAddr t x f => (aFieldAddr P t (e x) f).map fun r => (r, H)
  | .field t x f => (aField P t (e x) f).map fun r => (r, H)
  | .indexAddr t x i => (aIndexAddr P t (e x) (e i)).map fun r => (r, H)
  | .index t x i => (aIndex P t (e x) (e i)).map fun r => (r, H)
  | .lookup t m k ok => (aLookup P t (e m) (e k) ok H).map fun r => (r, H)
  | .mapUpdate t m k x => (aMapUpdate P t (e m) (e k) (e x) H).map fun H' => (.any, H')
  | .extract x i => (aExtract (e x) i).map fun r => (r, H)
  | .call c => (match c.callee with | .builtin b => aBuiltin P b c.argTypes.toList (c.args.toList.map e) H | _ => none)
  | _ => none
theorem aopE_eq (P : Program) (o : Op) (G : Fr) (H : AHeap) : aopE P o (aev G) H = aop P o G H := by
  cases o <;> rfl
def calleeE (o : Op) (e : Operand → AV) : Option (FuncId × List AV) :=
  match o with
  | .call c => (match c.callee with | .value f => (match e f with | .fn k caps => some (k, c.args.toList.map e ++ caps) | _ => none) | _ => none)
  | _ => none
theorem calleeE_eq (o : Op) (G : Fr) : calleeE o (aev G) = calleeOf o G := by
  cases o <;> rfl
def gdE (f : FT) : Option (Option Tmp × Bool) → Option Bool
  | none => some true
  | some (none, _) => none
  | some (some t, want) => (match getT f t with | .bool b => some (b == want) | .tup [] => some false | _ => none)
theorem gdE_eq {f : FT} {G : Fr} (h : getT f = look G) (g : Option (Option Tmp × Bool)) : gdE f g = gdL G g := by
  cases g with
  | none => rfl
  | some p =>
    obtain ⟨a, b⟩ := p
    cases a with
    | none => rfl
    | some t =>
      simp only [gdE, gdL, h]
      cases look G t with
      | tup l => cases l <;> rfl
      | _ => rfl
def aResE (P : Program) : List ResultVar → FT → AHeap → Option (List AV)
  | [], _, _ => some []
  | .tmp t :: rs, f, H => (aResE P rs f H).map fun l => getT f t :: l
  | .cell a t :: rs, f, H => (aLoad P t (getT f a) H).bind fun x => (aResE P rs f H).map fun l => x.1 :: l
theorem aResE_eq {f : FT} {G : Fr} (h : getT f = look G) (P : Program) (H : AHeap) : ∀ rs : List ResultVar, aResE P rs f H = aRes P rs G H
  | [] => rfl
  | .tmp t :: rs => by simp [aResE, aRes, h, aResE_eq h P H rs]
  | .cell a t :: rs => by simp [aResE, aRes, h, aResE_eq h P H rs]
abbrev Caller := FuncId → List AV → AHeap → Option (AV × Option AHeap)
def CallOk (P : Program) (call : Caller) : Prop := ∀ f args H x o, call f args H = some (x, o) → okFn P f = true ∧ H.length ≤ (o.getD H).length ∧ ACalls P f args H (fun y H1 => y = x ∧ H1 = o.getD H)
def belowB (m : Nat) : AV → Bool
  | .ptr (some (b, _)) => Nat.blt b m
  | .sl (some (b, _)) _ _ => Nat.blt b m
  | _ => true
def lenB (m : Nat) : AV → Bool
  | .mp (some b) => Nat.blt b m
  | _ => true
theorem belowB_ok {m : Nat} : ∀ {x : AV}, belowB m x = true → belowV m x
  | .ptr (some (_, _)), h => Nat.le_of_ble_eq_true h
  | .sl (some (_, _)) _ _, h => Nat.le_of_ble_eq_true h
  | .ptr none, _ => trivial | .sl none _ _, _ => trivial | .mp _, _ => trivial
  | .any, _ => trivial | .int _ _, _ => trivial | .bool _, _ => trivial | .str _, _ => trivial | .fn _ _, _ => trivial | .nilfn, _ => trivial | .agg _, _ => trivial | .tup _, _ => trivial
theorem lenB_ok {m : Nat} : ∀ {x : AV}, lenB m x = true → lenV m x
  | .mp (some _), h => Nat.le_of_ble_eq_true h
  | .mp none, _ => trivial | .sl _ _ _, _ => trivial | .ptr _, _ => trivial
  | .any, _ => trivial | .int _ _, _ => trivial | .bool _, _ => trivial | .str _, _ => trivial | .fn _ _, _ => trivial | .nilfn, _ => trivial | .agg _, _ => trivial | .tup _, _ => trivial
def lateB (d : Option Nat) (o : Op) (e : Operand → AV) : Bool :=
  match d with
  | some m => (match o with
    | .load _ a => belowB m (e a)
    | .slice _ x _ _ _ => belowB m (e x)
    | .call c => (match c.callee, c.args.toList with | .builtin .len, x :: _ => lenB m (e x) | _, _ => true)
    | _ => true)
  | none => true
theorem lateB_ok {m : Nat} {o : Op} {G : Fr} (h : lateB (some m) o (aev G) = true) : lateOk m o G := by
  unfold lateB at h
  unfold lateOk
  simp only at h
  split
  · exact belowB_ok h
  · exact belowB_ok h
  · simp only at h
    split
    · rename_i h1 h2
      simp only [h1, h2] at h
      exact lenB_ok h
    trivial
  trivial
/-- A call leaves what is below m. -/
def keepsB (m : Nat) (H H' : AHeap) : Bool := (List.range m).all fun b => match H[b]?, H'[b]? with | some x, some y => ABlk.eqb y x | none, none => true | _, _ => false
theorem keepsB_ok {m : Nat} {H H' : AHeap} (h : keepsB m H H' = true) : ∀ b, b < m → H'[b]? = H[b]? := fun b hb => by
  have := List.all_eq_true.1 h b (List.mem_range.2 hb)
  revert this
  cases H[b]? <;> cases H'[b]? <;> simp
  exact fun h => (ABlk.eqb_eq h)
def keepD (d : Option Nat) (H H' : AHeap) : Bool := match d with | some m => keepsB m H H' | none => true
/-- Operations in a row (keep: a call must leave the memory as it was; d: in a region that draws, how many blocks were there before it). -/
def rOps (P : Program) (keep : Bool) (d : Option Nat) (call : Caller) : List LOp → FT → AHeap → Option (FT × AHeap)
  | [], F, H => some (F, H)
  | o :: os, F, H =>
    bif okD o.dst then
      match gdE F o.g with
      | none => none
      | some false => rOps P keep d call os (putR o.dst (.tup []) F) H
      | some true =>
        match calleeE o.op (ev F) with
        | some p =>
          match call p.1 p.2 H with
          | none => none
          | some (x, none) => rOps P keep d call os (putR o.dst x F) H
          | some (x, some H') => bif keep || !keepD d H H' then none else rOps P keep d call os (putR o.dst x F) H'
        | none =>
          bif lateB d o.op (ev F) then
            match aopE P o.op (ev F) H with
            | none => none
            | some (x, H') => rOps P keep d call os (putR o.dst x F) H'
          else none
    else none
section
section
variable {P : Program} {N n m : Nat} {d : Option Nat} {q keep : Bool} {call : Caller}
theorem rOps_ok (hcall : CallOk P call) : ∀ (os : List LOp) (F : FT) (H : AHeap) (F' : FT) (H' : AHeap), rOps P keep d call os F H = some (F', H') → ∀ G, getT F = look G → AOpsL P os G H (fun G' H1 => getT F' = look G' ∧ H1 = H')
  | [], F, H, F', H', h, G, hG => by
    simp only [rOps, Option.some.injEq, Prod.mk.injEq] at h
    obtain ⟨rfl, rfl⟩ := h
    exact ⟨hG, rfl⟩
  | o :: os, F, H, F', H', h, G, hG => by
    unfold rOps at h
    unfold AOpsL
    cases hd : okD o.dst with
    | false => rw [hd] at h; cases h
    | true =>
    rw [hd, cond_true] at h
    rw [gdE_eq hG, ev_eq hG, calleeE_eq, aopE_eq] at h
    cases hg : gdL G o.g with
    | none => rw [hg] at h; cases h
    | some b =>
      rw [hg] at h
      cases b
      · exact rOps_ok hcall os _ _ _ _ h _ (look_putR hG hd _)
      simp only at h ⊢
      unfold AOp
      cases hc : calleeOf o.op G with
      | some p =>
        rw [hc] at h
        simp only at h ⊢
        cases hk : call p.1 p.2 H with
        | none => rw [hk] at h; cases h
        | some r =>
          obtain ⟨x, mm⟩ := r
          rw [hk] at h
          obtain ⟨h1, h1', h2⟩ := hcall _ _ _ _ _ hk
          cases mm with
          | none =>
            have key := rOps_ok hcall os _ _ _ _ h _ (look_putR hG hd x)
            exact ⟨h1, h2.mono fun y H1 hy => by rw [hy.1, hy.2]; exact key⟩
          | some H2 =>
            have h' : rOps P keep d call os (putR o.dst x F) H2 = some (F', H') := by
              simp only at h
              cases hqq : (keep || !keepD d H H2)
              · rw [hqq] at h; exact h
              rw [hqq] at h; cases h
            have key := rOps_ok hcall os _ _ _ _ h' _ (look_putR hG hd x)
            exact ⟨h1, h2.mono fun y H1 hy => by rw [hy.1, hy.2]; exact key⟩
      | none =>
        rw [hc] at h
        simp only at h ⊢
        cases hlt : lateB d o.op (aev G) with
        | false => rw [hlt] at h; cases h
        | true =>
        rw [hlt, cond_true] at h
        cases hx : aop P o.op G H with
        | none => rw [hx] at h; cases h
        | some r =>
          obtain ⟨x, H1⟩ := r
          rw [hx] at h
          exact ⟨_, rfl, rOps_ok hcall os _ _ _ _ h _ (look_putR hG hd _)⟩
theorem rOpsD_ok (hcall : CallOk P call) : ∀ (os : List LOp) (F : FT) (H : AHeap) (F' : FT) (H' : AHeap), rOps P q (some m) call os F H = some (F', H') → ∀ G, getT F = look G → AOpsDL P q m os G H (fun G' H1 => getT F' = look G' ∧ H1 = H')
  | [], F, H, F', H', h, G, hG => by
    simp only [rOps, Option.some.injEq, Prod.mk.injEq] at h
    obtain ⟨rfl, rfl⟩ := h
    exact ⟨hG, rfl⟩
  | o :: os, F, H, F', H', h, G, hG => by
    unfold rOps at h
    unfold AOpsDL
    cases hd : okD o.dst with
    | false => rw [hd] at h; cases h
    | true =>
    rw [hd, cond_true] at h
    rw [gdE_eq hG, ev_eq hG, calleeE_eq, aopE_eq] at h
    cases hg : gdL G o.g with
    | none => rw [hg] at h; cases h
    | some b =>
      rw [hg] at h
      cases b
      · exact rOpsD_ok hcall os _ _ _ _ h _ (look_putR hG hd _)
      simp only at h ⊢
      unfold AOpD
      cases hc : calleeOf o.op G with
      | some p =>
        rw [hc] at h
        simp only at h ⊢
        cases hk : call p.1 p.2 H with
        | none => rw [hk] at h; cases h
        | some r =>
          obtain ⟨x, mm⟩ := r
          rw [hk] at h
          obtain ⟨h1, h1', h2⟩ := hcall _ _ _ _ _ hk
          cases mm with
          | none =>
            have key := rOpsD_ok hcall os _ _ _ _ h _ (look_putR hG hd x)
            exact ⟨h1, x, H, fun _ => rfl, ⟨Nat.le_refl _, fun _ _ _ => rfl⟩, h2, key⟩
          | some H2 =>
            have hqq : q = false ∧ keepD (some m) H H2 = true := by
              cases hqq : (q || !keepD (some m) H H2)
              · simpa using hqq
              simp only [hqq] at h; cases h
            obtain ⟨hqf, hkb⟩ := hqq
            have h' : rOps P q (some m) call os (putR o.dst x F) H2 = some (F', H') := by
              simp only at h
              rw [hqf, hkb] at h
              rw [hqf]; exact h
            have key := rOpsD_ok hcall os _ _ _ _ h' _ (look_putR hG hd x)
            exact ⟨h1, x, H2, (fun hq => by rw [hqf] at hq; cases hq), ⟨h1', fun b hb _ => keepsB_ok (H := H) (H' := H2) hkb b hb⟩, h2, key⟩
      | none =>
        rw [hc] at h
        simp only at h ⊢
        cases hlt : lateB (some m) o.op (aev G) with
        | false => rw [hlt] at h; cases h
        | true =>
        rw [hlt, cond_true] at h
        cases hx : aop P o.op G H with
        | none => rw [hx] at h; cases h
        | some r =>
          obtain ⟨x, H1⟩ := r
          rw [hx] at h
          exact ⟨lateB_ok hlt, _, rfl, rOpsD_ok hcall os _ _ _ _ h _ (look_putR hG hd _)⟩
/-- Code, run (n: how many blocks were there). -/
def rCode (P : Program) (q : Bool) (n : Nat) (call : Caller) : Nat → Code → FT → AHeap → Option (Exit × FT × AHeap)
  | 0, _, _, _ => none
  | k + 1, .seq a b, F, H =>
    match rCode P q n call k a F H with
    | some (.normal, F1, H1) => rCode P q n call k b F1 H1
    | r => r
  | k + 1, .cond c a b, F, H =>
    match ev F c with
    | .bool true => rCode P q n call k a F H
    | .bool false => rCode P q n call k b F H
    | _ => none
  | k + 1, .block id c, F, H =>
    match rCode P q n call k c F H with
    | some (.exit id', F1, H1) => some (bif id' == id then .normal else .exit id', F1, H1)
    | r => r
  | k + 1, .loop c, F, H =>
    bif Nat.ble n H.length then
      match rCode P q n call k c F H with
      | some (.normal, F1, H1) => rCode P q n call k (.loop c) F1 H1
      | r => r
    else none
  | _ + 1, .region _ ops draw, F, H => (rOps P (draw && q) (bif draw then some H.length else none) call (ops.toList.map (lightOf (dsts ops))) F H).map fun r => (.normal, r.1, r.2)
  | _ + 1, .skip, F, H => some (.normal, F, H)
  | _ + 1, .label _, F, H => some (.normal, F, H)
  | _ + 1, .exit id, F, H => some (.exit id, F, H)
  | _ + 1, .ret, F, H => some (.ret, F, H)
  | _ + 1, _, _, _ => none
theorem Rel.env {E E' : Env} {x : AV} {v : Value} (h : Rel E x v) (hn : E'.n = E.n) (hl : ∀ b, E'.loc b = E.loc b) : Rel E' x v := by
  induction h with
  | any v => exact .any v
  | int k n => exact .int k n
  | bool b => exact .bool b
  | str s => exact .str s
  | nilptr => exact .nilptr
  | ptr b o hb => rw [← hl b]; exact .ptr b o (by rw [hn]; exact hb)
  | nilsl => exact .nilsl
  | nils b cap hb hc => exact .nils b cap (by rw [hn]; exact hb) hc
  | sl b o len cap c a hb h1 h2 h3 h4 h5 => exact .sl b o len cap c a (by rw [hn]; exact hb) h1 h2 h3 (by rw [hl]; exact h4) (by rw [hl]; exact h5)
  | nilmp => exact .nilmp
  | mp b hb => rw [← hl b]; exact .mp b (by rw [hn]; exact hb)
  | nilfn => exact .nilfn
  | fn f caps cs hl' _ ih => exact .fn f caps cs hl' ih
  | agg xs cs hl' _ ih => exact .agg xs cs hl' ih
  | tup xs cs hl' _ ih => exact .tup xs cs hl' ih
theorem RelL.env {E E' : Env} {xs : List AV} {vs : List Value} (h : RelL E xs vs) (hn : E'.n = E.n) (hl : ∀ b, E'.loc b = E.loc b) : RelL E' xs vs := ⟨h.1, fun i x v hx hv => (h.2 i x v hx hv).env hn hl⟩
theorem BlkOk.env {E E' : Env} {w : World} {L : Loc} {x : ABlk} (h : BlkOk E w L x) (hB : E'.B = E.B) (hn : E'.n = E.n) (hl : ∀ b, E'.loc b = E.loc b) : BlkOk E' w L x := by
  cases x with
  | dead => trivial
  | cells own es xs =>
    obtain ⟨h1, h2, h3, h4⟩ := h
    refine ⟨fun j x hj => ?_, fun ho => by rw [hB]; exact h2 ho, fun ho hl => by rw [hB]; exact h3 ho hl, h4⟩
    obtain ⟨a, v, hv, hr⟩ := h1 j x hj
    exact ⟨a, v, hv, hr.env hn hl⟩
  | map es =>
    obtain ⟨h1, h2, ents, clock, h3, h4, h5⟩ := h
    exact ⟨by rw [hB]; exact h1, h2, ents, clock, h3, h4.env hn hl, h5.env hn hl⟩
theorem Abs0.same (n : Nat) {F G : Fr} (h : look F = look G) {H : AHeap} (hn : n ≤ H.length) : Abs0 n id F H G H where
  small _ _ := rfl
  len := hn
  frame E E' h1 h2 h3 t v hv := by
    rw [← h]
    exact hv.env (h2.trans h1.symm) h3
  heap E E' h1 h2 h3 h4 w hw b x hx := by
    rw [h4 b]
    exact (hw b x hx).env h3 (h2.trans h1.symm) h4
  inj b c x y hx hy ox oy hbc := ⟨hbc, ⟨x, hx, ox⟩, y, hy, oy⟩
theorem Abs.same (n : Nat) {F G : Fr} (h : look F = look G) {H : AHeap} (hn : n ≤ H.length) : Abs n id F H G H := (Abs0.same n h hn).abs
/-- What a run says. -/
def Ran (q : Bool) (N n : Nat) (P : Program) (r : Exit × FT × AHeap) (c : Code) (F : FT) (H : AHeap) : Prop :=
  ∀ G, getT F = look G → AW P N n c (fun e G1 H1 => e = r.1 ∧ getT r.2.1 = look G1 ∧ H1 = r.2.2) G H
theorem rCode_ok (hm : P.follows .mixedOrders = true) (hcall : CallOk P call) : ∀ (K k : Nat), k ≤ K → ∀ c, codeOk N q c = true → ∀ (F : FT) (H : AHeap) (r : Exit × FT × AHeap), rCode P q n call k c F H = some r → Ran q N n P r c F H
  | K, 0, _, c, _, F, H, r, h => by unfold rCode at h; cases h
  | 0, k + 1, hk, _, _, _, _, _, _ => by omega
  | K + 1, k + 1, hk, c, hc, F, H, r, h => by
    have IH := rCode_ok hm hcall K
    intro G hG
    cases c with
    | skip =>
      simp only [rCode, Option.some.injEq] at h
      subst h
      exact AW_skip ⟨rfl, hG, rfl⟩
    | label l =>
      simp only [rCode, Option.some.injEq] at h
      subst h
      exact AW_label ⟨rfl, hG, rfl⟩
    | exit id =>
      simp only [rCode, Option.some.injEq] at h
      subst h
      exact AW_exit ⟨rfl, hG, rfl⟩
    | ret =>
      simp only [rCode, Option.some.injEq] at h
      subst h
      exact AW_ret ⟨rfl, hG, rfl⟩
    | seq a b =>
      simp only [codeOk, Bool.and_eq_true] at hc
      unfold rCode at h
      cases ha : rCode P q n call k a F H with
      | none => rw [ha] at h; cases h
      | some r1 =>
        obtain ⟨e1, F1, H1⟩ := r1
        rw [ha] at h
        refine AW_seq (AW.mono (IH k (by omega) a hc.1 F H _ ha G hG) ?_)
        rintro e G1 H2 ⟨h1, h2, h3⟩
        simp only at h1 h2 h3
        rw [h1, h3]
        cases e1 with
        | normal => exact IH k (by omega) b hc.2 F1 H1 _ h G1 h2
        | exit id => simp only [Option.some.injEq] at h; subst h; exact ⟨rfl, h2, rfl⟩
        | goto id => simp only [Option.some.injEq] at h; subst h; exact ⟨rfl, h2, rfl⟩
        | ret => simp only [Option.some.injEq] at h; subst h; exact ⟨rfl, h2, rfl⟩
        | panic ch => simp only [Option.some.injEq] at h; subst h; exact ⟨rfl, h2, rfl⟩
        | outgrown => simp only [Option.some.injEq] at h; subst h; exact ⟨rfl, h2, rfl⟩
    | cond c a b =>
      simp only [codeOk, Bool.and_eq_true] at hc
      unfold rCode at h
      rw [ev_eq hG] at h
      cases ht : aev G c with
      | bool t =>
        rw [ht] at h
        cases t with
        | true => exact AW_cond true ht (fun _ => IH k (by omega) a hc.1 F H _ h G hG) (fun e => by cases e)
        | false => exact AW_cond false ht (fun e => by cases e) (fun _ => IH k (by omega) b hc.2 F H _ h G hG)
      | _ => rw [ht] at h; cases h
    | block id c =>
      simp only [codeOk] at hc
      unfold rCode at h
      cases ha : rCode P q n call k c F H with
      | none => rw [ha] at h; cases h
      | some r1 =>
        obtain ⟨e1, F1, H1⟩ := r1
        rw [ha] at h
        refine AW_block (AW.mono (IH k (by omega) c hc F H _ ha G hG) ?_)
        rintro e G1 H2 ⟨h1, h2, h3⟩
        simp only at h1 h2 h3
        rw [h1, h3]
        cases e1 with
        | exit id' =>
          simp only [Option.some.injEq] at h
          subst h
          show (if id' = id then _ else _)
          by_cases e : id' = id
          · rw [if_pos e]; simp [e, h2]
          have hb : (id' == id) = false := by simp [e]
          rw [if_neg e, hb]; exact ⟨rfl, h2, rfl⟩
        | normal => simp only [Option.some.injEq] at h; subst h; exact ⟨rfl, h2, rfl⟩
        | goto id => simp only [Option.some.injEq] at h; subst h; exact ⟨rfl, h2, rfl⟩
        | ret => simp only [Option.some.injEq] at h; subst h; exact ⟨rfl, h2, rfl⟩
        | panic ch => simp only [Option.some.injEq] at h; subst h; exact ⟨rfl, h2, rfl⟩
        | outgrown => simp only [Option.some.injEq] at h; subst h; exact ⟨rfl, h2, rfl⟩
    | loop c =>
      simp only [codeOk] at hc
      have nle : ∀ j F H, rCode P q n call j (.loop c) F H = some r → n ≤ H.length := fun j F H hh => by
        cases j with
        | zero => unfold rCode at hh; cases hh
        | succ j =>
          unfold rCode at hh
          cases hb : Nat.ble n H.length
          · rw [hb] at hh; cases hh
          exact Nat.le_of_ble_eq_true hb
      refine AW_loop (fun j F' H' => j ≤ k + 1 ∧ ∃ F0, getT F0 = look F' ∧ rCode P q n call j (.loop c) F0 H' = some r) (k + 1) ⟨id, G, H, ⟨Nat.le_refl _, F, hG, h⟩, Abs.same n rfl (nle _ _ _ h)⟩ ?_
      rintro j F1 H1 ⟨hj, F0, hF0, hr⟩
      cases j with
      | zero => unfold rCode at hr; cases hr
      | succ j =>
        have hn := nle _ _ _ hr
        unfold rCode at hr
        rw [Nat.ble_eq_true_of_le hn, cond_true] at hr
        cases ha : rCode P q n call j c F0 H1 with
        | none => rw [ha] at hr; cases hr
        | some r1 =>
          obtain ⟨e1, F2, H2⟩ := r1
          rw [ha] at hr
          refine AW.mono (IH j (by omega) c hc F0 H1 _ ha F1 hF0) ?_
          rintro e G1 H3 ⟨h1, h2, h3⟩
          simp only at h1 h2 h3
          rw [h1, h3]
          cases e1 with
          | normal => exact ⟨j, by omega, id, G1, H2, ⟨by omega, F2, h2, hr⟩, Abs.same n rfl (nle _ _ _ hr)⟩
          | exit id => simp only [Option.some.injEq] at hr; subst hr; exact ⟨rfl, h2, rfl⟩
          | goto id => simp only [Option.some.injEq] at hr; subst hr; exact ⟨rfl, h2, rfl⟩
          | ret => simp only [Option.some.injEq] at hr; subst hr; exact ⟨rfl, h2, rfl⟩
          | panic ch => simp only [Option.some.injEq] at hr; subst hr; exact ⟨rfl, h2, rfl⟩
          | outgrown => simp only [Option.some.injEq] at hr; subst hr; exact ⟨rfl, h2, rfl⟩
    | region id ops draw =>
      unfold rCode at h
      simp only [Option.map_eq_some_iff] at h
      obtain ⟨⟨F1, H1⟩, h1, h2⟩ := h
      subst h2
      refine AW_of hm _ hc _ _ _ ?_
      cases draw with
      | false => exact AOpsL.mono (fun F H hh => ⟨rfl, hh⟩) _ _ _ (rOps_ok hcall _ _ _ _ _ h1 G hG)
      | true => exact AOpsDL.mono (fun F H hh => ⟨rfl, hh⟩) _ _ _ (rOpsD_ok hcall _ _ _ _ _ h1 G hG)
    | _ => unfold rCode at h; cases h
def lookT : List (Nat × Bool × Func) → Nat → Option (Bool × Func)
  | [], _ => none
  | p :: r, f => bif Nat.beq p.1 f then some p.2 else lookT r f
/-- A function, run: what it hands back, and the memory if it has changed. -/
def rFun (P : Program) (ext : Caller) (tb : List (Nat × Bool × Func)) (fuel : Nat) : Nat → Caller
  | 0, _, _, _ => none
  | k + 1, f, args, H =>
    match lookT tb f with
    | none => ext f args H
    | some (q, fn) =>
      match fn.body with
      | none => none
      | some c =>
        bif Nat.ble args.length fn.ntmps && Nat.ble args.length 1024 then
          match rCode P q H.length (rFun P ext tb fuel k) fuel c (argT 0 args) H with
          | none => none
          | some (e, F', H') =>
            bif (match e with | .ret => true | .normal => true | _ => false) then
              match (aResE P fn.results.toList F' H').map one1 with
              | none => none
              | some x => bif x.bel 0 && prefixB H H' then some (x, none) else bif Nat.ble H.length H'.length then some (x, some H') else none
            else none
        else none
/-- The functions of a table can be entered, and their regions are as the machine wants them. -/
inductive TbOk (P : Program) : List (Nat × Bool × Func) → Prop where
  | nil : TbOk P []
  | cons {f : Nat} {q : Bool} {fn : Func} {r : List (Nat × Bool × Func)} : okFn P f = true → P.funcs[f]? = some fn → (fn.body.map (codeOk fn.ntmps q)) = some true → TbOk P r → TbOk P ((f, q, fn) :: r)
theorem lookT_ok {P : Program} : ∀ {tb : List (Nat × Bool × Func)}, TbOk P tb → ∀ {f : Nat} {q : Bool} {fn : Func}, lookT tb f = some (q, fn) → okFn P f = true ∧ P.funcs[f]? = some fn ∧ (fn.body.map (codeOk fn.ntmps q)) = some true
  | _, .nil, f, q, fn, h => by cases h
  | _, .cons (f := g) h1 h2 h3 hr, f, q, fn, h => by
    unfold lookT at h
    cases hp : Nat.beq g f
    · simp only [hp, cond_false] at h
      exact lookT_ok hr h
    simp only [hp, cond_true, Option.some.injEq, Prod.mk.injEq] at h
    have e : g = f := Nat.eq_of_beq_eq_true hp
    obtain ⟨rfl, rfl⟩ := h
    subst e
    exact ⟨h1, h2, h3⟩
theorem rFun_ok (hm : P.follows .mixedOrders = true) {ext : Caller} (hext : CallOk P ext) (tb : List (Nat × Bool × Func)) (htb : TbOk P tb) (fuel : Nat) : ∀ k, CallOk P (rFun P ext tb fuel k)
  | 0 => fun f args H x o h => by unfold rFun at h; cases h
  | k + 1 => fun f args H x o h => by
    have IH := rFun_ok hm hext tb htb fuel k
    unfold rFun at h
    cases hq : lookT tb f with
    | none => rw [hq] at h; exact hext f args H x o h
    | some p =>
      obtain ⟨q, fn⟩ := p
      rw [hq] at h
      obtain ⟨ht1, hf, ht2⟩ := lookT_ok htb hq
      refine ⟨ht1, ?_⟩
      suffices hall : H.length ≤ (o.getD H).length ∧ ACalls P f args H (fun y H1 => y = x ∧ H1 = o.getD H) from hall
      simp only at h
      cases hb : fn.body with
      | none => rw [hb] at h; cases h
      | some c =>
        rw [hb] at h ht2
        simp only [Option.map_some, Option.some.injEq] at h ht2
        cases hN : Nat.ble args.length fn.ntmps && Nat.ble args.length 1024
        · rw [hN] at h; cases h
        rw [hN, cond_true] at h
        simp only [Bool.and_eq_true] at hN
        cases hr : rCode P q H.length (rFun P ext tb fuel k) fuel c (argT 0 args) H with
        | none => rw [hr] at h; cases h
        | some r =>
          obtain ⟨e, F', H'⟩ := r
          rw [hr] at h
          simp only at h
          have he : e = .ret ∨ e = .normal := by
            cases e <;> first | exact .inl rfl | exact .inr rfl | (simp at h)
          have h' : (match (aResE P fn.results.toList F' H').map one1 with
            | none => none
            | some x => bif x.bel 0 && prefixB H H' then some (x, none) else bif Nat.ble H.length H'.length then some (x, some H') else none) = some (x, o) := by
            rcases he with rfl | rfl <;> exact h
          clear h
          cases hx : (aResE P fn.results.toList F' H').map one1 with
          | none => rw [hx] at h'; cases h'
          | some y =>
            rw [hx] at h'
            simp only at h'
            have key : ∀ (R : AV → AHeap → Prop), (∀ G1, aResult P fn G1 H' = some y → HBel H.length H → AEnd P fn H.length R e G1 H') → ACalls P f args H R := fun R hR => by
              refine ACalls_of hf hb rfl (Nat.le_of_ble_eq_true hN.1) fun hbel => AW.mono (rCode_ok hm IH fuel fuel (Nat.le_refl _) c ht2 _ _ _ hr _ (argT_eq args 0 (by have := Nat.le_of_ble_eq_true hN.2; omega))) ?_
              rintro e1 G1 H1 ⟨h1, h2, h3⟩
              simp only at h1 h2 h3
              rw [h1, h3]
              exact hR G1 (by unfold aResult; rw [← aResE_eq h2]; exact hx) hbel
            cases hp : y.bel 0 && prefixB H H'
            · rw [hp, cond_false] at h'
              cases hle : Nat.ble H.length H'.length
              · rw [hle] at h'; cases h'
              rw [hle, cond_true] at h'
              simp only [Option.some.injEq, Prod.mk.injEq] at h'
              obtain ⟨rfl, rfl⟩ := h'
              refine ⟨Nat.le_of_ble_eq_true hle, key _ fun G1 hG1 _ => ?_⟩
              have : ∃ x1, aResult P fn G1 H' = some x1 ∧ ∃ σ x2 H2, (x2 = y ∧ H2 = (some H').getD H) ∧ Abs H.length σ [(0, x1)] H' [(0, x2)] H2 :=
                ⟨y, hG1, id, y, H', ⟨rfl, rfl⟩, Abs.same _ rfl (Nat.le_of_ble_eq_true hle)⟩
              rcases he with rfl | rfl <;> exact this
            rw [hp, cond_true] at h'
            simp only [Option.some.injEq, Prod.mk.injEq] at h'
            obtain ⟨rfl, rfl⟩ := h'
            simp only [Bool.and_eq_true] at hp
            obtain ⟨l, rfl⟩ := prefixB_eq hp.2
            exact ⟨Nat.le_refl _, key _ fun G1 hG1 hbel => end_plain he hbel hG1 hp.1 ⟨rfl, rfl⟩⟩
/-- A call at known arguments, by the kernel's own run. -/
theorem ran (hm : P.follows .mixedOrders = true) {ext : Caller} (hext : CallOk P ext) (tb : List (Nat × Bool × Func)) (htb : TbOk P tb) (fuel k : Nat) {f : FuncId} {args : List AV} {H : AHeap} {x : AV} {o : Option AHeap} (h : rFun P ext tb fuel k f args H = some (x, o)) : ACalls P f args H (fun y H1 => y = x ∧ H1 = o.getD H) :=
  (rFun_ok hm hext tb htb fuel k f args H x o h).2.2
theorem rel_closed {E E' : Env} {x : AV} {v : Value} (h : Rel E x v) : x.bel 0 = true → Rel E' x v := by
  induction h with
  | any v => exact fun _ => .any v
  | int k n => exact fun _ => .int k n
  | bool b => exact fun _ => .bool b
  | str s => exact fun _ => .str s
  | nilptr => exact fun _ => .nilptr
  | ptr b o hb => exact fun hx => by simp [AV.bel] at hx
  | nilsl => exact fun _ => .nilsl
  | nils b cap hb hc => exact fun hx => by simp [AV.bel] at hx
  | sl b o len cap c a hb h1 h2 h3 h4 h5 => exact fun hx => by simp [AV.bel] at hx
  | nilmp => exact fun _ => .nilmp
  | mp b hb => exact fun hx => by simp [AV.bel] at hx
  | nilfn => exact fun _ => .nilfn
  | fn f caps cs hl _ ih => exact fun hx => .fn f caps cs hl fun i x v h1 h2 => ih i x v h1 h2 (by simp only [AV.bel, AV.bels_eq] at hx; exact List.all_eq_true.1 hx _ (List.mem_of_getElem? h1))
  | agg xs cs hl _ ih => exact fun hx => .agg xs cs hl fun i x v h1 h2 => ih i x v h1 h2 (by simp only [AV.bel, AV.bels_eq] at hx; exact List.all_eq_true.1 hx _ (List.mem_of_getElem? h1))
  | tup xs cs hl _ ih => exact fun hx => .tup xs cs hl fun i x v h1 h2 => ih i x v h1 h2 (by simp only [AV.bel, AV.bels_eq] at hx; exact List.all_eq_true.1 hx _ (List.mem_of_getElem? h1))
/-- A call that takes and hands back plain values and leaves an empty memory empty leaves any memory as it was. -/
theorem ACalls.closed {f : FuncId} {args : List AV} {x : AV} (h : ACalls P f args [] (fun y H1 => y = x ∧ H1 = [])) (ha : args.all (AV.bel 0) = true) (hx : x.bel 0 = true) (H : AHeap) : ACalls P f args H (fun y H1 => y = x ∧ H1 = H) := by
  intro E w vs hE hv
  let E0 : Env := ⟨w.heap.size, w, 0, fun _ => ⟨0, 0, 0, 0⟩⟩
  have hE0 : Emb E0 [] w := ⟨rfl, Below.refl _ _, Nat.le_refl _, fun b x h => by simp at h, fun b c x y h => by simp at h⟩
  refine (h E0 w vs hE0 ⟨hv.1, fun i y v h1 h2 => rel_closed (hv.2 i y v h1 h2) (List.all_eq_true.1 ha _ (List.mem_of_getElem? h1))⟩).mono ?_
  rintro e w' ⟨E', v, H', y, he, ⟨rfl, rfl⟩, hle, hr, hemb⟩
  have hb := hemb.below
  rw [hle.B, hle.w0] at hb
  exact ⟨E, v, H, y, he, ⟨rfl, rfl⟩, .refl E, rel_closed hr hx, hE.up hb⟩
end
end
/-- The functions that the machine can enter. -/
noncomputable def tb : List (Nat × Bool × Func) := [(2, false, Try.f2), (3, false, Try.f3), (4, false, Try.f4), (5, false, Try.f5), (6, false, Try.f6), (7, false, Try.f7), (8, false, Try.f8), (9, false, Try.f9), (10, false, Try.f10), (11, false, Try.f11), (12, false, Try.f12), (13, false, Try.f13), (14, false, Try.f14), (15, false, Try.f15), (16, false, Try.f16), (17, false, Try.f17), (18, false, Try.f18), (19, false, Try.f19), (20, false, Try.f20), (21, false, Try.f21), (22, false, Try.f22), (23, false, Try.f23), (24, false, Try.f24), (25, false, Try.f25), (26, false, Try.f26), (27, false, Try.f27), (28, false, Try.f28), (29, false, Try.f29), (30, false, Try.f30), (31, false, Try.f31), (32, false, Try.f32), (33, false, Try.f33), (34, false, Try.f34), (35, false, Try.f35), (36, false, Try.f36), (37, false, Try.f37), (38, false, Try.f38), (39, false, Try.f39), (40, false, Try.f40), (41, false, Try.f41), (42, false, Try.f42), (43, false, Try.f43), (45, false, Try.f45), (46, false, Try.f46), (47, false, Try.f47), (48, false, Try.f48), (49, false, Try.f49), (50, false, Try.f50), (51, false, Try.f51), (52, false, Try.f52), (53, false, Try.f53), (54, false, Try.f54), (55, false, Try.f55), (56, false, Try.f56), (57, false, Try.f57), (58, false, Try.f58), (59, false, Try.f59), (60, false, Try.f60), (61, false, Try.f61), (64, false, Try.f64), (65, false, Try.f65), (66, false, Try.f66), (67, false, Try.f67), (68, false, Try.f68), (69, false, Try.f69), (70, false, Try.f70), (71, false, Try.f71), (72, false, Try.f72), (73, false, Try.f73), (74, false, Try.f74), (75, false, Try.f75), (76, false, Try.f76), (77, false, Try.f77), (78, false, Try.f78), (79, false, Try.f79), (80, false, Try.f80), (81, false, Try.f81), (82, false, Try.f82), (83, false, Try.f83), (84, false, Try.f84)]
set_option maxRecDepth 100000 in
theorem tb_ok : TbOk Try.prog tb :=
  .cons (by kernel_rfl) Try.func2 (by kernel_rfl) (
  .cons (by kernel_rfl) Try.func3 (by kernel_rfl) (
  .cons (by kernel_rfl) Try.func4 (by kernel_rfl) (
  .cons (by kernel_rfl) Try.func5 (by kernel_rfl) (
  .cons (by kernel_rfl) Try.func6 (by kernel_rfl) (
  .cons (by kernel_rfl) Try.func7 (by kernel_rfl) (
  .cons (by kernel_rfl) Try.func8 (by kernel_rfl) (
  .cons (by kernel_rfl) Try.func9 (by kernel_rfl) (
  .cons (by kernel_rfl) Try.func10 (by kernel_rfl) (
  .cons (by kernel_rfl) Try.func11 (by kernel_rfl) (
  .cons (by kernel_rfl) Try.func12 (by kernel_rfl) (
  .cons (by kernel_rfl) Try.func13 (by kernel_rfl) (
  .cons (by kernel_rfl) Try.func14 (by kernel_rfl) (
  .cons (by kernel_rfl) Try.func15 (by kernel_rfl) (
  .cons (by kernel_rfl) Try.func16 (by kernel_rfl) (
  .cons (by kernel_rfl) Try.func17 (by kernel_rfl) (
  .cons (by kernel_rfl) Try.func18 (by kernel_rfl) (
  .cons (by kernel_rfl) Try.func19 (by kernel_rfl) (
  .cons (by kernel_rfl) Try.func20 (by kernel_rfl) (
  .cons (by kernel_rfl) Try.func21 (by kernel_rfl) (
  .cons (by kernel_rfl) Try.func22 (by kernel_rfl) (
  .cons (by kernel_rfl) Try.func23 (by kernel_rfl) (
  .cons (by kernel_rfl) Try.func24 (by kernel_rfl) (
  .cons (by kernel_rfl) Try.func25 (by kernel_rfl) (
  .cons (by kernel_rfl) Try.func26 (by kernel_rfl) (
  .cons (by kernel_rfl) Try.func27 (by kernel_rfl) (
  .cons (by kernel_rfl) Try.func28 (by kernel_rfl) (
  .cons (by kernel_rfl) Try.func29 (by kernel_rfl) (
  .cons (by kernel_rfl) Try.func30 (by kernel_rfl) (
  .cons (by kernel_rfl) Try.func31 (by kernel_rfl) (
  .cons (by kernel_rfl) Try.func32 (by kernel_rfl) (
  .cons (by kernel_rfl) Try.func33 (by kernel_rfl) (
  .cons (by kernel_rfl) Try.func34 (by kernel_rfl) (
  .cons (by kernel_rfl) Try.func35 (by kernel_rfl) (
  .cons (by kernel_rfl) Try.func36 (by kernel_rfl) (
  .cons (by kernel_rfl) Try.func37 (by kernel_rfl) (
  .cons (by kernel_rfl) Try.func38 (by kernel_rfl) (
  .cons (by kernel_rfl) Try.func39 (by kernel_rfl) (
  .cons (by kernel_rfl) Try.func40 (by kernel_rfl) (
  .cons (by kernel_rfl) Try.func41 (by kernel_rfl) (
  .cons (by kernel_rfl) Try.func42 (by kernel_rfl) (
  .cons (by kernel_rfl) Try.func43 (by kernel_rfl) (
  .cons (by kernel_rfl) Try.func45 (by kernel_rfl) (
  .cons (by kernel_rfl) Try.func46 (by kernel_rfl) (
  .cons (by kernel_rfl) Try.func47 (by kernel_rfl) (
  .cons (by kernel_rfl) Try.func48 (by kernel_rfl) (
  .cons (by kernel_rfl) Try.func49 (by kernel_rfl) (
  .cons (by kernel_rfl) Try.func50 (by kernel_rfl) (
  .cons (by kernel_rfl) Try.func51 (by kernel_rfl) (
  .cons (by kernel_rfl) Try.func52 (by kernel_rfl) (
  .cons (by kernel_rfl) Try.func53 (by kernel_rfl) (
  .cons (by kernel_rfl) Try.func54 (by kernel_rfl) (
  .cons (by kernel_rfl) Try.func55 (by kernel_rfl) (
  .cons (by kernel_rfl) Try.func56 (by kernel_rfl) (
  .cons (by kernel_rfl) Try.func57 (by kernel_rfl) (
  .cons (by kernel_rfl) Try.func58 (by kernel_rfl) (
  .cons (by kernel_rfl) Try.func59 (by kernel_rfl) (
  .cons (by kernel_rfl) Try.func60 (by kernel_rfl) (
  .cons (by kernel_rfl) Try.func61 (by kernel_rfl) (
  .cons (by kernel_rfl) Try.func64 (by kernel_rfl) (
  .cons (by kernel_rfl) Try.func65 (by kernel_rfl) (
  .cons (by kernel_rfl) Try.func66 (by kernel_rfl) (
  .cons (by kernel_rfl) Try.func67 (by kernel_rfl) (
  .cons (by kernel_rfl) Try.func68 (by kernel_rfl) (
  .cons (by kernel_rfl) Try.func69 (by kernel_rfl) (
  .cons (by kernel_rfl) Try.func70 (by kernel_rfl) (
  .cons (by kernel_rfl) Try.func71 (by kernel_rfl) (
  .cons (by kernel_rfl) Try.func72 (by kernel_rfl) (
  .cons (by kernel_rfl) Try.func73 (by kernel_rfl) (
  .cons (by kernel_rfl) Try.func74 (by kernel_rfl) (
  .cons (by kernel_rfl) Try.func75 (by kernel_rfl) (
  .cons (by kernel_rfl) Try.func76 (by kernel_rfl) (
  .cons (by kernel_rfl) Try.func77 (by kernel_rfl) (
  .cons (by kernel_rfl) Try.func78 (by kernel_rfl) (
  .cons (by kernel_rfl) Try.func79 (by kernel_rfl) (
  .cons (by kernel_rfl) Try.func80 (by kernel_rfl) (
  .cons (by kernel_rfl) Try.func81 (by kernel_rfl) (
  .cons (by kernel_rfl) Try.func82 (by kernel_rfl) (
  .cons (by kernel_rfl) Try.func83 (by kernel_rfl) (
  .cons (by kernel_rfl) Try.func84 (by kernel_rfl) (
  .nil))))))))))))))))))))))))))))))))))))))))))))))))))))))))))))))))))))))))))))))))
def ext : Caller := fun f args _ =>
  match args with
  | [.int .u64 x] => bif Nat.beq f 44 && (decide (0 ≤ x) && decide (x ≤ 18446744073709551615)) then some (.int .i64 (Lib.bitLen x.toNat), none) else none
  | _ => none
theorem ext_ok : CallOk Try.prog ext := fun f args H x o h => by
  unfold ext at h
  split at h
  · rename_i x'
    cases hb : Nat.beq f 44 && (decide (0 ≤ x') && decide (x' ≤ 18446744073709551615))
    · rw [hb] at h; cases h
    rw [hb, cond_true] at h
    simp only [Option.some.injEq, Prod.mk.injEq] at h
    obtain ⟨rfl, rfl⟩ := h
    simp only [Bool.and_eq_true, decide_eq_true_eq] at hb
    obtain ⟨h1, h2, h3⟩ := hb
    have e := Nat.eq_of_beq_eq_true h1
    subst e
    refine ⟨by kernel_rfl, Nat.le_refl _, fun E w vs hE hv => ?_⟩
    obtain ⟨v1, l1, rfl, k1, hr⟩ := rels_cons hv
    obtain rfl := rels_nil hr
    obtain rfl := rel_int k1
    refine (Try.bits_Len x' w h2 h3).mono fun e w' ⟨he, hw⟩ => ?_
    subst hw
    exact ⟨E, _, H, _, he, ⟨rfl, rfl⟩, .refl E, .int _ _, hE⟩
  cases h
def gp (l : List Pt) (i : Nat) : Pt := (g1 l i, g2 l i)
theorem gp_eq {l : List Pt} {i : Nat} (h : i < l.length) : gp l i = l[i] := by
  simp [gp, g1, g2, List.getD_eq_getElem?_getD, h]
section
variable (H : AHeap)
end
set_option maxRecDepth 100000 in
theorem sortc_f {α : Type} [Inhabited α] (val : α → Int × Int) (cf : α → α → Int) (hO : SWO (ltOf cf)) (g : FuncId) (eg : ∀ args w, (callFunc g args).run Try.prog w = .ok (.enter g args) w)
    (hcmp : ∀ (x y : α) (W : World), Calls Try.prog g #[.agg #[.int .i64 (val x).1, .int .i64 (val x).2], .agg #[.int .i64 (val y).1, .int .i64 (val y).2]] W fun e w' => e = .returned (.int .i64 (cf x y)) ∧ ∃ q os', w' = grow (W.drewN q) os')
    {H : AHeap} {b n : Nat} {cap : Option Nat} {zs : List α} (hg : H[b]? = some (.cells true 2 (prs (zs.map val)))) (hn : n = zs.length) (h0 : 0 < n) (h1 : n ≤ 1000000) :
    ACalls Try.prog 23 [.sl (some (b, 0)) n cap, .fn g []] H
      (fun v H' => v = .tup [] ∧ ∃ ys : List α, ys.Perm zs ∧ ys.Pairwise (fun x y => ltOf cf y x = false) ∧ H' = H.set b (.cells true 2 (prs (ys.map val)))) := fun E w vs hE hv => by
  obtain ⟨v1, l1, rfl, k1, h1'⟩ := rels_cons hv
  obtain ⟨v2, l2, rfl, k2, h2'⟩ := rels_cons h1'
  obtain rfl := rels_nil h2'
  have hf : v2 = .func (.func g) #[] #[] := by
    cases k2 with
    | fn _ _ cs hl _ =>
      have : cs = #[] := by
        have : cs.size = 0 := hl.symm
        exact Array.eq_empty_of_size_eq_zero this
      rw [this]
  subst hf
  cases k1 with
  | nils _ _ _ _ => exact absurd h0 (Nat.lt_irrefl 0)
  | sl _ _ _ _ c a hb h2 h3 h4 h5 h6 =>
  have hc : c ≠ 0 := by omega
  obtain rfl := h5.resolve_left hc
  obtain ⟨m1, m2, -, -⟩ := hE.blk b _ hg
  obtain ⟨o1, o2, o3, o4, o5⟩ := m2 rfl
  have hpl : (prs (zs.map val)).length = zs.length * 2 := by rw [prs_len]; simp
  have hH : HoldsK (encP val) 2 w (E.loc b).blk (E.loc b).off zs.toArray := by
    show Holds id w _ _ (flatK (encP val) 2 zs.toArray)
    rw [flat_list]
    intro j hj
    have hj' : j < zs.length * 2 := by simpa [enc2_len] using hj
    refine ⟨?_, (o5 j (by omega)).2⟩
    have hx : (prs (zs.map val))[j]? = some (prs (zs.map val))[j] := List.getElem?_eq_getElem (by omega)
    obtain ⟨-, v, hv, hr⟩ := m1 j _ hx
    rw [hv]
    obtain ⟨u, hu, hru⟩ := (rels_prs (E := E) (zs.map val)).get hx
    have : ∀ (k : Nat) (l : List (Int × Int)) (y : AV) (v u : Value), (prs l)[k]? = some y → Rel E y v → (enc2 l)[k]? = some u → v = u := by
      intro k l
      induction l generalizing k with
      | nil => intro y v u h; simp [prs] at h
      | cons p l ih =>
        intro y v u h1 h2 h3
        match k with
        | 0 => simp [prs_cons, enc2] at h1 h3; subst h1 h3; exact rel_int h2
        | 1 => simp [prs_cons, enc2] at h1 h3; subst h1 h3; exact rel_int h2
        | k + 2 =>
          refine ih k y v u (by simpa [prs_cons] using h1) h2 ?_
          simpa [enc2] using h3
    have e := this j _ _ v u hx hr hu
    subst e
    simp [List.getElem!_eq_getElem?_getD, hu]
  have hcon := AnyQ.slices_SortFunc Try.sort23 2 Try.isAgg36 Try.sizeOf36 (encP val) (fun _ => rfl) (fun x v hv => by simp [encP] at hv; rcases hv with rfl | rfl <;> rfl) cf hO g #[] (E.loc b).blk (E.loc b).off c zs.toArray w eg
    (fun _ _ _ _ x y => by simpa [encP] using hcmp x y _) hH o2 (by simp; omega)
  change Calls Try.prog 23 _ _ _ at hcon
  have hsz : zs.toArray.size = n := by simp [hn]
  rw [hsz] at hcon
  refine hcon.mono fun e w' ⟨he, d', q, os, hp, hs, hw⟩ => ?_
  subst hw
  obtain ⟨p1, -, p3⟩ := hp
  have hperm : d'.toList.Perm zs := by
    have a1 : d'.extract 0 n = d' := by rw [← hsz, ← p1]; simp
    have a2 : zs.toArray.extract 0 n = zs.toArray := by rw [← hsz]; simp
    rw [a1, a2] at p3
    simpa using p3
  have hl : (d'.toList.map val).length = (zs.map val).length := by simp [hperm.length_eq]
  refine ⟨E, _, _, .tup [], he, ⟨rfl, d'.toList, hperm, ?_, rfl⟩, .refl E, .tup [] #[] rfl (fun i x v h => by simp at h), ?_⟩
  · rw [List.pairwise_iff_getElem]
    intro i j hi hj hij
    have := hs i j (Nat.zero_le _) hij (by have := hperm.length_eq; simp at hj this; omega)
    simp at hi hj
    simpa [hi, hj] using this
  have hd : d' = d'.toList.toArray := by simp
  have e1 : sortWorldK (encP val) 2 w (E.loc b).blk (E.loc b).off q d' os = grow ((w.drewN q).setCells (E.loc b).blk (E.loc b).off (enc2 (d'.toList.map val))) os := by
    unfold sortWorldK
    congr 1
    show putRow id (Sort.ahead w q) _ _ (flatK (encP val) 2 d') = _
    rw [hd, flat_list]
    have := Lib.putRow_eq_setCells id w (E.loc b).blk (E.loc b).off (flatK (encP val) 2 zs.toArray) (enc2 (d'.toList.map val)) q hH (by rw [enc2_len, hl]; simp)
    simpa using this
  rw [e1]
  exact hE.putP hg hl os
/-- Before by (Y, X). -/
def befP (a b : Pt) : Prop := a.2 < b.2 ∨ (a.2 = b.2 ∧ a.1 < b.1)
theorem befP_asymm {a b : Int × Int} (h : befP a b) : ¬ befP b a := by unfold befP at *; omega
theorem befP_irr {a : Int × Int} : ¬ befP a a := by unfold befP; omega
theorem befP_trans {a b c : Int × Int} (h : befP a b) (k : befP b c) : befP a c := by unfold befP at *; omega
theorem befP_tri (a b : Int × Int) : befP a b ∨ a = b ∨ befP b a := by
  unfold befP
  rcases Int.lt_trichotomy a.2 b.2 with h | h | h
  · exact .inl (.inl h)
  · rcases Int.lt_trichotomy a.1 b.1 with k | k | k
    · exact .inl (.inr ⟨h, k⟩)
    · exact .inr (.inl (Prod.ext k h))
    exact .inr (.inr (.inr ⟨h.symm, k⟩))
  exact .inr (.inr (.inl h))
def leC (a b : Int × Int) : Prop := a = b ∨ befP a b
/-- Two sorted rows with the same elements are one. -/
theorem leC_anti {a b : Int × Int} (h : leC a b) (k : leC b a) : a = b := by
  unfold leC at *
  rcases h with h | h
  · exact h
  rcases k with k | k
  · exact k.symm
  exact absurd k (befP_asymm h)
theorem sortP_eq : ∀ {l m : List (Int × Int)}, l.Perm m → l.Pairwise leC → m.Pairwise leC → l = m
  | [], m, h, _, _ => (List.Perm.nil_eq h)
  | a :: l, [], h, _, _ => absurd h.symm.nil_eq (by simp)
  | a :: l, b :: m, h, h1, h2 => by
    rw [List.pairwise_cons] at h1 h2
    have hab : a = b := by
      have ha : a ∈ b :: m := h.subset (List.mem_cons_self ..)
      have hb : b ∈ a :: l := h.symm.subset (List.mem_cons_self ..)
      rcases List.mem_cons.1 ha with e | e
      · exact e
      rcases List.mem_cons.1 hb with e2 | e2
      · exact e2.symm
      exact leC_anti (h1.1 b e2) (h2.1 a e)
    subst hab
    rw [sortP_eq (List.Perm.cons_inv h) h1.2 h2.2]
theorem leC_tot (a b : Int × Int) : leC a b ∨ leC b a := by
  unfold leC
  rcases befP_tri a b with h | h | h
  · exact .inl (.inr h)
  · exact .inl (.inl h)
  exact .inr (.inr h)
theorem leC_trans {a b c : Int × Int} (h : leC a b) (k : leC b c) : leC a c := by
  unfold leC at *
  rcases h with rfl | h
  · exact k
  rcases k with rfl | k
  · exact .inr h
  exact .inr (befP_trans h k)
instance (a b : Int × Int) : Decidable (befP a b) := by unfold befP; infer_instance
instance (a b : Int × Int) : Decidable (leC a b) := by unfold leC; infer_instance
/-- The sorted row. -/
def srtC (l : List (Int × Int)) : List (Int × Int) := l.mergeSort fun a b => decide (leC a b)
theorem srtC_perm (l : List (Int × Int)) : (srtC l).Perm l := List.mergeSort_perm _ _
theorem srtC_len (l : List (Int × Int)) : (srtC l).length = l.length := (srtC_perm l).length_eq
theorem srtC_sorted (l : List (Int × Int)) : (srtC l).Pairwise leC := by
  have h := List.pairwise_mergeSort (le := fun a b => decide (leC a b)) (fun a b c h k => by simp only [decide_eq_true_eq] at *; exact leC_trans h k) (fun a b => by simp only [Bool.or_eq_true, decide_eq_true_eq]; exact leC_tot a b) l
  unfold srtC
  refine h.imp fun {a b} k => ?_
  simpa using k
theorem or_h (a b : Int) (w : World) (blk off c : Nat) (h0 : w.cell? ⟨blk, off, none⟩ = some (.int .i64 a)) (h1 : w.cell? ⟨blk, off + 1, none⟩ = some (.int .i64 b)) :
    Calls Try.prog 30 #[.slice (some ⟨blk, off, none⟩) 2 c] w fun e w' => e = .returned (.int .i64 (if a = 0 then b else a)) ∧ w' = w := by
  have g0 : w.cell? ⟨blk, off + 0, none⟩ = some (.int .i64 a) := h0
  go_enter Try.func30, Try.ntmps30
  go_wp2
  go_loop [8] (fun i => ∃ k : Nat, k ≤ 2 ∧ i = .int .i64 k ∧ Hid ((1 ≤ k → a = 0) ∧ (2 ≤ k → b = 0))) (fun i => 2 - (intOf i).toNat)
  case atStart => exact ⟨0, by omega, rfl, ⟨fun h => by omega, fun h => by omega⟩⟩
  case round =>
    obtain ⟨k, hk, rfl, HK⟩ := hrel
    rcases (by omega : k = 0 ∨ k = 1 ∨ k = 2) with rfl | rfl | rfl
    · by_cases ha : a = 0
      · go_wp2
        go_round
        case rel => exact ⟨1, by omega, by go_num, ⟨fun _ => ha, fun h => by omega⟩⟩
        case measure => simp [intOf]
      go_wp2
      go_ret
      exact ⟨ret_int (by first | rfl | (rw [if_neg ha])), rfl⟩
    · have ha := HK.out.1 (by omega)
      by_cases hb : b = 0
      · go_wp2
        go_round
        case rel => exact ⟨2, by omega, by go_num, ⟨fun _ => ha, fun h => hb⟩⟩
        case measure => simp [intOf]
      go_wp2
      go_ret
      exact ⟨ret_int (by first | rfl | (rw [if_pos ha])), rfl⟩
    have ha := HK.out.1 (by omega)
    have hb := HK.out.2 (by omega)
    go_wp2
    go_ret
    exact ⟨ret_int (by first | rfl | (rw [if_pos ha, hb])), rfl⟩
theorem cell_last (w : World) (cs : Array Value) (t B j : Nat) (hB : B = w.heap.size) : (w.alloc (.cells cs t)).cell? ⟨B, j, none⟩ = cs[j]? := by
  subst hB
  unfold World.cell?
  have : (w.alloc (.cells cs t)).heap[w.heap.size]? = some (.cells cs t) := by
    show (w.heap.push _)[w.heap.size]? = _
    rw [Array.getElem?_push, if_pos rfl]
  rw [this]; rfl
theorem cell_lastd (w : World) (cs : Array Value) (t B j : Nat) (hB : B = w.heap.size) : (w.alloc (.cells cs t)).drew.cell? ⟨B, j, none⟩ = cs[j]? := cell_last w cs t B j hB
/-- By (Y, X). -/
def cfC (a b : Pt) : Int := if cmpI a.2 b.2 = 0 then cmpI a.1 b.1 else cmpI a.2 b.2
set_option maxHeartbeats 20000000 in
theorem before_h (x y : Pt) (W : World) : Calls Try.prog 24 #[.agg #[.int .i64 x.1, .int .i64 x.2], .agg #[.int .i64 y.1, .int .i64 y.2]] W fun e w' => e = .returned (.int .i64 (cfC x y)) ∧ ∃ q os', w' = grow (W.drewN q) os' := by
  have hcon := compare_h
  have hcon2 : ∀ (w : World) (blk off c : Nat), w.cell? ⟨blk, off, none⟩ = some (.int .i64 (cmpI x.2 y.2)) → w.cell? ⟨blk, off + 1, none⟩ = some (.int .i64 (cmpI x.1 y.1)) →
    Calls Try.prog 30 #[.slice (some ⟨blk, off, none⟩) 2 c] w fun e w' => e = .returned (.int .i64 (cfC x y)) ∧ w' = w := by
    intro w blk off c h0 h1
    have k := or_h (cmpI x.2 y.2) (cmpI x.1 y.1) w blk off c h0 h1
    unfold cfC
    exact k
  go_enter Try.func24, Try.ntmps24
  go_wp2_with (first | (go_at_call 31; refine (hcon _ _ _).mono ?_; rintro e w' ⟨rfl, rfl⟩) | fail)
  go_region_held3 (fun w' => w'.cell? ⟨W.heap.size, 0, none⟩ = some (.int .i64 x.1) ∧ w'.cell? ⟨W.heap.size, 1, none⟩ = some (.int .i64 x.2) ∧ w'.cell? ⟨W.heap.size + 1, 0, none⟩ = some (.int .i64 y.1) ∧ w'.cell? ⟨W.heap.size + 1, 1, none⟩ = some (.int .i64 y.2)) (go_keep)
    (first
      | (go_at_call 31; refine (hcon _ _ _).mono ?_; rintro e w' ⟨rfl, rfl⟩)
      | (go_at_call 30; refine (hcon2 _ _ _ _ ?h1 ?h2).mono ?_; case h1 => first | exact (cell_last _ _ _ _ _ (by simp)).trans rfl | exact (cell_lastd _ _ _ _ _ (by simp)).trans rfl
         case h2 => first | exact (cell_last _ _ _ _ _ (by simp)).trans rfl | exact (cell_lastd _ _ _ _ _ (by simp)).trans rfl
         rintro e w' ⟨rfl, rfl⟩))
  go_wp2
  go_ret
  exact ⟨rfl, 1, _, by rw [alloc_eq_grow, alloc_eq_grow, alloc_eq_grow, grow_grow, grow_grow]; rfl⟩
theorem ltC_iff (x y : Pt) : ltOf cfC x y = decide (befP x y) := by
  rw [Bool.eq_iff_iff]
  unfold ltOf
  rw [decide_eq_true_eq, decide_eq_true_eq]
  unfold cfC cmpI befP
  repeat' split
  all_goals omega
theorem swoC : SWO (ltOf cfC) where
  irrefl x := by rw [ltC_iff, decide_eq_false_iff_not]; exact befP_irr
  trans x y z h1 h2 := by
    rw [ltC_iff, decide_eq_true_eq] at *
    exact befP_trans h1 h2
  ntrans x y z h1 h2 := by
    rw [ltC_iff, decide_eq_false_iff_not] at *
    unfold befP at *; omega
set_option maxRecDepth 100000 in
/-- Cells sorted by (Y, X). -/
theorem sortc_c (H : AHeap) (b : Nat) (cap : Option Nat) (l : List Pt) (hb : H[b]? = some (.cells true 2 (prs l))) (h0 : 0 < l.length) (h1 : l.length ≤ 1000000) :
    ACalls Try.prog 23 [.sl (some (b, 0)) l.length cap, .fn 24 []] H (fun v H' => v = .tup [] ∧ H' = H.set b (.cells true 2 (prs (srtC l)))) := by
  have eg : ∀ args w, (callFunc 24 args).run Try.prog w = .ok (.enter 24 args) w := enters_of Try.func24 (by kernel_rfl) rfl
  refine (sortc_f (α := Pt) id cfC swoC 24 eg (fun x y W => before_h x y W) (zs := l) (by rw [List.map_id]; exact hb) rfl h0 h1).mono ?_
  rintro v H' ⟨rfl, ys, hp, hs, rfl⟩
  have e : ys = srtC l := by
    refine sortP_eq (hp.trans (srtC_perm l).symm) (hs.imp fun {x y} h => ?_) (srtC_sorted l)
    rw [ltC_iff, decide_eq_false_iff_not] at h
    rcases leC_tot x y with k | k
    · exact k
    unfold leC at k ⊢
    rcases k with k | k
    · exact .inl k.symm
    exact absurd k h
  rw [List.map_id, e]
  exact ⟨rfl, rfl⟩
/-- What is left, and a cluster. -/
abbrev FS := List Pt × List Pt
/-- Two cells that touch each other. -/
def adjP (a b : Pt) : Prop := (-1 ≤ a.1 - b.1 ∧ a.1 - b.1 ≤ 1) ∧ (-1 ≤ a.2 - b.2 ∧ a.2 - b.2 ≤ 1)
theorem adjP_symm {a b : Pt} (h : adjP a b) : adjP b a := by unfold adjP at *; omega
def stF (i : Nat) (s : FS) (dx dy : Int) : FS :=
  if memP s.1 (g1 s.2 i + dx) (g2 s.2 i + dy) = true then (s.1.erase (g1 s.2 i + dx, g2 s.2 i + dy), s.2 ++ [(g1 s.2 i + dx, g2 s.2 i + dy)]) else s
def dxF (i : Nat) (dy : Int) : Nat → FS → FS
  | 0, s => s
  | n + 1, s => stF i (dxF i dy n s) ((n : Int) - 1) dy
def dyF (i : Nat) : Nat → FS → FS
  | 0, s => s
  | n + 1, s => dxF i ((n : Int) - 1) 3 (dyF i n s)
def bfN : Nat → FS → FS
  | 0, s => s
  | n + 1, s => if n < (bfN n s).2.length then dyF n 3 (bfN n s) else bfN n s
def bfR (s : FS) : FS := bfN (s.1.length + s.2.length) s
/-- Further on: the cluster is longer, and less is left. -/
def extP (s t : FS) : Prop := (∃ m, t.2 = s.2 ++ m) ∧ (∀ b, b ∈ t.1 → b ∈ s.1) ∧ (t.1 ++ t.2).Perm (s.1 ++ s.2)
theorem extP.refl (s : FS) : extP s s := ⟨⟨[], by simp⟩, fun _ h => h, List.Perm.refl _⟩
theorem extP.trans {s t u : FS} (h : extP s t) (k : extP t u) : extP s u := by
  obtain ⟨⟨m, hm⟩, h2, h3⟩ := h
  obtain ⟨⟨m', hm'⟩, k2, k3⟩ := k
  exact ⟨⟨m ++ m', by rw [hm', hm, List.append_assoc]⟩, fun b hb => h2 b (k2 b hb), k3.trans h3⟩
theorem extP.len {s t : FS} (h : extP s t) : t.1.length + t.2.length = s.1.length + s.2.length := by
  have := h.2.2.length_eq
  simpa using this
theorem extP.le {s t : FS} (h : extP s t) : s.2.length ≤ t.2.length := by
  obtain ⟨⟨m, hm⟩, -⟩ := h
  rw [hm]; simp
theorem extP.gp {s t : FS} (h : extP s t) {i : Nat} (hi : i < s.2.length) : gp t.2 i = gp s.2 i := by
  have hl := h.le
  obtain ⟨⟨m, hm⟩, -⟩ := h
  rw [gp_eq (by omega), gp_eq hi]
  simp [hm, List.getElem_append_left, hi]
theorem stF_ext (i : Nat) (s : FS) (dx dy : Int) : extP s (stF i s dx dy) := by
  unfold stF
  split
  · rename_i h
    have h := memP_iff.1 h
    refine ⟨⟨_, rfl⟩, fun b hb => List.mem_of_mem_erase hb, ?_⟩
    have e := List.perm_cons_erase h
    have e1 : (s.1.erase (g1 s.2 i + dx, g2 s.2 i + dy) ++ (s.2 ++ [(g1 s.2 i + dx, g2 s.2 i + dy)])).Perm ((g1 s.2 i + dx, g2 s.2 i + dy) :: (s.1.erase (g1 s.2 i + dx, g2 s.2 i + dy) ++ s.2)) := by
      rw [← List.append_assoc]
      exact List.perm_append_singleton _ _
    refine e1.trans ?_
    rw [← List.cons_append]
    exact (e.symm).append_right _
  exact extP.refl s
theorem dxF_ext (i : Nat) (dy : Int) : ∀ n s, extP s (dxF i dy n s)
  | 0, s => extP.refl s
  | n + 1, s => (dxF_ext i dy n s).trans (stF_ext _ _ _ _)
theorem dyF_ext (i : Nat) : ∀ n s, extP s (dyF i n s)
  | 0, s => extP.refl s
  | n + 1, s => (dyF_ext i n s).trans (dxF_ext _ _ _ _)
theorem bfN_ext : ∀ n s, extP s (bfN n s)
  | 0, s => extP.refl s
  | n + 1, s => by
    unfold bfN
    split
    · exact (bfN_ext n s).trans (dyF_ext _ _ _)
    exact bfN_ext n s
theorem bfN_stop {s : FS} {i : Nat} (h : (bfN i s).2.length ≤ i) : ∀ j, bfN (i + j) s = bfN i s
  | 0 => rfl
  | j + 1 => by
    have e := bfN_stop h j
    show (if i + j < (bfN (i + j) s).2.length then dyF (i + j) 3 (bfN (i + j) s) else bfN (i + j) s) = _
    rw [e, if_neg (by omega)]
theorem bfR_stop {s : FS} {i : Nat} (h : (bfN i s).2.length ≤ i) (hi : i ≤ s.1.length + s.2.length) : bfR s = bfN i s := by
  have := bfN_stop h (s.1.length + s.2.length - i)
  rw [show i + (s.1.length + s.2.length - i) = s.1.length + s.2.length by omega] at this
  exact this
theorem nodup_ext {s t : FS} (h : extP s t) (hn : (s.1 ++ s.2).Nodup) : (t.1 ++ t.2).Nodup := h.2.2.nodup_iff.2 hn
theorem stF_gone {i : Nat} {s : FS} (hn : (s.1 ++ s.2).Nodup) (dx dy : Int) : (g1 s.2 i + dx, g2 s.2 i + dy) ∉ (stF i s dx dy).1 := by
  unfold stF
  split
  · rename_i h
    intro hb
    exact ((List.nodup_append.1 hn).1.not_mem_erase) hb
  rename_i h
  intro hb
  exact h (memP_iff.2 hb)
theorem dxF_gone {i : Nat} {dy : Int} : ∀ {n : Nat} {s : FS}, (s.1 ++ s.2).Nodup → i < s.2.length → ∀ k : Nat, k < n → (g1 s.2 i + ((k : Int) - 1), g2 s.2 i + dy) ∉ (dxF i dy n s).1
  | 0, _, _, _, k, hk => by omega
  | n + 1, s, hn, hi, k, hk => by
    have e := dxF_ext i dy n s
    have eg := e.gp hi
    simp only [gp, Prod.mk.injEq] at eg
    by_cases h : k = n
    · have := stF_gone (i := i) (nodup_ext e hn) ((n : Int) - 1) dy
      rw [eg.1, eg.2] at this
      rw [h]; exact this
    intro hb
    exact dxF_gone (n := n) hn hi k (by omega) ((stF_ext _ _ _ _).2.1 _ hb)
theorem dyF_gone {i : Nat} : ∀ {n : Nat} {s : FS}, (s.1 ++ s.2).Nodup → i < s.2.length → ∀ k j : Nat, k < 3 → j < n → (g1 s.2 i + ((k : Int) - 1), g2 s.2 i + ((j : Int) - 1)) ∉ (dyF i n s).1
  | 0, _, _, _, k, j, _, hj => by omega
  | n + 1, s, hn, hi, k, j, hk, hj => by
    have e := dyF_ext i n s
    have eg := e.gp hi
    simp only [gp, Prod.mk.injEq] at eg
    by_cases h : j = n
    · have := dxF_gone (i := i) (dy := (n : Int) - 1) (n := 3) (nodup_ext e hn) (Nat.lt_of_lt_of_le hi e.le) k hk
      rw [eg.1, eg.2] at this
      rw [h]; exact this
    intro hb
    exact dyF_gone (n := n) hn hi k j hk (by omega) ((dxF_ext _ _ _ _).2.1 _ hb)
theorem dyF_done {i : Nat} {s : FS} (hn : (s.1 ++ s.2).Nodup) (hi : i < s.2.length) : ∀ b ∈ (dyF i 3 s).1, ¬ adjP (gp s.2 i) b := fun b hb ha => by
  unfold adjP gp at ha
  simp only at ha
  have := dyF_gone (i := i) (n := 3) hn hi (b.1 - g1 s.2 i + 1).toNat (b.2 - g2 s.2 i + 1).toNat (by omega) (by omega)
  rw [show g1 s.2 i + (((b.1 - g1 s.2 i + 1).toNat : Int) - 1) = b.1 by omega, show g2 s.2 i + (((b.2 - g2 s.2 i + 1).toNat : Int) - 1) = b.2 by omega] at this
  exact this hb
theorem bfN_done : ∀ {n : Nat} {s : FS}, (s.1 ++ s.2).Nodup → ∀ k, k < n → k < (bfN n s).2.length → ∀ b ∈ (bfN n s).1, ¬ adjP (gp (bfN n s).2 k) b
  | 0, _, _, k, hk, _, _, _ => by omega
  | n + 1, s, hn, k, hk, hl, b, hb => by
    have e := bfN_ext n s
    have hnn := nodup_ext e hn
    unfold bfN at hl hb ⊢
    split at hl
    · rename_i h
      rw [if_pos h] at hb ⊢
      have e2 := dyF_ext n 3 (bfN n s)
      by_cases hkn : k = n
      · rw [hkn, e2.gp h]
        exact dyF_done hnn h b hb
      rw [e2.gp (by omega)]
      exact bfN_done hn k (by omega) (by omega) b (e2.2.1 b hb)
    rename_i h
    rw [if_neg h] at hb ⊢
    exact bfN_done hn k (by omega) hl b hb
/-- What a cluster's first cell has in common with all that touch it, all of the cluster have. -/
def carP (T : List Pt) (Q : Pt → Prop) : Prop := ∀ a b, a ∈ T → b ∈ T → adjP a b → Q a → Q b
theorem stF_car {T : List Pt} {Q : Pt → Prop} (hQ : carP T Q) {i : Nat} {s : FS} (hi : i < s.2.length) (hT : ∀ x, x ∈ s.1 ++ s.2 → x ∈ T) (h : ∀ x ∈ s.2, Q x) {dx dy : Int} (hx : -1 ≤ dx ∧ dx ≤ 1) (hy : -1 ≤ dy ∧ dy ≤ 1) : ∀ x ∈ (stF i s dx dy).2, Q x := by
  unfold stF
  split
  · rename_i hm
    intro x hxm
    simp only [List.mem_append, List.mem_singleton] at hxm
    rcases hxm with hxm | rfl
    · exact h x hxm
    have hg : gp s.2 i ∈ s.2 := by rw [gp_eq hi]; exact List.getElem_mem hi
    refine hQ (gp s.2 i) _ (hT _ (List.mem_append.2 (.inr hg))) (hT _ (List.mem_append.2 (.inl (memP_iff.1 hm)))) ?_ (h _ hg)
    unfold adjP gp; simp only; omega
  exact h
theorem mem_ext {T : List Pt} {s t : FS} (e : extP s t) (hT : ∀ x, x ∈ s.1 ++ s.2 → x ∈ T) : ∀ x, x ∈ t.1 ++ t.2 → x ∈ T := fun x hx => hT x (e.2.2.mem_iff.1 hx)
theorem dxF_car {T : List Pt} {Q : Pt → Prop} (hQ : carP T Q) {i : Nat} {dy : Int} (hy : -1 ≤ dy ∧ dy ≤ 1) : ∀ {n : Nat} {s : FS}, n ≤ 3 → i < s.2.length → (∀ x, x ∈ s.1 ++ s.2 → x ∈ T) → (∀ x ∈ s.2, Q x) → ∀ x ∈ (dxF i dy n s).2, Q x
  | 0, _, _, _, _, h => h
  | n + 1, s, hn, hi, hT, h => by
    have e := dxF_ext i dy n s
    exact stF_car hQ (Nat.lt_of_lt_of_le hi e.le) (mem_ext e hT) (dxF_car hQ hy (by omega) hi hT h) (by omega) hy
theorem dyF_car {T : List Pt} {Q : Pt → Prop} (hQ : carP T Q) {i : Nat} : ∀ {n : Nat} {s : FS}, n ≤ 3 → i < s.2.length → (∀ x, x ∈ s.1 ++ s.2 → x ∈ T) → (∀ x ∈ s.2, Q x) → ∀ x ∈ (dyF i n s).2, Q x
  | 0, _, _, _, _, h => h
  | n + 1, s, hn, hi, hT, h => by
    have e := dyF_ext i n s
    exact dxF_car hQ (by omega) (Nat.le_refl 3) (Nat.lt_of_lt_of_le hi e.le) (mem_ext e hT) (dyF_car hQ (by omega) hi hT h)
theorem bfN_car {T : List Pt} {Q : Pt → Prop} (hQ : carP T Q) : ∀ {n : Nat} {s : FS}, (∀ x, x ∈ s.1 ++ s.2 → x ∈ T) → (∀ x ∈ s.2, Q x) → ∀ x ∈ (bfN n s).2, Q x
  | 0, _, _, h => h
  | n + 1, s, hT, h => by
    unfold bfN
    split
    · rename_i hi
      exact dyF_car hQ (Nat.le_refl 3) hi (mem_ext (bfN_ext n s) hT) (bfN_car hQ hT h)
    exact bfN_car hQ hT h
theorem bfR_ext (s : FS) : extP s (bfR s) := bfN_ext _ s
theorem bfR_done {s : FS} (hn : (s.1 ++ s.2).Nodup) : ∀ a ∈ (bfR s).2, ∀ b ∈ (bfR s).1, ¬ adjP a b := fun a ha b hb => by
  obtain ⟨k, hk, rfl⟩ := List.mem_iff_getElem.1 ha
  rw [← gp_eq hk]
  have := (bfR_ext s).len
  exact bfN_done hn k (by omega) hk b hb
theorem bfR_car {T : List Pt} {Q : Pt → Prop} (hQ : carP T Q) {s : FS} (hT : ∀ x, x ∈ s.1 ++ s.2 → x ∈ T) (h : ∀ x ∈ s.2, Q x) : ∀ x ∈ (bfR s).2, Q x := bfN_car hQ hT h
/-- The cells that are left, and the clusters so far. srt is how a cluster is sorted. -/
def clN (srt : List Pt → List Pt) (all S0 : List Pt) : Nat → List Pt × List (List Pt)
  | 0 => (S0, [])
  | n + 1 =>
    if memP (clN srt all S0 n).1 (g1 all n) (g2 all n) = true then
      ((bfR ((clN srt all S0 n).1.erase (g1 all n, g2 all n), [(g1 all n, g2 all n)])).1, (clN srt all S0 n).2 ++ [srt (bfR ((clN srt all S0 n).1.erase (g1 all n, g2 all n), [(g1 all n, g2 all n)])).2])
    else clN srt all S0 n
structure ClInv (all : List Pt) (n : Nat) (r : List Pt × List (List Pt)) : Prop where
  perm : (r.1 ++ r.2.flatten).Perm all
  gone : ∀ k, k < n → gp all k ∉ r.1
  ne : ∀ c ∈ r.2, c ≠ []
  off : ∀ c ∈ r.2, ∀ a ∈ c, ∀ b ∈ r.1, ¬ adjP a b
  apart : r.2.Pairwise fun c d => ∀ a ∈ c, ∀ b ∈ d, ¬ adjP a b
  conn : ∀ Q, carP all Q → ∀ c ∈ r.2, ∀ a ∈ c, Q a → ∀ b ∈ c, Q b
theorem carP.not {T : List Pt} {Q : Pt → Prop} (h : carP T Q) : carP T fun x => ¬ Q x := fun a b ha hb hab hq hqb => hq (h b a hb ha (adjP_symm hab) hqb)
theorem clN_inv {srt : List Pt → List Pt} (hs : ∀ l, (srt l).Perm l) {all S0 : List Pt} (h0 : S0.Perm all) (hn : all.Nodup) : ∀ n, n ≤ all.length → ClInv all n (clN srt all S0 n)
  | 0, _ => ⟨by simpa [clN] using h0, fun k hk => by omega, by simp [clN], by simp [clN], by simp [clN], by simp [clN]⟩
  | n + 1, hl => by
    have I := clN_inv hs h0 hn n (by omega)
    unfold clN
    generalize clN srt all S0 n = r at I
    obtain ⟨S, cs⟩ := r
    have hnd : (S ++ cs.flatten).Nodup := I.perm.nodup_iff.2 hn
    have hndS : S.Nodup := (List.nodup_append.1 hnd).1
    split
    · rename_i hm
      have hm := memP_iff.1 hm
      simp only at hm ⊢
      generalize hc : ((g1 all n, g2 all n) : Pt) = c at hm ⊢
      have hcg : gp all n = c := hc
      have pS := List.perm_cons_erase hm
      have hsub : ∀ b, b ∈ S.erase c → b ∈ S := fun b hb => List.mem_of_mem_erase hb
      have p0 : (S.erase c ++ [c]).Perm S := (List.perm_append_singleton _ _).trans pS.symm
      have nd0 : ((S.erase c, [c]) : FS).1.Nodup ∧ ((S.erase c) ++ [c]).Nodup := ⟨hndS.erase _, p0.nodup_iff.2 hndS⟩
      have hin : ∀ x, x ∈ S → x ∈ all := fun x hx => I.perm.mem_iff.1 (List.mem_append.2 (.inl hx))
      have e := bfR_ext (S.erase c, [c])
      have hd := bfR_done (s := (S.erase c, [c])) nd0.2
      have hcar := fun Q (hQ : carP all Q) (hq : Q c) => bfR_car hQ (s := (S.erase c, [c])) (fun x hx => hin x (p0.mem_iff.1 hx)) (by simpa using hq)
      have hperm : (((bfR (S.erase c, [c])).1 ++ (bfR (S.erase c, [c])).2)).Perm S := e.2.2.trans p0
      obtain ⟨⟨m, hm2⟩, hless, -⟩ := e
      generalize bfR (S.erase c, [c]) = t at *
      obtain ⟨S', cl⟩ := t
      simp only at *
      refine ⟨?_, fun k hk => ?_, fun d hd' => ?_, fun d hd' a ha b hb => ?_, ?_, fun Q hQ d hd' a ha hqa b hb => ?_⟩
      · simp only [List.flatten_append, List.flatten_cons, List.flatten_nil, List.append_nil]
        have : (S' ++ (cs.flatten ++ srt cl)).Perm ((S' ++ cl) ++ cs.flatten) := by
          rw [List.append_assoc]
          exact List.Perm.append_left _ ((List.perm_append_comm).trans (List.Perm.append_right _ (hs cl)))
        exact this.trans ((hperm.append_right _).trans I.perm)
      · intro hb
        have hbS := hsub _ (hless _ hb)
        by_cases hkn : k = n
        · rw [hkn, hcg] at hb
          exact hndS.not_mem_erase (hless _ hb)
        exact I.gone k (by omega) hbS
      · rcases List.mem_append.1 hd' with q | q
        · exact I.ne d q
        rw [List.mem_singleton.1 q]
        intro q0
        have := (hs cl).length_eq
        rw [q0, hm2] at this
        simp at this
      · rcases List.mem_append.1 hd' with q | q
        · exact I.off d q a ha b (hsub _ (hless _ hb))
        rw [List.mem_singleton.1 q] at ha
        exact hd a ((hs cl).mem_iff.1 ha) b hb
      · rw [List.pairwise_append]
        refine ⟨I.apart, List.pairwise_singleton _ _, fun d hd' d2 hd2 a ha b hb => ?_⟩
        rw [List.mem_singleton.1 hd2] at hb
        exact I.off d hd' a ha b (hperm.mem_iff.1 (List.mem_append.2 (.inr ((hs cl).mem_iff.1 hb))))
      rcases List.mem_append.1 hd' with q | q
      · exact I.conn Q hQ d q a ha hqa b hb
      rw [List.mem_singleton.1 q] at ha hb
      have hc : Q c := by
        refine Classical.byContradiction fun hq => ?_
        exact hcar _ hQ.not hq a ((hs cl).mem_iff.1 ha) hqa
      exact hcar Q hQ hc b ((hs cl).mem_iff.1 hb)
    rename_i hm
    refine ⟨I.perm, fun k hk => ?_, I.ne, I.off, I.apart, I.conn⟩
    by_cases hkn : k = n
    · rw [hkn]; exact fun hb => hm (memP_iff.2 hb)
    exact I.gone k (by omega)
/-- All cells are in clusters at the end. -/
theorem clN_end {all : List Pt} {r : List Pt × List (List Pt)} (I : ClInv all all.length r) : r.1 = [] ∧ r.2.flatten.Perm all := by
  have h : r.1 = [] := by
    cases hr : r.1 with
    | nil => rfl
    | cons x l =>
      have hx : x ∈ all := I.perm.mem_iff.1 (List.mem_append.2 (.inl (by rw [hr]; exact List.mem_cons_self ..)))
      obtain ⟨k, hk, e⟩ := List.mem_iff_getElem.1 hx
      have := I.gone k hk
      rw [gp_eq hk, e, hr] at this
      exact (this (List.mem_cons_self ..)).elim
  refine ⟨h, ?_⟩
  have := I.perm
  rw [h] at this
  simpa using this
/-- The set of the first cells of a row. -/
def insN (all : List Pt) : Nat → List Pt
  | 0 => []
  | n + 1 => insP (insN all n) (g1 all n) (g2 all n)
theorem insN_take {all : List Pt} (hn : all.Nodup) : ∀ n, n ≤ all.length → insN all n = all.take n
  | 0, _ => rfl
  | n + 1, h => by
    rw [insN, insN_take hn n (by omega), List.take_succ_eq_append_getElem (by omega)]
    have e : ((g1 all n, g2 all n) : Pt) = all[n] := gp_eq (by omega)
    unfold insP
    rw [if_neg, e]
    rw [memP_iff, e]
    intro hm
    obtain ⟨k, hk, ek⟩ := List.mem_iff_getElem.1 hm
    rw [List.length_take] at hk
    rw [List.getElem_take] at ek
    have := List.pairwise_iff_getElem.1 hn k n (by omega) (by omega) (by omega)
    exact this ek
theorem insN_all {all : List Pt} (hn : all.Nodup) : insN all all.length = all := by rw [insN_take hn _ (Nat.le_refl _), List.take_length]
theorem gc_mem {cs : List (List Pt)} {a : Nat} (h : a < cs.length) : gc cs a ∈ cs := by rw [gc_lt h]; exact List.getElem_mem h
theorem gp_mem {l : List Pt} {b : Nat} (h : b < l.length) : gp l b ∈ l := by rw [gp_eq h]; exact List.getElem_mem h
def uniP (cs : List (List Pt)) : Prop := ∀ a b a' b', a < cs.length → b < (gc cs a).length → a' < cs.length → b' < (gc cs a').length → gp (gc cs a) b = gp (gc cs a') b' → a = a' ∧ b = b'
theorem gp_inj {l : List Pt} (hn : l.Nodup) {i j : Nat} (hi : i < l.length) (hj : j < l.length) (h : gp l i = gp l j) : i = j := by
  rw [gp_eq hi, gp_eq hj] at h
  have k := List.pairwise_iff_getElem.1 hn
  rcases Nat.lt_trichotomy i j with q | q | q
  · exact (k i j hi hj q h).elim
  · exact q
  exact (k j i hj hi q h.symm).elim
theorem uni_of : ∀ {cs : List (List Pt)}, cs.flatten.Nodup → uniP cs
  | [], _ => fun a b a' b' h => by simp at h
  | c :: cs, h => by
    rw [List.flatten_cons, List.nodup_append] at h
    have ih := uni_of (cs := cs) h.2.1
    intro a b a' b' ha hb ha' hb' e
    cases a with
    | zero => cases a' with
      | zero => exact ⟨rfl, gp_inj h.1 hb hb' e⟩
      | succ a' =>
        have q : gp (gc cs a') b' ∈ cs.flatten := List.mem_flatten.2 ⟨_, gc_mem (by simpa using ha'), gp_mem hb'⟩
        exact (h.2.2 _ (gp_mem hb) _ q e).elim
    | succ a => cases a' with
      | zero =>
        have q : gp (gc cs a) b ∈ cs.flatten := List.mem_flatten.2 ⟨_, gc_mem (by simpa using ha), gp_mem hb⟩
        exact (h.2.2 _ (gp_mem hb') _ q e.symm).elim
      | succ a' =>
        have := ih a b a' b' (by simpa using ha) hb (by simpa using ha') hb' e
        exact ⟨by omega, this.2⟩
theorem gi_setC {s : List Int} {a j : Nat} {v : Int} (h : a < s.length) : gi (s.set a v) j = if a = j then v else gi s j := by
  simp only [gi, List.getD_eq_getElem?_getD, List.getElem?_set]
  split
  · rfl
  rfl
theorem cflat_len : ∀ {cs : List (List Pt)}, (∀ c ∈ cs, c ≠ []) → cs.length ≤ cs.flatten.length
  | [], _ => Nat.zero_le _
  | c :: cs, h => by
    have ih := cflat_len (cs := cs) fun d hd => h d (List.mem_cons_of_mem _ hd)
    have : 0 < c.length := List.length_pos_iff.2 (h c (List.mem_cons_self ..))
    simp only [List.flatten_cons, List.length_append, List.length_cons]; omega
theorem cflat_le : ∀ {cs : List (List Pt)} {c : List Pt}, c ∈ cs → c.length ≤ cs.flatten.length
  | d :: cs, c, h => by
    simp only [List.flatten_cons, List.length_append]
    rcases List.mem_cons.1 h with rfl | h
    · omega
    have := cflat_le h; omega
theorem gp_in {l : List Pt} {i : Nat} (h : i < l.length) : gp l i ∈ l := gp_mem h
theorem rowP_nodup (p : Int → Int → Bool) (y : Nat) : ∀ j, (rowP p y j).Nodup
  | 0 => List.nodup_nil
  | j + 1 => by
    unfold rowP
    refine List.nodup_append.2 ⟨rowP_nodup p y j, by split <;> simp, fun a ha b hb => ?_⟩
    split at hb
    · rw [List.mem_singleton] at hb
      have := (rowP_mem p y j a).1 ha
      intro e; subst e; rw [hb] at this; simp only at this; omega
    cases hb
theorem gridP_nodup (p : Int → Int → Bool) (w : Nat) : ∀ i, (gridP p w i).Nodup
  | 0 => List.nodup_nil
  | i + 1 => by
    unfold gridP
    refine List.nodup_append.2 ⟨gridP_nodup p w i, rowP_nodup p i w, fun a ha b hb => ?_⟩
    have h1 := (gridP_mem p w i a).1 ha
    have h2 := (rowP_mem p i w b).1 hb
    intro e; subst e; omega
theorem fro_nodup {W Hh : Int} {xs : List Int} : (froL W Hh xs).Nodup := gridP_nodup _ _ _
theorem fro_len {W Hh : Int} {xs : List Int} (hV : Vld W Hh xs) : (froL W Hh xs).length ≤ 4096 := by
  have h := gridP_len (froB W Hh xs) W.toNat Hh.toNat
  have h2 : Hh.toNat * W.toNat ≤ 64 * 64 := Nat.mul_le_mul (by have := hV.h1; omega) (by have := hV.w1; omega)
  exact Nat.le_trans h h2
/-- The clusters of a row of cells. -/
def cluL (A : List Pt) : List (List Pt) := (clN srtC A A A.length).2
structure CluP (A : List Pt) (cs : List (List Pt)) : Prop where
  perm : cs.flatten.Perm A
  uni : uniP cs
  len : cs.length ≤ A.length
  pos : ∀ i, i < cs.length → 0 < (gc cs i).length
  le : ∀ i, i < cs.length → (gc cs i).length ≤ A.length
  mem : ∀ i k, i < cs.length → k < (gc cs i).length → gp (gc cs i) k ∈ A
  apart : cs.Pairwise fun c d => ∀ a ∈ c, ∀ b ∈ d, ¬ adjP a b
  conn : ∀ Q, carP A Q → ∀ c ∈ cs, ∀ a ∈ c, Q a → ∀ b ∈ c, Q b
theorem cluL_ok {A : List Pt} (hn : A.Nodup) : CluP A (cluL A) := by
  have I := clN_inv srtC_perm (S0 := A) (List.Perm.refl _) hn A.length (Nat.le_refl _)
  have hE := (clN_end I).2
  have hl := hE.length_eq
  refine ⟨hE, uni_of (hE.nodup_iff.2 hn), by rw [← hl]; exact cflat_len I.ne, fun i hi => List.length_pos_iff.2 (I.ne _ (gc_mem hi)), fun i hi => by rw [← hl]; exact cflat_le (gc_mem hi), fun i k hi hk => hE.mem_iff.1 (List.mem_flatten.2 ⟨_, gc_mem hi, gp_mem hk⟩), I.apart, I.conn⟩
def ixc (W : Int) (c : Pt) : Nat := (c.2 * W + c.1).toNat
def lv (L : List Int) (W : Int) (c : Pt) : Int := gi L (ixc W c)
theorem idx_inj {W H : Int} {c d : Pt} (hc : inB W H c.1 c.2 = true) (hd : inB W H d.1 d.2 = true) (h : ixc W c = ixc W d) : c = d := by
  have h1 := idx_bd hc
  have h2 := idx_bd hd
  obtain ⟨a, b⟩ := c
  obtain ⟨a', b'⟩ := d
  rw [inB_iff] at hc hd
  unfold ixc at h
  simp only at *
  have e : b * W + a = b' * W + a' := by omega
  have key : ∀ (p q u v : Int), p * W + u = q * W + v → 0 ≤ u → u < W → 0 ≤ v → v < W → ¬ p < q := fun p q u v e h1 h2 h3 h4 hlt => by
    have := Int.mul_le_mul_of_nonneg_right (show p + 1 ≤ q by omega) (show 0 ≤ W by omega)
    rw [Int.add_mul, Int.one_mul] at this
    omega
  have k1 := key b b' a a' e (by omega) (by omega) (by omega) (by omega)
  have k2 := key b' b a' a e.symm (by omega) (by omega) (by omega) (by omega)
  have : b = b' := by omega
  subst this
  have : a = a' := by omega
  rw [this]
def trn (k : Nat) : Pt := match k with | 0 => (1, 0) | 1 => (1, 1) | 2 => (0, 1) | 3 => (-1, 1) | 4 => (-1, 0) | 5 => (-1, -1) | 6 => (0, -1) | _ => (1, -1)
/-- The cost of a step, or -1. -/
def stI (W H : Int) (xs : List Int) (cx cy dx dy : Int) : Int :=
  if (isB W H xs cx cy 1 && isB W H xs (cx + dx) (cy + dy) 1) = true then (if dx = 0 ∨ dy = 0 then 70 else if (isB W H xs (cx + dx) cy 1 && isB W H xs cx (cy + dy) 1) = true then 99 else -1) else -1
theorem stI_free {W H : Int} {xs : List Int} {cx cy dx dy : Int} (h : 0 ≤ stI W H xs cx cy dx dy) : isB W H xs cx cy 1 = true ∧ isB W H xs (cx + dx) (cy + dy) 1 = true ∧ stI W H xs cx cy dx dy ≤ 99 ∧ 70 ≤ stI W H xs cx cy dx dy := by
  unfold stI at *
  by_cases q : (isB W H xs cx cy 1 && isB W H xs (cx + dx) (cy + dy) 1) = true
  · rw [if_pos q] at h ⊢
    have q' := q
    rw [Bool.and_eq_true] at q'
    refine ⟨q'.1, q'.2, ?_⟩
    split
    · omega
    rename_i q2
    rw [if_neg q2] at h
    split
    · omega
    rename_i q3; rw [if_neg q3] at h; omega
  rw [if_neg q] at h; omega
theorem isB_in {W H : Int} {xs : List Int} {x y v : Int} (h : isB W H xs x y v = true) : inB W H x y = true := by
  unfold isB at h
  rw [Bool.and_eq_true] at h; exact h.1
/-- A step in direction k. -/
def stk (W H : Int) (xs : List Int) (c : Pt) (k : Nat) : Int := stI W H xs c.1 c.2 (trn k).1 (trn k).2
def to (c : Pt) (k : Nat) : Pt := (c.1 + (trn k).1, c.2 + (trn k).2)
def nd : List Int → Nat
  | [] => 0
  | x :: r => (if 0 ≤ x then 1 else 0) + nd r
theorem nd_le : ∀ L : List Int, nd L ≤ L.length
  | [] => Nat.le_refl _
  | x :: r => by
    have := nd_le r
    simp only [nd, List.length_cons]
    split <;> omega
theorem nd_set : ∀ {L : List Int} {i : Nat} {v : Int}, i < L.length → gi L i < 0 → 0 ≤ v → nd (L.set i v) = nd L + 1
  | [], i, _, h, _, _ => by simp at h
  | x :: r, 0, v, _, h1, h2 => by
    have e : gi (x :: r) 0 = x := rfl
    rw [e] at h1
    simp only [List.set_cons_zero, nd]
    rw [if_pos h2, if_neg (by omega)]; omega
  | x :: r, i + 1, v, h, h1, h2 => by
    have e : gi (x :: r) (i + 1) = gi r i := rfl
    rw [e] at h1
    have := nd_set (L := r) (i := i) (v := v) (by simpa using h) h1 h2
    simp only [List.set_cons_succ, nd, this]; omega
theorem nd_rep : ∀ n : Nat, nd (List.replicate n (-1)) = 0
  | 0 => rfl
  | n + 1 => by
    rw [List.replicate_succ]
    simp only [nd, nd_rep n]; decide
theorem gi_rep {n i : Nat} (h : i < n) : gi (List.replicate n (-1)) i = -1 := by
  simp [gi, List.getD_eq_getElem?_getD, List.getElem?_replicate, h]
section
variable (W H : Int) (xs : List Int) (goal : Pt)
/-- Where the search stands: L the costs that are known, hp the visits that wait, v the cell whose steps below q have been looked at. -/
structure Dij (L : List Int) (hp : List T3) (v : Pt) (q : Nat) : Prop where
  gin : inB W H goal.1 goal.2 = true
  len : (L.length : Int) = W * H
  neg : ∀ i, i < L.length → gi L i < 0 → gi L i = -1
  ent : ∀ e ∈ hp, isB W H xs e.1 e.2.1 1 = true ∧ 0 ≤ e.2.2 ∧ (((e.1, e.2.1) = goal ∧ e.2.2 = 0) ∨ ∃ b k, k < 8 ∧ to b k = (e.1, e.2.1) ∧ 0 ≤ stk W H xs b k ∧ 0 ≤ lv L W b ∧ e.2.2 = lv L W b + stk W H xs b k)
  frm : ∀ c : Pt, inB W H c.1 c.2 = true → 0 ≤ lv L W c → isB W H xs c.1 c.2 1 = true ∧ ((c = goal ∧ lv L W c = 0) ∨ ∃ b k, k < 8 ∧ to b k = c ∧ 0 ≤ stk W H xs b k ∧ 0 ≤ lv L W b ∧ lv L W c = lv L W b + stk W H xs b k)
  out : ∀ (c : Pt) k, k < 8 → 0 ≤ stk W H xs c k → 0 ≤ lv L W c → (c ≠ v ∨ k < q) → 0 ≤ lv L W (to c k) ∨ ((to c k).1, (to c k).2, lv L W c + stk W H xs c k) ∈ hp
  mon : ∀ c : Pt, inB W H c.1 c.2 = true → 0 ≤ lv L W c → ∀ e ∈ hp, lv L W c ≤ e.2.2
  edg : ∀ (c : Pt) k, k < 8 → 0 ≤ stk W H xs c k → 0 ≤ lv L W c → 0 ≤ lv L W (to c k) → lv L W (to c k) ≤ lv L W c + stk W H xs c k
  gl : 0 ≤ lv L W goal ∨ (goal.1, goal.2, (0 : Int)) ∈ hp
  gl0 : 0 ≤ lv L W goal → lv L W goal = 0
  top : ∀ c : Pt, inB W H c.1 c.2 = true → 0 ≤ lv L W c → lv L W c ≤ lv L W v
  bd : ∀ c : Pt, inB W H c.1 c.2 = true → 0 ≤ lv L W c → lv L W c + 99 ≤ 99 * (nd L : Int)
  bde : ∀ e ∈ hp, e.2.2 ≤ 99 * (nd L : Int)
variable {W H xs goal}
theorem stk_in {c : Pt} {k : Nat} (h : 0 ≤ stk W H xs c k) : inB W H c.1 c.2 = true ∧ inB W H (to c k).1 (to c k).2 = true ∧ stk W H xs c k ≤ 99 ∧ 70 ≤ stk W H xs c k := ⟨isB_in (stI_free h).1, isB_in (stI_free h).2.1, (stI_free h).2.2⟩
theorem lv_rep {n : Nat} (hn : (n : Int) = W * H) {c : Pt} (hc : inB W H c.1 c.2 = true) : lv (List.replicate n (-1)) W c = -1 := by
  have := idx_bd hc
  exact gi_rep (by unfold ixc; omega)
theorem dij0 {n : Nat} (hn : (n : Int) = W * H) (hg : isB W H xs goal.1 goal.2 1 = true) : Dij W H xs goal (List.replicate n (-1)) [(goal.1, goal.2, 0)] goal 8 := by
  have neg : ∀ c : Pt, inB W H c.1 c.2 = true → ¬ 0 ≤ lv (List.replicate n (-1)) W c := fun c hc h => by rw [lv_rep hn hc] at h; omega
  refine ⟨isB_in hg, by rw [List.length_replicate]; exact hn, fun i hi _ => gi_rep (by rwa [List.length_replicate] at hi), fun e he => ?_, fun c hc h => (neg c hc h).elim, fun c k hk hs h => (neg c (stk_in hs).1 h).elim, fun c hc h => (neg c hc h).elim, fun c k hk hs h => (neg c (stk_in hs).1 h).elim, .inr (List.mem_singleton.2 rfl), fun h => (neg goal (isB_in hg) h).elim, fun c hc h => (neg c hc h).elim, fun c hc h => (neg c hc h).elim, fun e he => ?_⟩
  · rw [List.mem_singleton.1 he]; exact ⟨hg, Int.le_refl _, .inl ⟨rfl, rfl⟩⟩
  rw [List.mem_singleton.1 he]; simp only; omega
theorem lv_set {L : List Int} (hl : (L.length : Int) = W * H) {c d : Pt} {x : Int} (hc : inB W H c.1 c.2 = true) (hd : inB W H d.1 d.2 = true) : lv (L.set (ixc W c) x) W d = if c = d then x else lv L W d := by
  have h1 := idx_bd hc
  unfold lv
  rw [gi_setC (by unfold ixc; omega)]
  by_cases e : c = d
  · rw [if_pos e, if_pos (by rw [e])]
  rw [if_neg e, if_neg fun q => e (idx_inj hc hd q)]
/-- A visit of a cell that is done. -/
theorem dij_old {L : List Int} {hp hp2 : List T3} {v : Pt} {e : T3} (D : Dij W H xs goal L hp v 8) (hP : hp.Perm (e :: hp2)) (he : 0 ≤ lv L W (e.1, e.2.1)) : Dij W H xs goal L hp2 v 8 := by
  have sub : ∀ x, x ∈ hp2 → x ∈ hp := fun x hx => hP.mem_iff.2 (List.mem_cons_of_mem _ hx)
  refine ⟨D.gin, D.len, D.neg, fun x hx => D.ent x (sub x hx), D.frm, fun c k hk hs h hv => ?_, fun c hc h x hx => D.mon c hc h x (sub x hx), D.edg, ?_, D.gl0, D.top, D.bd, fun x hx => D.bde x (sub x hx)⟩
  · rcases D.out c k hk hs h hv with q | q
    · exact .inl q
    rcases List.mem_cons.1 (hP.mem_iff.1 q) with r | r
    · left; rw [← r] at he; exact he
    exact .inr r
  rcases D.gl with q | q
  · exact .inl q
  rcases List.mem_cons.1 (hP.mem_iff.1 q) with r | r
  · left; rw [← r] at he; exact he
  exact .inr r
/-- A visit of a new cell. -/
theorem dij_new {L : List Int} {hp hp2 : List T3} {v : Pt} {e : T3} (D : Dij W H xs goal L hp v 8) (hP : hp.Perm (e :: hp2)) (hmin : ∀ x ∈ hp, e.2.2 ≤ x.2.2) (he : ¬ 0 ≤ lv L W (e.1, e.2.1)) : Dij W H xs goal (L.set (ixc W (e.1, e.2.1)) e.2.2) hp2 (e.1, e.2.1) 0 := by
  have hin : e ∈ hp := hP.mem_iff.2 (List.mem_cons_self ..)
  have sub : ∀ x, x ∈ hp2 → x ∈ hp := fun x hx => hP.mem_iff.2 (List.mem_cons_of_mem _ hx)
  obtain ⟨e1, e2, e3⟩ := D.ent e hin
  have hei : inB W H (e.1, e.2.1).1 (e.1, e.2.1).2 = true := isB_in e1
  generalize hE : ((e.1, e.2.1) : Pt) = E at *
  have hlv := fun (d : Pt) (hd : inB W H d.1 d.2 = true) => lv_set (x := e.2.2) D.len hei hd
  have hix := idx_bd hei
  have hlt : ixc W E < L.length := by have := D.len; unfold ixc; omega
  have hnd := nd_set (L := L) (i := ixc W E) (v := e.2.2) hlt (by have : ¬ 0 ≤ gi L (ixc W E) := he; omega) e2
  have old : ∀ d : Pt, inB W H d.1 d.2 = true → 0 ≤ lv L W d → 0 ≤ lv (L.set (ixc W E) e.2.2) W d ∧ lv (L.set (ixc W E) e.2.2) W d = lv L W d := fun d hd h => by
    rw [hlv d hd, if_neg (fun q => he (by rw [q]; exact h))]; exact ⟨h, rfl⟩
  have self : lv (L.set (ixc W E) e.2.2) W E = e.2.2 := by rw [hlv E hei, if_pos rfl]
  have cs : ∀ d : Pt, inB W H d.1 d.2 = true → 0 ≤ lv (L.set (ixc W E) e.2.2) W d → (d = E) ∨ (0 ≤ lv L W d ∧ lv (L.set (ixc W E) e.2.2) W d = lv L W d) := fun d hd h => by
    by_cases q : E = d
    · exact .inl q.symm
    rw [hlv d hd, if_neg q] at h ⊢; exact .inr ⟨h, rfl⟩
  have hE1 : E.1 = e.1 := by rw [← hE]
  have hE2 : E.2 = e.2.1 := by rw [← hE]
  refine ⟨D.gin, by rw [List.length_set]; exact D.len, fun i hi hn => ?_, fun x hx => ?_, fun c hc h => ?_, fun c k hk hs h hv => ?_, fun c hc h x hx => ?_, fun c k hk hs h1 h2 => ?_, ?_, fun h => ?_, fun c hc h => ?_, fun c hc h => ?_, fun x hx => ?_⟩
  · rw [List.length_set] at hi
    rw [gi_setC hlt] at hn ⊢
    split at hn
    · omega
    rename_i q; rw [if_neg q]; exact D.neg i hi hn
  · obtain ⟨x1, x2, x3⟩ := D.ent x (sub x hx)
    refine ⟨x1, x2, x3.imp id ?_⟩
    rintro ⟨b, k, hk, hb, hs, hl, hx⟩
    have := old b (stk_in hs).1 hl
    exact ⟨b, k, hk, hb, hs, this.1, by rw [this.2]; exact hx⟩
  · have conv : ∀ y : Int, (∃ b k, k < 8 ∧ to b k = c ∧ 0 ≤ stk W H xs b k ∧ 0 ≤ lv L W b ∧ y = lv L W b + stk W H xs b k) → ∃ b k, k < 8 ∧ to b k = c ∧ 0 ≤ stk W H xs b k ∧ 0 ≤ lv (L.set (ixc W E) e.2.2) W b ∧ y = lv (L.set (ixc W E) e.2.2) W b + stk W H xs b k := by
      rintro y ⟨b, k, hk, hb, hs, hl, hx⟩
      have := old b (stk_in hs).1 hl
      exact ⟨b, k, hk, hb, hs, this.1, by rw [this.2]; exact hx⟩
    rcases cs c hc h with rfl | ⟨q1, q2⟩
    · rw [self, hE1, hE2]
      refine ⟨e1, e3.imp id (conv _)⟩
    obtain ⟨f1, f2⟩ := D.frm c hc q1
    rw [q2]
    exact ⟨f1, f2.imp id (conv _)⟩
  · have hcin := (stk_in hs).1
    have htin := (stk_in hs).2.1
    have hne : c ≠ E := hv.resolve_right (by omega)
    rcases cs c hcin h with q | ⟨q1, q2⟩
    · exact (hne q).elim
    rw [q2]
    rcases D.out c k hk hs q1 (.inr hk) with r | r
    · exact .inl (old _ htin r).1
    rcases List.mem_cons.1 (hP.mem_iff.1 r) with r | r
    · left
      have : to c k = E := by rw [← hE, ← r]
      rw [this, self]; exact e2
    exact .inr r
  · rcases cs c hc h with rfl | ⟨q1, q2⟩
    · rw [self]; exact hmin x (sub x hx)
    rw [q2]; exact D.mon c hc q1 x (sub x hx)
  · have hcin := (stk_in hs).1
    have htin := (stk_in hs).2.1
    have h70 := (stk_in hs).2.2.2
    rcases cs c hcin h1 with q | ⟨q1, q2⟩
    · rcases cs _ htin h2 with r | ⟨r1, r2⟩
      · rw [r, q]; rw [q] at h70; omega
      rw [r2, q, self]
      have := D.mon _ htin r1 e hin
      rw [q] at this h70
      omega
    rcases cs _ htin h2 with r | ⟨r1, r2⟩
    · rw [r, self, q2]
      rcases D.out c k hk hs q1 (.inr hk) with t | t
      · rw [r] at t; exact (he t).elim
      exact hmin _ t
    rw [r2, q2]; exact D.edg c k hk hs q1 r1
  · rcases D.gl with q | q
    · exact .inl (old _ D.gin q).1
    rcases List.mem_cons.1 (hP.mem_iff.1 q) with r | r
    · left
      have : goal = E := by rw [← hE, ← r]
      rw [this, self]; exact e2
    exact .inr r
  · rcases cs goal D.gin h with r | ⟨q1, q2⟩
    · rw [r, self]
      rcases D.gl with q | q
      · rw [r] at q; exact (he q).elim
      have := hmin _ q
      simp only at this; omega
    rw [q2]; exact D.gl0 q1
  · rw [self]
    rcases cs c hc h with rfl | ⟨q1, q2⟩
    · rw [self]; exact Int.le_refl _
    rw [q2]; exact D.mon c hc q1 e hin
  · have hb := D.bde e hin
    rw [hnd]
    rcases cs c hc h with rfl | ⟨q1, q2⟩
    · rw [self]; omega
    rw [q2]; have := D.bd c hc q1; omega
  have := D.bde x (sub x hx)
  rw [hnd]; omega
/-- A step that leads to no new visit. -/
theorem dij_skip {L : List Int} {hp : List T3} {v : Pt} {q : Nat} (D : Dij W H xs goal L hp v q) (h : ¬ (0 ≤ stk W H xs v q ∧ lv L W (to v q) < 0)) : Dij W H xs goal L hp v (q + 1) := by
  refine ⟨D.gin, D.len, D.neg, D.ent, D.frm, fun c k hk hs hl hv => ?_, D.mon, D.edg, D.gl, D.gl0, D.top, D.bd, D.bde⟩
  by_cases e : c = v ∧ k = q
  · obtain ⟨rfl, rfl⟩ := e
    left; omega
  exact D.out c k hk hs hl (by
    rcases hv with q1 | q1
    · exact .inl q1
    by_cases hcv : c = v
    · right
      have : k ≠ q := fun h => e ⟨hcv, h⟩
      omega
    exact .inl hcv)
/-- A step that leads to a new visit. -/
theorem dij_push {L : List Int} {hp hp2 : List T3} {v : Pt} {q : Nat} (D : Dij W H xs goal L hp v q) (hq : q < 8) (hv : 0 ≤ lv L W v) (hs : 0 ≤ stk W H xs v q) (hP : hp2.Perm (((to v q).1, (to v q).2, lv L W v + stk W H xs v q) :: hp)) : Dij W H xs goal L hp2 v (q + 1) := by
  have hin := (stk_in hs).1
  have sup : ∀ x, x ∈ hp → x ∈ hp2 := fun x hx => hP.mem_iff.2 (List.mem_cons_of_mem _ hx)
  refine ⟨D.gin, D.len, D.neg, fun e he => ?_, D.frm, fun c k hk hsc hl hvc => ?_, fun c hc h e he => ?_, D.edg, D.gl.imp id (sup _), D.gl0, D.top, D.bd, fun e he => ?_⟩
  · rcases List.mem_cons.1 (hP.mem_iff.1 he) with rfl | r
    · exact ⟨(stI_free hs).2.1, by simp only; omega, .inr ⟨v, q, hq, rfl, hs, hv, rfl⟩⟩
    exact D.ent e r
  · by_cases e : c = v ∧ k = q
    · obtain ⟨rfl, rfl⟩ := e
      exact .inr (hP.mem_iff.2 (List.mem_cons_self ..))
    exact (D.out c k hk hsc hl (by
      rcases hvc with q1 | q1
      · exact .inl q1
      by_cases hcv : c = v
      · right
        have : k ≠ q := fun h => e ⟨hcv, h⟩
        omega
      exact .inl hcv)).imp id (sup _)
  · rcases List.mem_cons.1 (hP.mem_iff.1 he) with rfl | r
    · have := D.top c hc h
      simp only; omega
    exact D.mon c hc h e r
  rcases List.mem_cons.1 (hP.mem_iff.1 he) with rfl | r
  · have := D.bd v hin hv
    have := (stk_in hs).2.2.1
    simp only; omega
  exact D.bde e r
end
/-- The least costs to a cell. -/
structure CostP (W H : Int) (xs : List Int) (goal : Pt) (L : List Int) : Prop where
  len : (L.length : Int) = W * H
  neg : ∀ i, i < L.length → gi L i < 0 → gi L i = -1
  gl0 : lv L W goal = 0
  edg : ∀ (c : Pt) k, k < 8 → 0 ≤ stk W H xs c k → 0 ≤ lv L W c → 0 ≤ lv L W (to c k) ∧ lv L W (to c k) ≤ lv L W c + stk W H xs c k
  frm : ∀ c : Pt, inB W H c.1 c.2 = true → 0 ≤ lv L W c → c = goal ∨ ∃ b k, k < 8 ∧ to b k = c ∧ 0 ≤ stk W H xs b k ∧ 0 ≤ lv L W b ∧ lv L W c = lv L W b + stk W H xs b k
  fre : ∀ c : Pt, inB W H c.1 c.2 = true → 0 ≤ lv L W c → isB W H xs c.1 c.2 1 = true
  bd : ∀ c : Pt, inB W H c.1 c.2 = true → lv L W c ≤ 99 * (L.length : Int)
theorem dij_end {W H : Int} {xs : List Int} {goal : Pt} {L : List Int} {v : Pt} (D : Dij W H xs goal L [] v 8) : CostP W H xs goal L := by
  have hg : 0 ≤ lv L W goal := D.gl.resolve_right (fun h => by cases h)
  refine ⟨D.len, D.neg, D.gl0 hg, fun c k hk hs h => ?_, fun c hc h => ?_, fun c hc h => (D.frm c hc h).1, fun c hc => ?_⟩
  · have h2 : 0 ≤ lv L W (to c k) := (D.out c k hk hs h (.inr hk)).resolve_right (fun h => by cases h)
    exact ⟨h2, D.edg c k hk hs h h2⟩
  · exact (D.frm c hc h).2.imp (·.1) id
  by_cases h : 0 ≤ lv L W c
  · have := D.bd c hc h
    have := nd_le L
    omega
  omega
theorem cost_le {W H : Int} {xs : List Int} {goal : Pt} {L M : List Int} (hg : inB W H goal.1 goal.2 = true) (hL : CostP W H xs goal L) (hM : CostP W H xs goal M) : ∀ (n : Nat) (c : Pt), inB W H c.1 c.2 = true → 0 ≤ lv L W c → lv L W c ≤ n → 0 ≤ lv M W c ∧ lv M W c ≤ lv L W c
  | n, c, hc, h, hn => by
    rcases hL.frm c hc h with rfl | ⟨b, k, hk, hb, hs, hl, e⟩
    · rw [hL.gl0, hM.gl0]; omega
    have h70 := stk_in hs
    cases n with
    | zero => omega
    | succ n =>
      have ih := cost_le hg hL hM n b h70.1 hl (by omega)
      have := hM.edg b k hk hs ih.1
      rw [hb] at this
      exact ⟨this.1, by omega⟩
/-- There is only one. -/
theorem cost_uni {W H : Int} {xs : List Int} {goal : Pt} {L M : List Int} (h0 : 1 ≤ W) (hg : inB W H goal.1 goal.2 = true) (hL : CostP W H xs goal L) (hM : CostP W H xs goal M) : L = M := by
  have hlen : L.length = M.length := by have := hL.len; have := hM.len; omega
  have key : ∀ c : Pt, inB W H c.1 c.2 = true → lv L W c = lv M W c := fun c hc => by
    have h1 := fun h => cost_le hg hL hM (lv L W c).toNat c hc h (by omega)
    have h2 := fun h => cost_le hg hM hL (lv M W c).toNat c hc h (by omega)
    have hi := idx_bd hc
    by_cases a : 0 ≤ lv L W c
    · have := h1 a
      have := h2 this.1
      omega
    by_cases b : 0 ≤ lv M W c
    · exact absurd (h2 b).1 a
    have n1 := hL.neg (ixc W c) (by have := hL.len; unfold ixc; omega) (by unfold lv at a; omega)
    have n2 := hM.neg (ixc W c) (by have := hM.len; unfold ixc; omega) (by unfold lv at b; omega)
    unfold lv; rw [n1, n2]
  refine List.ext_getElem hlen fun i h1 h2 => ?_
  have hi : ((i : Nat) : Int) < W * H := by have := hL.len; omega
  have hdm := Int.emod_add_mul_ediv (i : Int) W
  have hm0 := Int.emod_nonneg (i : Int) (show W ≠ 0 by omega)
  have hm1 := Int.emod_lt_of_pos (i : Int) (show 0 < W by omega)
  have hd0 : 0 ≤ (i : Int) / W := Int.ediv_nonneg (by omega) (by omega)
  have hd1 : (i : Int) / W < H := Int.ediv_lt_of_lt_mul (by omega) (by rw [Int.mul_comm]; exact hi)
  have hc : inB W H ((i : Int) % W) ((i : Int) / W) = true := inB_iff.2 ⟨hm0, hm1, hd0, hd1⟩
  have e : ixc W ((i : Int) % W, (i : Int) / W) = i := by
    unfold ixc
    simp only
    rw [Int.mul_comm]
    omega
  have := key ((i : Int) % W, (i : Int) / W) hc
  unfold lv at this
  rw [e] at this
  simpa [gi, List.getD_eq_getElem?_getD, h1, h2] using this
/-- The least costs to a cell, as a list. -/
noncomputable def costL (W H : Int) (xs : List Int) (goal : Pt) : List Int := by
  classical exact if h : ∃ L, CostP W H xs goal L then Classical.choose h else []
theorem costL_eq {W H : Int} {xs : List Int} {goal : Pt} {L : List Int} (h0 : 1 ≤ W) (hg : inB W H goal.1 goal.2 = true) (hL : CostP W H xs goal L) : costL W H xs goal = L := by
  have hx : ∃ L, CostP W H xs goal L := ⟨L, hL⟩
  unfold costL
  rw [dif_pos hx]
  exact cost_uni h0 hg (Classical.choose_spec hx) hL
theorem HO_take {n : Nat} {l : List T3} : HO n (l.take n) ↔ HO n l := by
  constructor
  · intro h j h1 h2
    have := h j h1 h2
    rw [g33_take (by omega), g33_take h2] at this; exact this
  intro h j h1 h2
  rw [g33_take (by omega), g33_take h2]; exact h j h1 h2
theorem pop_ok2 {n : Nat} {R : List T3} (h0 : 0 < n) (hn : n ≤ R.length) (h : HO n R) : HO (n - 1) (popR n R) ∧ (R.take n).Perm (g3 R 0 :: (popR n R).take (n - 1)) ∧ g3 R 0 ∈ R.take n ∧ ∀ x ∈ R.take n, (g3 R 0).2.2 ≤ x.2.2 := by
  cases n with
  | zero => omega
  | succ n =>
    have k := pop_ok (n := n) (R := R) (by omega) h
    refine ⟨HO_take.1 k.1, k.2, k.2.mem_iff.2 (List.mem_cons_self ..), fun x hx => ?_⟩
    obtain ⟨j, hj, rfl⟩ := List.mem_iff_getElem.1 hx
    rw [List.length_take] at hj
    have := HO_min h j (by omega)
    rw [List.getElem_take, ← g3_eq' (l := R) (j := j) (by omega)]
    exact this
theorem push_ok2 {n : Nat} {R : List T3} {v : T3} (hn : n ≤ R.length) (h : HO n R) : HO (n + 1) (pushH (R.take n) v) ∧ ((pushH (R.take n) v).take (n + 1)).Perm (v :: R.take n) ∧ (pushH (R.take n) v).length = n + 1 := by
  have hl : (R.take n).length = n := by rw [List.length_take]; omega
  have k := push_ok (l := R.take n) (v := v) (by rw [hl]; exact HO_take.2 h)
  rw [hl] at k
  have e := pushH_len (l := R.take n) (v := v)
  rw [hl] at e
  exact ⟨k.1, by rw [List.take_of_length_le (by omega)]; exact k.2, e⟩
abbrev T4 := Int × Int × Int × Int
def r4 (l : List T4) : List AV := l.flatMap fun p => [.int .i64 p.1, .int .i64 p.2.1, .int .i64 p.2.2.1, .int .i64 p.2.2.2]
def g4 (l : List T4) (j : Nat) : T4 := l.getD j (0, 0, 0, 0)
def g41 (l : List T4) (j : Nat) : Int := (g4 l j).1
def g42 (l : List T4) (j : Nat) : Int := (g4 l j).2.1
def g43 (l : List T4) (j : Nat) : Int := (g4 l j).2.2.1
def g44 (l : List T4) (j : Nat) : Int := (g4 l j).2.2.2
theorem r4_nil : r4 [] = [] := rfl
theorem r4_cons {p : T4} {l : List T4} : r4 (p :: l) = .int .i64 p.1 :: .int .i64 p.2.1 :: .int .i64 p.2.2.1 :: .int .i64 p.2.2.2 :: r4 l := rfl
theorem r4_append {l m : List T4} : r4 (l ++ m) = r4 l ++ r4 m := by simp [r4]
theorem r4_len : ∀ {l : List T4}, (r4 l).length = l.length * 4
  | [] => rfl
  | p :: l => by rw [r4_cons]; simp only [List.length_cons, r4_len (l := l)]; omega
theorem mvs_r4 {σ : Nat → Nat} : ∀ {l : List T4}, AV.mvs σ (r4 l) = r4 l
  | [] => rfl
  | p :: l => by
    rw [r4_cons]
    show AV.mv σ _ :: AV.mv σ _ :: AV.mv σ _ :: AV.mv σ _ :: AV.mvs σ (r4 l) = _
    rw [mvs_r4 (l := l)]; rfl
theorem r4_at : ∀ {l : List T4} {j : Nat} (_h : j < l.length), (r4 l).drop (j * 4) = .int .i64 (g41 l j) :: .int .i64 (g42 l j) :: .int .i64 (g43 l j) :: .int .i64 (g44 l j) :: (r4 l).drop ((j + 1) * 4)
  | [], j, h => by simp at h
  | p :: l, 0, _ => by rw [r4_cons]; simp [g41, g42, g43, g44, g4]
  | p :: l, j + 1, h => by
    rw [r4_cons, show (j + 1) * 4 = j * 4 + 1 + 1 + 1 + 1 by omega, List.drop_succ_cons, List.drop_succ_cons, List.drop_succ_cons, List.drop_succ_cons, r4_at (l := l) (by simpa using h), show (j + 1 + 1) * 4 = (j + 1) * 4 + 1 + 1 + 1 + 1 by omega, List.drop_succ_cons, List.drop_succ_cons, List.drop_succ_cons, List.drop_succ_cons]
    rfl
theorem r4_at2 {l : List T4} {j : Nat} (h : j < l.length) : (r4 l)[j * 4 + 2]? = some (.int .i64 (g43 l j)) := by
  have := congrArg (fun x => x[2]?) (r4_at h)
  simpa using this
theorem r4_z2 {l : List T4} (h : 0 < l.length) : (r4 l)[2]? = some (.int .i64 (g43 l 0)) := by
  have := r4_at2 h
  rwa [Nat.zero_mul, Nat.zero_add] at this
theorem r4_load {l : List T4} {j : Nat} (h : j < l.length) : ((r4 l).drop (j * 4)).take 4 = [.int .i64 (g41 l j), .int .i64 (g42 l j), .int .i64 (g43 l j), .int .i64 (g44 l j)] := by rw [r4_at h]; rfl
theorem r4_load0 {l : List T4} (h : 0 < l.length) : (r4 l).take 4 = [.int .i64 (g41 l 0), .int .i64 (g42 l 0), .int .i64 (g43 l 0), .int .i64 (g44 l 0)] := by
  have := r4_load h
  rwa [Nat.zero_mul, List.drop_zero] at this
theorem r4_one {l : List T4} : (r4 l).all AV.one = true := by
  induction l with
  | nil => rfl
  | cons p l ih => rw [r4_cons]; simp [AV.one, ih]
section
variable {P : Program} {H : AHeap} {n : Nat}
end
def enc4 (l : List T4) : List Value := l.flatMap fun p => [.int .i64 p.1, .int .i64 p.2.1, .int .i64 p.2.2.1, .int .i64 p.2.2.2]
def encG (x : T4) : List Value := [.int .i64 x.1, .int .i64 x.2.1, .int .i64 x.2.2.1, .int .i64 x.2.2.2]
theorem enc4_len : ∀ l : List T4, (enc4 l).length = l.length * 4
  | [] => rfl
  | p :: l => by
    have := enc4_len l
    simp only [enc4, List.flatMap_cons, List.length_append, List.length_cons, List.length_nil] at this ⊢; omega
theorem enc4_at : ∀ (l : List T4) (j : Nat) (h : j < l.length), (enc4 l)[j * 4]? = some (.int .i64 l[j].1) ∧ (enc4 l)[j * 4 + 1]? = some (.int .i64 l[j].2.1) ∧ (enc4 l)[j * 4 + 2]? = some (.int .i64 l[j].2.2.1) ∧ (enc4 l)[j * 4 + 3]? = some (.int .i64 l[j].2.2.2)
  | p :: l, 0, _ => ⟨rfl, rfl, rfl, rfl⟩
  | p :: l, j + 1, h => by
    have ih := enc4_at l j (by simpa using h)
    have e : ∀ k, (enc4 (p :: l))[(j + 1) * 4 + k]? = (enc4 l)[j * 4 + k]? := fun k => by
      show (.int .i64 p.1 :: .int .i64 p.2.1 :: .int .i64 p.2.2.1 :: .int .i64 p.2.2.2 :: enc4 l)[(j + 1) * 4 + k]? = _
      rw [show (j + 1) * 4 + k = j * 4 + k + 1 + 1 + 1 + 1 by omega]
      rfl
    have e0 := e 0
    rw [Nat.add_zero, Nat.add_zero] at e0
    rw [e0, e 1, e 2, e 3]
    exact ih
theorem rels_r4 {E : Env} : ∀ (l : List T4), RelL E (r4 l) (enc4 l)
  | [] => .nil E
  | p :: l => .cons (.int _ _) (.cons (.int _ _) (.cons (.int _ _) (.cons (.int _ _) (rels_r4 l))))
theorem r4_onef : ∀ (l : List T4), (r4 l).all AV.one = true
  | [] => rfl
  | p :: l => by rw [r4_cons]; simp [AV.one, r4_onef l]
section
variable {E : Env} {H : AHeap} {w : World}
theorem Emb.putG (h : Emb E H w) {b q : Nat} {zs ys : List T4} (hg : H[b]? = some (.cells true 4 (r4 zs))) (hl : ys.length = zs.length) (os : Array Obj) :
    Emb E (H.set b (.cells true 4 (r4 ys))) (Go.Sort.grow ((w.drewN q).setCells (E.loc b).blk ((E.loc b).off) (enc4 ys)) os) := by
  have h0 : Emb E H (w.drewN q) := h.up (below_drewN (Below.refl _ _) q)
  have hw : awrite H b 0 (r4 ys) = some (H.set b (.cells true 4 (r4 ys))) := by
    unfold awrite
    rw [hg]
    simp only
    rw [if_pos ⟨by simp [r4_len, hl], r4_onef ys⟩, splice_all (by simp [r4_len, hl])]
  exact ((h0.write (rels_r4 ys) hw).2.2.2).up (below_grow _ os)
end
theorem flat_listG (zs : List T4) : flatK encG 4 zs.toArray = (enc4 zs).toArray := by
  refine ext_get! (by simp [enc4_len]) fun t ht => ?_
  have ht' : t < zs.length * 4 := by simpa using ht
  rw [get_flatK _ _ _ _ (by simpa using ht')]
  have hj : t / 4 < zs.length := by omega
  obtain ⟨e1, e2, e3, e4⟩ := enc4_at zs (t / 4) hj
  have hx : zs.toArray[t / 4]! = zs[t / 4] := by simp [hj]
  rw [hx]
  have hr : (enc4 zs).toArray[t]! = ((enc4 zs)[t]?).getD default := by simp [List.getElem!_eq_getElem?_getD]
  rw [hr]
  have hm : t % 4 < 4 := Nat.mod_lt _ (by omega)
  rcases (by omega : t % 4 = 0 ∨ t % 4 = 1 ∨ t % 4 = 2 ∨ t % 4 = 3) with h | h | h | h
  · have : t = t / 4 * 4 := by omega
    rw [← this] at e1
    rw [h, e1]
    simp [encG]
  · have : t = t / 4 * 4 + 1 := by omega
    rw [← this] at e2
    rw [h, e2]
    simp [encG]
  · have : t = t / 4 * 4 + 2 := by omega
    rw [← this] at e3
    rw [h, e3]
    simp [encG]
  have : t = t / 4 * 4 + 3 := by omega
  rw [← this] at e4
  rw [h, e4]
  simp [encG]
set_option maxRecDepth 100000 in
theorem sortg_f (cf : T4 → T4 → Int) (hO : SWO (ltOf cf)) (g : FuncId) (eg : ∀ args w, (callFunc g args).run Try.prog w = .ok (.enter g args) w)
    (hcmp : ∀ (x y : T4) (W : World), Calls Try.prog g #[.agg #[.int .i64 x.1, .int .i64 x.2.1, .int .i64 x.2.2.1, .int .i64 x.2.2.2], .agg #[.int .i64 y.1, .int .i64 y.2.1, .int .i64 y.2.2.1, .int .i64 y.2.2.2]] W fun e w' => e = .returned (.int .i64 (cf x y)) ∧ ∃ q os', w' = grow (W.drewN q) os')
    {H : AHeap} {b n : Nat} {cap : Option Nat} {zs : List T4} (hg : H[b]? = some (.cells true 4 (r4 zs))) (hn : n = zs.length) (h0 : 0 < n) (h1 : n ≤ 1000000) :
    ACalls Try.prog 28 [.sl (some (b, 0)) n cap, .fn g []] H
      (fun v H' => v = .tup [] ∧ ∃ ys : List T4, ys.Perm zs ∧ ys.Pairwise (fun x y => ltOf cf y x = false) ∧ H' = H.set b (.cells true 4 (r4 ys))) := fun E w vs hE hv => by
  obtain ⟨v1, l1, rfl, k1, h1'⟩ := rels_cons hv
  obtain ⟨v2, l2, rfl, k2, h2'⟩ := rels_cons h1'
  obtain rfl := rels_nil h2'
  have hf : v2 = .func (.func g) #[] #[] := by
    cases k2 with
    | fn _ _ cs hl _ =>
      have : cs = #[] := by
        have : cs.size = 0 := hl.symm
        exact Array.eq_empty_of_size_eq_zero this
      rw [this]
  subst hf
  cases k1 with
  | nils _ _ _ _ => exact absurd h0 (Nat.lt_irrefl 0)
  | sl _ _ _ _ c a hb h2 h3 h4 h5 h6 =>
  have hc : c ≠ 0 := by omega
  obtain rfl := h5.resolve_left hc
  obtain ⟨m1, m2, -, -⟩ := hE.blk b _ hg
  obtain ⟨o1, o2, o3, o4, o5⟩ := m2 rfl
  have hpl : (r4 zs).length = zs.length * 4 := by rw [r4_len]
  have hH : HoldsK encG 4 w (E.loc b).blk (E.loc b).off zs.toArray := by
    show Holds id w _ _ (flatK encG 4 zs.toArray)
    rw [flat_listG]
    intro j hj
    have hj' : j < zs.length * 4 := by simpa [enc4_len] using hj
    refine ⟨?_, (o5 j (by omega)).2⟩
    have hx : (r4 zs)[j]? = some (r4 zs)[j] := List.getElem?_eq_getElem (by omega)
    obtain ⟨-, v, hv, hr⟩ := m1 j _ hx
    rw [hv]
    obtain ⟨u, hu, hru⟩ := (rels_r4 (E := E) zs).get hx
    have : ∀ (k : Nat) (l : List T4) (y : AV) (v u : Value), (r4 l)[k]? = some y → Rel E y v → (enc4 l)[k]? = some u → v = u := by
      intro k l
      induction l generalizing k with
      | nil => intro y v u h; simp [r4] at h
      | cons p l ih =>
        intro y v u h1 h2 h3
        match k with
        | 0 => simp [r4_cons, enc4] at h1 h3; subst h1 h3; exact rel_int h2
        | 1 => simp [r4_cons, enc4] at h1 h3; subst h1 h3; exact rel_int h2
        | 2 => simp [r4_cons, enc4] at h1 h3; subst h1 h3; exact rel_int h2
        | 3 => simp [r4_cons, enc4] at h1 h3; subst h1 h3; exact rel_int h2
        | k + 4 =>
          refine ih k y v u (by simpa [r4_cons] using h1) h2 ?_
          simpa [enc4] using h3
    have e := this j _ _ v u hx hr hu
    subst e
    simp [List.getElem!_eq_getElem?_getD, hu]
  have hcon := AnyQ.slices_SortFunc Try.sort28 4 Try.isAgg45 Try.sizeOf45 encG (fun _ => rfl) (fun x v hv => by simp [encG] at hv; rcases hv with rfl | rfl | rfl | rfl <;> rfl) cf hO g #[] (E.loc b).blk (E.loc b).off c zs.toArray w eg
    (fun _ _ _ _ x y => by simpa [encG] using hcmp x y _) hH o2 (by simp; omega)
  change Calls Try.prog 28 _ _ _ at hcon
  have hsz : zs.toArray.size = n := by simp [hn]
  rw [hsz] at hcon
  refine hcon.mono fun e w' ⟨he, d', q, os, hp, hs, hw⟩ => ?_
  subst hw
  obtain ⟨p1, -, p3⟩ := hp
  have hperm : d'.toList.Perm zs := by
    have a1 : d'.extract 0 n = d' := by rw [← hsz, ← p1]; simp
    have a2 : zs.toArray.extract 0 n = zs.toArray := by rw [← hsz]; simp
    rw [a1, a2] at p3
    simpa using p3
  have hl : d'.toList.length = zs.length := by simp [hperm.length_eq]
  refine ⟨E, _, _, .tup [], he, ⟨rfl, d'.toList, hperm, ?_, rfl⟩, .refl E, .tup [] #[] rfl (fun i x v h => by simp at h), ?_⟩
  · rw [List.pairwise_iff_getElem]
    intro i j hi hj hij
    have := hs i j (Nat.zero_le _) hij (by have := hperm.length_eq; simp at hj this; omega)
    simp at hi hj
    simpa [hi, hj] using this
  have hd : d' = d'.toList.toArray := by simp
  have e1 : sortWorldK encG 4 w (E.loc b).blk (E.loc b).off q d' os = grow ((w.drewN q).setCells (E.loc b).blk (E.loc b).off (enc4 d'.toList)) os := by
    unfold sortWorldK
    congr 1
    show putRow id (Sort.ahead w q) _ _ (flatK encG 4 d') = _
    rw [hd, flat_listG]
    have := Lib.putRow_eq_setCells id w (E.loc b).blk (E.loc b).off (flatK encG 4 zs.toArray) (enc4 d'.toList) q hH (by rw [enc4_len, hl]; simp)
    simpa using this
  rw [e1]
  exact hE.putG hg hl os
theorem cell_growN {w : World} {q : Nat} {os : Array Obj} {a : Addr} {v : Value} (h : w.cell? a = some v) : (grow (w.drewN q) os).cell? a = some v := by
  have h2 : (w.drewN q).cell? a = some v := h
  have hk : a.block < (w.drewN q).heap.size := by
    refine Classical.byContradiction fun hn => ?_
    unfold World.cell? at h2
    rw [Array.getElem?_eq_none (by omega)] at h2
    cases h2
  unfold World.cell? at h2 ⊢
  rw [heap_grow_old _ _ hk]
  exact h2
/-- By cost, then by (Y, X). -/
def cfG (a b : T4) : Int := if cmpI a.2.2.1 b.2.2.1 = 0 then cfC (a.1, a.2.1) (b.1, b.2.1) else cmpI a.2.2.1 b.2.2.1
set_option maxHeartbeats 20000000 in
theorem goalcmp_h (x y : T4) (W : World) : Calls Try.prog 29 #[.agg #[.int .i64 x.1, .int .i64 x.2.1, .int .i64 x.2.2.1, .int .i64 x.2.2.2], .agg #[.int .i64 y.1, .int .i64 y.2.1, .int .i64 y.2.2.1, .int .i64 y.2.2.2]] W fun e w' => e = .returned (.int .i64 (cfG x y)) ∧ ∃ q os', w' = grow (W.drewN q) os' := by
  have hcon := compare_h
  have hcon1 := before_h (x.1, x.2.1) (y.1, y.2.1)
  have hcon2 : ∀ (w : World) (blk off c : Nat), w.cell? ⟨blk, off, none⟩ = some (.int .i64 (cmpI x.2.2.1 y.2.2.1)) → w.cell? ⟨blk, off + 1, none⟩ = some (.int .i64 (cfC (x.1, x.2.1) (y.1, y.2.1))) →
    Calls Try.prog 30 #[.slice (some ⟨blk, off, none⟩) 2 c] w fun e w' => e = .returned (.int .i64 (cfG x y)) ∧ w' = w := by
    intro w blk off c h0 h1
    have k := or_h (cmpI x.2.2.1 y.2.2.1) (cfC (x.1, x.2.1) (y.1, y.2.1)) w blk off c h0 h1
    unfold cfG
    exact k
  go_enter Try.func29, Try.ntmps29
  go_wp2_with (first | (go_at_call 31; refine (hcon _ _ _).mono ?_; rintro e w' ⟨rfl, rfl⟩) | fail)
  go_region_held3 (fun w' => w'.cell? ⟨W.heap.size, 0, none⟩ = some (.int .i64 x.1) ∧ w'.cell? ⟨W.heap.size, 1, none⟩ = some (.int .i64 x.2.1) ∧ w'.cell? ⟨W.heap.size, 2, none⟩ = some (.int .i64 x.2.2.1) ∧ w'.cell? ⟨W.heap.size + 1, 0, none⟩ = some (.int .i64 y.1) ∧ w'.cell? ⟨W.heap.size + 1, 1, none⟩ = some (.int .i64 y.2.1) ∧ w'.cell? ⟨W.heap.size + 1, 2, none⟩ = some (.int .i64 y.2.2.1)) (simp [*, World.cell?_alloc_some, World.cell?_setCell_far, cell_growN])
    (first
      | (go_at_call 31; refine (hcon _ _ _).mono ?_; rintro e w' ⟨rfl, rfl⟩)
      | (go_at_call 24; refine (hcon1 _).mono ?_; rintro e w' ⟨rfl, q, os', rfl⟩)
      | (go_at_call 30; refine (hcon2 _ _ _ _ ?h1 ?h2).mono ?_; case h1 => first | exact (cell_last _ _ _ _ _ (by simp)).trans rfl | exact (cell_lastd _ _ _ _ _ (by simp)).trans rfl
         case h2 => first | exact (cell_last _ _ _ _ _ (by simp)).trans rfl | exact (cell_lastd _ _ _ _ _ (by simp)).trans rfl
         rintro e w' ⟨rfl, rfl⟩))
  go_wp2
  go_ret
  have hd : ∀ (w : World) (os : Array Obj) (n : Nat), (grow w os).drewN n = grow (w.drewN n) os := fun _ _ _ => rfl
  exact ⟨rfl, 1 + q, _, by rw [alloc_eq_grow, alloc_eq_grow, alloc_eq_grow, grow_grow, hd, hd, grow_grow, grow_grow]⟩
def befG (a b : T4) : Prop := a.2.2.1 < b.2.2.1 ∨ (a.2.2.1 = b.2.2.1 ∧ befP (a.1, a.2.1) (b.1, b.2.1))
instance (a b : T4) : Decidable (befG a b) := by unfold befG; infer_instance
theorem befG_irr {a : T4} : ¬ befG a a := by unfold befG befP; omega
theorem befG_trans {a b c : T4} (h : befG a b) (k : befG b c) : befG a c := by unfold befG befP at *; simp only at *; omega
theorem ltG_iff (x y : T4) : ltOf cfG x y = decide (befG x y) := by
  rw [Bool.eq_iff_iff]
  unfold ltOf
  rw [decide_eq_true_eq, decide_eq_true_eq]
  unfold cfG cfC cmpI befG befP
  simp only
  repeat' split
  all_goals omega
theorem swoG : SWO (ltOf cfG) where
  irrefl x := by rw [ltG_iff, decide_eq_false_iff_not]; exact befG_irr
  trans x y z h1 h2 := by
    rw [ltG_iff, decide_eq_true_eq] at *
    exact befG_trans h1 h2
  ntrans x y z h1 h2 := by
    rw [ltG_iff, decide_eq_false_iff_not] at *
    unfold befG befP at *; simp only at *; omega
set_option maxRecDepth 100000 in
/-- Goals in order: any that are a permutation and in order. -/
theorem sortg_c (H : AHeap) (b : Nat) (cap : Option Nat) (l : List T4) (hb : H[b]? = some (.cells true 4 (r4 l))) (h0 : 0 < l.length) (h1 : l.length ≤ 1000000) :
    ACalls Try.prog 28 [.sl (some (b, 0)) l.length cap, .fn 29 []] H (fun v H' => v = .tup [] ∧ ∃ ys : List T4, ys.Perm l ∧ ys.Pairwise (fun x y => ¬ befG y x) ∧ H' = H.set b (.cells true 4 (r4 ys))) := by
  have eg : ∀ args w, (callFunc 29 args).run Try.prog w = .ok (.enter 29 args) w := enters_of Try.func29 (by kernel_rfl) rfl
  refine (sortg_f cfG swoG 29 eg (fun x y W => goalcmp_h x y W) (zs := l) hb rfl h0 h1).mono ?_
  rintro v H' ⟨rfl, ys, hp, hs, rfl⟩
  refine ⟨rfl, ys, hp, hs.imp fun {x y} h => ?_, rfl⟩
  rw [ltG_iff, decide_eq_false_iff_not] at h
  exact h
/-- The cheapest of the first m cells of a cluster, and its cost, or -1. -/
def bstS (L : List Int) (W : Int) (c : List Pt) : Nat → Int × Int × Int
  | 0 => (0, 0, -1)
  | m + 1 => if 0 ≤ lv L W (gp c m) ∧ ((bstS L W c m).2.2 < 0 ∨ lv L W (gp c m) < (bstS L W c m).2.2) then (g1 c m, g2 c m, lv L W (gp c m)) else bstS L W c m
def bst (L : List Int) (W : Int) (c : List Pt) : T4 := ((bstS L W c c.length).1, (bstS L W c c.length).2.1, (bstS L W c c.length).2.2, (c.length : Int))
/-- The goals of the first clusters, in their order. -/
def golS (L : List Int) (W : Int) (CS : List (List Pt)) : Nat → List T4
  | 0 => []
  | i + 1 => if 0 ≤ (bst L W (gc CS i)).2.2.1 then golS L W CS i ++ [bst L W (gc CS i)] else golS L W CS i
/-- A goal put into a row in order. -/
def insG (b : T4) : List T4 → List T4
  | [] => [b]
  | a :: l => if befG a b then a :: insG b l else b :: a :: l
def golI (L : List Int) (W : Int) (CS : List (List Pt)) : Nat → List T4
  | 0 => []
  | i + 1 => if 0 ≤ (bst L W (gc CS i)).2.2.1 then insG (bst L W (gc CS i)) (golI L W CS i) else golI L W CS i
theorem bstS_mem {L : List Int} {W : Int} {c : List Pt} : ∀ {m : Nat}, m ≤ c.length → 0 ≤ (bstS L W c m).2.2 → ∃ k, k < m ∧ gp c k = ((bstS L W c m).1, (bstS L W c m).2.1) ∧ lv L W (gp c k) = (bstS L W c m).2.2
  | 0, _, h => by simp [bstS] at h
  | m + 1, hm, h => by
    unfold bstS at h ⊢
    split at h
    · rename_i q
      rw [if_pos q]
      exact ⟨m, by omega, rfl, rfl⟩
    rename_i q
    rw [if_neg q]
    obtain ⟨k, h1, h2⟩ := bstS_mem (m := m) (by omega) h
    exact ⟨k, by omega, h2⟩
theorem golS_len {L : List Int} {W : Int} {CS : List (List Pt)} : ∀ i : Nat, (golS L W CS i).length ≤ i
  | 0 => Nat.le_refl _
  | i + 1 => by
    have := golS_len (L := L) (W := W) (CS := CS) i
    unfold golS
    split
    · rw [List.length_append, List.length_singleton]; omega
    omega
theorem insG_perm {b : T4} : ∀ l : List T4, (insG b l).Perm (b :: l)
  | [] => List.Perm.refl _
  | a :: l => by
    unfold insG
    split
    · exact ((insG_perm l).cons a).trans (List.Perm.swap b a l)
    exact List.Perm.refl _
theorem golI_perm {L : List Int} {W : Int} {CS : List (List Pt)} : ∀ i : Nat, (golI L W CS i).Perm (golS L W CS i)
  | 0 => List.Perm.refl _
  | i + 1 => by
    unfold golI golS
    split
    · exact (insG_perm _).trans (((golI_perm i).cons _).trans (List.perm_append_singleton _ _).symm)
    exact golI_perm i
/-- Of goals at different cells one is before the other. -/
theorem befG_tri {a b : T4} (h : (a.1, a.2.1) ≠ (b.1, b.2.1)) : befG a b ∨ befG b a := by
  unfold befG
  rcases Int.lt_trichotomy a.2.2.1 b.2.2.1 with q | q | q
  · exact .inl (.inl q)
  · rcases befP_tri (a.1, a.2.1) (b.1, b.2.1) with r | r | r
    · exact .inl (.inr ⟨q, r⟩)
    · exact absurd r h
    exact .inr (.inr ⟨q.symm, r⟩)
  exact .inr (.inl q)
theorem insG_sorted {b : T4} : ∀ {l : List T4}, l.Pairwise befG → (∀ a ∈ l, (a.1, a.2.1) ≠ (b.1, b.2.1)) → (insG b l).Pairwise befG
  | [], _, _ => List.pairwise_singleton _ _
  | a :: l, h, hn => by
    rw [List.pairwise_cons] at h
    unfold insG
    split
    · rename_i q
      rw [List.pairwise_cons]
      refine ⟨fun x hx => ?_, insG_sorted h.2 fun y hy => hn y (List.mem_cons_of_mem _ hy)⟩
      rcases List.mem_cons.1 ((insG_perm l).mem_iff.1 hx) with rfl | r
      · exact q
      exact h.1 x r
    rename_i q
    have hba : befG b a := (befG_tri (hn a (List.mem_cons_self ..))).resolve_left q
    rw [List.pairwise_cons]
    refine ⟨fun x hx => ?_, List.pairwise_cons.2 h⟩
    rcases List.mem_cons.1 hx with rfl | r
    · exact hba
    exact befG_trans hba (h.1 x r)
section
variable {A : List Pt} {CS : List (List Pt)} {L : List Int} {W : Int}
theorem bst_in {i : Nat} (h : 0 ≤ (bst L W (gc CS i)).2.2.1) : ∃ k, k < (gc CS i).length ∧ gp (gc CS i) k = ((bst L W (gc CS i)).1, (bst L W (gc CS i)).2.1) := by
  obtain ⟨k, h1, h2, -⟩ := bstS_mem (Nat.le_refl _) h
  exact ⟨k, h1, h2⟩
theorem golS_cell (hC : CluP A CS) : ∀ {i : Nat}, i ≤ CS.length → ∀ a ∈ golS L W CS i, ∃ j k, j < i ∧ k < (gc CS j).length ∧ gp (gc CS j) k = (a.1, a.2.1)
  | 0, _, a, h => by cases h
  | i + 1, hi, a, h => by
    unfold golS at h
    split at h
    · rename_i q
      rcases List.mem_append.1 h with r | r
      · obtain ⟨j, k, h1, h2⟩ := golS_cell hC (by omega) a r
        exact ⟨j, k, by omega, h2⟩
      rw [List.mem_singleton.1 r]
      obtain ⟨k, h1, h2⟩ := bst_in q
      exact ⟨i, k, by omega, h1, h2⟩
    obtain ⟨j, k, h1, h2⟩ := golS_cell hC (by omega) a h
    exact ⟨j, k, by omega, h2⟩
theorem golI_sorted (hC : CluP A CS) : ∀ {i : Nat}, i ≤ CS.length → (golI L W CS i).Pairwise befG
  | 0, _ => .nil
  | i + 1, hi => by
    unfold golI
    split
    · rename_i q
      refine insG_sorted (golI_sorted hC (by omega)) fun a ha e => ?_
      obtain ⟨j, k, h1, h2, h3⟩ := golS_cell hC (by omega) a ((golI_perm i).mem_iff.1 ha)
      obtain ⟨k', h4, h5⟩ := bst_in q
      have := hC.uni j k i k' (by omega) h2 (by omega) h4 (by rw [h3, h5]; exact e)
      omega
    exact golI_sorted hC (by omega)
end
/-- A permutation in order is the strictly ordered one. -/
theorem goal_uni : ∀ {T ys : List T4}, T.Pairwise befG → ys.Perm T → ys.Pairwise (fun x y => ¬ befG y x) → ys = T
  | [], ys, _, hp, _ => List.Perm.eq_nil hp
  | t :: T, [], _, hp, _ => by have := hp.length_eq; simp at this
  | t :: T, y :: ys, hT, hp, hs => by
    rw [List.pairwise_cons] at hT hs
    have e : y = t := by
      rcases List.mem_cons.1 (hp.mem_iff.1 (List.mem_cons_self ..)) with q | q
      · exact q
      rcases List.mem_cons.1 (hp.mem_iff.2 (List.mem_cons_self ..)) with r | r
      · exact r.symm
      exact absurd (hT.1 y q) (hs.1 t r)
    subst e
    rw [goal_uni hT.2 (List.perm_cons y |>.1 hp) hs.2]
theorem rb_len {H K : AHeap} {b : Nat} {x : ABlk} (h : K = H.set b x) : K.length = H.length := by rw [h, List.length_set]
theorem rb_bel {H K : AHeap} {b : Nat} {x : ABlk} (h : K = H.set b x) (hb : HBel H.length H) (hx : x.bel H.length = true) : HBel K.length K := by
  rw [rb_len h, h]; exact hb.put b hx
theorem rb_new {H K : AHeap} {b : Nat} {x : ABlk} (h : K = H.set b x) (hb : b < H.length) : K[b]? = some x := by rw [h, List.getElem?_set_self hb]
theorem rb_old {H K : AHeap} {a b : Nat} {x y : ABlk} (h : K = H.set b x) (hn : b ≠ a) (ha : H[a]? = some y) : K[a]? = some y := by rw [h, List.getElem?_set_ne hn]; exact ha
theorem rb_self {H : AHeap} {b : Nat} {x : ABlk} (h : H[b]? = some x) : H = H.set b x := by
  refine List.ext_getElem? fun i => ?_
  rw [List.getElem?_set]
  split
  · rename_i e; subst e; rw [if_pos (getElem?_lt h)]; exact h
  rfl
theorem rb_le {H K L : AHeap} {b : Nat} {x : ABlk} (h : K = H.set b x) (hl : L.length ≤ H.length) : L.length ≤ K.length := by rw [rb_len h]; exact hl
set_option maxHeartbeats 4000000
set_option maxRecDepth 100000
theorem bits0_c (H : AHeap) : ACalls Try.prog 44 [.int .u64 0] H (fun v H' => v = iV 0 ∧ H' = H) := by
  have h := ext_ok 44 [.int .u64 0] H (iV 0) none (by kernel_rfl)
  exact h.2.2
theorem insg0_c (H : AHeap) (s : AV)   (g : FuncId) (hs : Sl H 4 s 0 []) : ACalls Try.prog 64 [s, iV 0, iV 0, .fn g []] H (fun v H' => v = .tup [] ∧ H' = H) := by
  obtain ⟨bs, os, cs, rfl, hbs⟩ := hs
  have hbls := getElem?_lt hbs
  have hb0s := fun l => get_app (l := l) hbs
  refine AcN true Try.func64 ?_; intro hbel Q hQ
  have g'1 := (jn @hbs @hb0s)
  refine runTf g'1 ?_
  refine glp (fun k F Hx => ∃ z : Unit, k = 0 ∧ F = [(0, .sl (some (bs, 0)) 0 cs), (1, iV 0), (2, iV 0), (3, .fn g []), (8, iV 1)] ∧ H = Hx) (0) ?_ ?_
  · refine ⟨_, _, _, ⟨(), by omega, rfl, rfl⟩, Abs.by0 hbel ?_⟩
    exact absW
  rintro k0 F Hx ⟨z, hm0, rfl, rfl⟩ J0 hJ0
  refine runTf g'1 ?_
  exact hQ _ _ (end_plain0 (by first | exact .inl rfl | exact .inr rfl) hbel (x := .tup []) (resT Try.results64) rfl ⟨rfl, rfl⟩)
theorem pdqg0_c (H : AHeap) (s : AV)   (m : Int) (g : FuncId) (hs : Sl H 4 s 0 []) : ACalls Try.prog 45 [s, iV 0, iV 0, iV m, .fn g []] H (fun v H' => v = .tup [] ∧ H' = H) := by
  obtain ⟨bs, os, cs, rfl, hbs⟩ := hs
  have hbls := getElem?_lt hbs
  have hb0s := fun l => get_app (l := l) hbs
  refine AcT true Try.func45 ?_; intro hbel Q hQ
  have g'2 := (jn @hbs @hb0s)
  refine runTf g'2 ?_
  refine glp (fun k F Hx => ∃ z : Unit, k = 0 ∧ F = [(0, .sl (some (bs, 0)) 0 cs), (1, iV 0), (2, iV 0), (3, iV m), (4, .fn g []), (10, .bool true), (11, .bool true)] ∧ H = Hx) (0) ?_ ?_
  · refine ⟨_, _, _, ⟨(), by omega, rfl, rfl⟩, Abs.by0 hbel ?_⟩
    exact absW
  rintro k0 F Hx ⟨z, hm0, rfl, rfl⟩ J0 hJ0
  refine runTf g'2 ?_
  refine cvr g'2 (insg0_c _ _ g ⟨_, _, _, rfl, by first | exact hb0s _ | exact hbs⟩) ?_
  exact eQ hQ hbel (.tup []) Try.results45 ⟨rfl, rfl⟩
theorem srtg0_c (H : AHeap) (s : AV) (g : FuncId) (hs : Sl H 4 s 0 []) : ACalls Try.prog 28 [s, .fn g []] H (fun v H' => v = .tup [] ∧ H' = H) := by
  obtain ⟨bs, os, cs, rfl, hbs⟩ := hs
  have hbls := getElem?_lt hbs
  have hb0s := fun l => get_app (l := l) hbs
  refine AcN true Try.func28 ?_; intro hbel Q hQ
  have g'3 := (jn @hbs @hb0s)
  refine runTf g'3 ?_
  refine cvr g'3 (bits0_c _) ?_
  refine cvr g'3 (pdqg0_c _ _ 0 g ⟨_, _, _, rfl, by first | exact hb0s _ | exact hbs⟩) ?_
  exact hQ _ _ (end_plain0 (by first | exact .inl rfl | exact .inr rfl) hbel (x := .tup []) (resT Try.results28) rfl ⟨rfl, rfl⟩)
theorem srtg_k (H : AHeap) (b : Nat) (l T : List T4) (hb : H[b]? = some (.cells (ownG l.length) 4 (r4 l))) (h1 : l.length ≤ 1000000) (hT : T.Pairwise befG) (hP : T.Perm l) :
    ACalls Try.prog 28 [.sl (some (b, 0)) l.length (capG l.length), .fn 29 []] H (fun v H' => v = .tup [] ∧ H' = H.set b (.cells (ownG l.length) 4 (r4 T))) := by
  rcases Nat.eq_zero_or_pos l.length with h0 | h0
  · obtain rfl := List.eq_nil_of_length_eq_zero h0
    obtain rfl := hP.eq_nil
    rw [← rb_self hb]
    exact srtg0_c H _ _ ⟨b, _, _, rfl, hb⟩
  rw [ownG_p h0] at hb ⊢
  refine (sortg_c H b _ l hb h0 h1).mono ?_
  rintro v H' ⟨rfl, ys, hp, hs, rfl⟩
  rw [goal_uni hT (hp.trans hP.symm) hs]
  exact ⟨rfl, rfl⟩
theorem mul1_c (H : AHeap) (n : Nat) (hn : n < 9223372036854775808) : ACalls Try.prog 72 [.int .u64 1, .int .u64 ((n : Nat) : Int)] H (fun v H' => v = .tup [.int .u64 0, .int .u64 ((n : Nat) : Int)] ∧ H' = H) := fun E w vs hE hv => by
  obtain ⟨v1, l1, rfl, k1, hr⟩ := rels_cons hv
  obtain ⟨v2, l2, rfl, k2, hr2⟩ := rels_cons hr
  obtain rfl := rels_nil hr2
  obtain rfl := rel_int k1
  obtain rfl := rel_int k2
  refine (Try.bits_Mul 1 n (by omega) (by omega) w).mono fun e w' ⟨he, hw⟩ => ?_
  subst hw
  have e1 : 1 * n / 18446744073709551616 = 0 := by rw [Nat.one_mul]; exact Nat.div_eq_of_lt (by omega)
  have e2 : 1 * n % 18446744073709551616 = n := by rw [Nat.one_mul]; exact Nat.mod_eq_of_lt (by omega)
  rw [e1, e2] at he
  refine ⟨E, _, H, .tup [.int .u64 0, .int .u64 ((n : Nat) : Int)], he, ⟨rfl, rfl⟩, .refl E, ?_, hE⟩
  refine .tup _ _ rfl fun i x v hx hv => ?_
  match i with
  | 0 => simp at hx hv; subst hx hv; exact .int _ _
  | 1 => simp at hx hv; subst hx hv; exact .int _ _
  | i + 2 => simp at hx
/-- Filled up to k. -/
def repF (n k : Nat) : List Int := List.replicate k (-1) ++ List.replicate (n - k) 0
theorem repF_len {n k : Nat} (h : k ≤ n) : (repF n k).length = n := by unfold repF; rw [List.length_append, List.length_replicate, List.length_replicate]; omega
theorem repF_n {n : Nat} : repF n n = List.replicate n (-1) := by unfold repF; rw [Nat.sub_self]; exact List.append_nil _
theorem splice_gen {xs ys : List AV} {o : Nat} (h : o + ys.length ≤ xs.length) : splice xs o ys = xs.take o ++ ys ++ xs.drop (o + ys.length) := by
  refine List.ext_getElem? fun j => ?_
  rw [splice_get h]
  by_cases h1 : j < o
  · rw [if_neg (by omega), List.append_assoc, List.getElem?_append_left (by rw [List.length_take]; omega), List.getElem?_take, if_pos h1]
  by_cases h2 : j < o + ys.length
  · rw [if_pos (by omega), List.append_assoc, List.getElem?_append_right (by rw [List.length_take]; omega), List.length_take, Nat.min_eq_left (by omega), List.getElem?_append_left (by omega)]
  rw [if_neg (by omega), List.getElem?_append_right (by rw [List.length_append, List.length_take]; omega), List.length_append, List.length_take, Nat.min_eq_left (by omega), List.getElem?_drop]
  congr 1; omega
theorem rep_sp {n j c : Nat} (h : j + c ≤ n) : splice (ints .i64 (repF n j)) j (ints .i64 (List.replicate c (-1))) = ints .i64 (repF n (j + c)) := by
  rw [splice_gen (by rw [ints_len, ints_len, List.length_replicate, repF_len (by omega)]; omega), ints_len, List.length_replicate]
  unfold ints
  rw [← List.map_take, ← List.map_drop, ← List.map_append, ← List.map_append]
  congr 1
  unfold repF
  rw [List.take_left' (by rw [List.length_replicate]), List.replicate_append_replicate, ← List.drop_drop, List.drop_left' (by rw [List.length_replicate]), List.drop_replicate]
  congr 2; omega
theorem rep_tk {n j c : Nat} (h : c ≤ j) : (ints .i64 (repF n j)).take c = ints .i64 (List.replicate c (-1)) := by
  unfold ints repF
  rw [← List.map_take, List.take_append_of_le_length (by rw [List.length_replicate]; omega), List.take_replicate, Nat.min_eq_left h]
theorem rept_c (H : AHeap) (s : AV) (n : Nat) (hs : Sl H 1 s 1 [iV (-1)]) (h0 : 0 < n) (hn : n ≤ 1000000) : ACalls Try.prog 51 [s, iV ((n : Nat) : Int)] H (fun v H' => v = .sl (some (H.length, 0)) n none ∧ H' = H ++ [.cells true 1 (ints .i64 (List.replicate n (-1)))]) := by
  obtain ⟨bs, os, cs, rfl, hbs⟩ := hs
  have hbls := getElem?_lt hbs
  have hb0s := fun l => get_app (l := l) hbs
  have hmin : min 1 n = 1 := Nat.min_eq_left h0
  have hsfw : IntKind.u64.wrap ((n : Nat) : Int) = ((n : Nat) : Int) := IntWalk.u64_in _ ⟨by omega, by omega⟩
  refine AcT true Try.func51 ?_; intro hbel Q hQ
  have g'1 := (jn @hbs (jn @hb0s @hsfw))
  refine rcs g'1 (fun h1 h1d _ => ?_) (fun h1 h1d g'2 => ?_)
  · omega
  refine runTf g'2 ?_
  refine cv (mul1_c _ n (by omega)) ?_
  refine rcs g'2 (fun h2 h2d _ => ?_) (fun h2 h2d _ => ?_)
  · omega
  have hcp0 : splice (ints .i64 (List.replicate n 0)) 0 [iV (-1)] = ints .i64 (repF n 1) := by have := rep_sp (n := n) (j := 0) (c := 1) (by omega); rw [Nat.zero_add] at this; exact this
  have g'3 := (jn h2 (jn h2d (jn @ints_rep (jn @List.length_replicate.{0} (j2 hcp0 hmin g'2)))))
  refine runTf g'3 ?_
  have hrl0 := repF_len (n := n) (k := 1) (by omega)
  refine glp (fun k F Hx => ∃ j : Nat, j + k = n ∧ 1 ≤ j ∧ j ≤ n ∧ F = [(7, .sl (some (H.length, 0)) ((repF n j).length) none), (8, iV ((j : Nat) : Int))] ∧ Hx = H ++ [.cells true 1 (ints .i64 (repF n j))]) (n - 1) ?_ ?_
  · refine ⟨_, _, _, ⟨1, by omega, Nat.le_refl _, h0, rfl, rfl⟩, bS hbel [0] (absRf @hrl0)⟩
  rintro k0 F Hx ⟨j, hm0, hj1, hjn, rfl, rfl⟩ J0 hJ0
  have hrl := repF_len hjn
  have g'4 := (jn @hrl (jn @ints_len (jn @ints_ones g'3)))
  refine rcs g'4 (fun h3 h3d _ => ?_) (fun h3 h3d g'6 => ?_)
  · have hmn : min j (n - j) ≤ n - j := Nat.min_le_right _ _
    have hmj : min j (n - j) ≤ j := Nat.min_le_left _ _
    have hm0 : (min j (n - j) == 0) = false := beq_eq_false_iff_ne.2 (by omega)
    have hcp1 := rep_tk (n := n) hmj
    have hcp2 := rep_sp (n := n) (j := j) (c := min j (n - j)) (by omega)
    have g'5 := (jn h3 (jn h3d (jn @Nat.sub_zero (jn @hm0 (jn @hcp1 (jn @hcp2 (jn @Nat.mul_one g'4)))))))
    refine runTf g'5 ?_
    have hja : ((j : Nat) : Int) + ((min j (n - j) : Nat) : Int) = ((j + min j (n - j) : Nat) : Int) := rfl
    have hrl := repF_len (n := n) (k := j + min j (n - j)) (by omega)
    refine hJ0 _ _ ⟨n - (j + min j (n - j)), by omega, _, _, _, ⟨j + min j (n - j), by omega, by omega, by omega, rfl, rfl⟩, bS hbel [0] (absRf (jn @hja @hrl))⟩
  have hjE : j = n := by omega
  have hfin : repF n j = List.replicate n (-1) := by rw [hjE]; exact repF_n
  refine runTf g'6 ?_
  refine hQ _ _ (end_byG (.inl rfl) hbel (x1 := .sl (some (H.length, 0)) ((repF n j).length) none) (l2 := [.cells true 1 (ints .i64 (repF n j))]) (.sl (some (H.length, 0)) ((repF n j).length) none) (resTf @hrl Try.results51) [] rfl [0] (by decide) ⟨by rw [hrl], by rw [hfin]⟩ ?_)
  exact absW
section
variable (H : AHeap)
theorem psize_c (x : Int) : ACalls Try.prog 40 [.int .i64 x] H (fun v H' => v = .bool (decide (1 ≤ x) && decide (x ≤ 64)) ∧ H' = H) := by
  (refine ACalls_run try_mixed Try.func40 true _ rfl (Nat.le_of_ble_eq_true (by kernel_rfl)) (by kernel_rfl) ?_; intro hbel Q hQ hQ' c hc; unfold Try.f40 at hc; simp only [Option.some.injEq] at hc; subst hc; clear hQ')
  by_cases h1 : 1 ≤ x
  · simp -implicitDefEqProofs (disch := omega) only [h1, simprocAttr, amset, tyset, Function.comp_apply, one1, lenV, calleeOf, lateOk, belowV, aop, AV.ofValue, AV.ofCell, AV.cells, AV.flat, AV.one, arep, aBin, aAppend, aConv]
    exact hQ _ _ (end_plain0 (.inl rfl) hbel (x := .bool (decide (x ≤ 64))) (resT Try.results40) rfl ⟨by simp only [h1, decide_true, Bool.true_and], rfl⟩)
  simp -implicitDefEqProofs (disch := omega) only [h1, simprocAttr, amset, tyset, Function.comp_apply, one1, lenV, calleeOf, lateOk, belowV, aop, AV.ofValue, AV.ofCell, AV.cells, AV.flat, AV.one, arep, aBin, aAppend, aConv]
  exact hQ _ _ (end_plain0 (.inl rfl) hbel (x := .bool false) (resT Try.results40) rfl ⟨by simp only [h1, decide_false, Bool.false_and], rfl⟩)
set_option maxRecDepth 100000 in
theorem max_c (xs : List Int) (b : Nat) (own : Bool) (cap : Option Nat) (hb : H[b]? = some (.cells own 1 (ints .u8 xs))) (h0 : 0 < xs.length) (hn : xs.length ≤ 1000000) : ACalls Try.prog 41 [.sl (some (b, 0)) xs.length cap] H (fun v H' => ∃ m, v = .int .u8 m ∧ m ∈ xs ∧ (∀ x ∈ xs, x ≤ m) ∧ H' = H) := by
  have hbl := getElem?_lt hb
  have hg0 := ints_get (k := .u8) (xs := xs) (j := 0) h0
  (refine ACalls_run try_mixed Try.func41 true _ rfl (Nat.le_of_ble_eq_true (by kernel_rfl)) (by kernel_rfl) ?_; intro hbel Q hQ hQ' c hc; unfold Try.f41 at hc; simp only [Option.some.injEq] at hc; subst hc; clear hQ')
  have h1 : ¬ (xs.length : Int) < 1 := by omega
  simp -implicitDefEqProofs (disch := omega) only [h1, hb, hg0, simprocAttr, amset, tyset, Function.comp_apply, one1, lenV, calleeOf, lateOk, belowV, aop, AV.ofValue, AV.ofCell, AV.cells, AV.flat, AV.one, arep, aBin, aAppend, aConv]
  repeat refine And.intro (by omega) ?_
  refine go_loop try_mixed (by kernel_rfl) (fun k F Hx => ∃ (i : Nat) (m : Int), i + k = xs.length ∧ 1 ≤ i ∧ m ∈ xs ∧ (∀ j, j < i → gi xs j ≤ m) ∧ F = [(0, .sl (some (b, 0)) xs.length none), (3, .int .u8 m), (4, .int .i64 (i : Nat))] ∧ Hx = H) (xs.length - 1) ?_ ?_
  · refine ⟨_, _, _, ⟨1, gi xs 0, by omega, by omega, gi_mem h0, fun j hj => by obtain rfl : j = 0 := by omega
                                                                                exact Int.le_refl _, rfl, rfl⟩, Abs.by0 hbel ?_⟩
    exact absT
  rintro k F Hx ⟨i, m, hik, hi1, hm, hle, rfl, rfl⟩ J hJ
  by_cases hi : i < xs.length
  · have hii : (i : Int) < (xs.length : Int) := by omega
    have hg := ints_get (k := .u8) (xs := xs) (j := i) hi
    simp -implicitDefEqProofs (disch := omega) only [hii, hb, hg, simprocAttr, amset, tyset, Function.comp_apply, one1, lenV, calleeOf, lateOk, belowV, aop, AV.ofValue, AV.ofCell, AV.cells, AV.flat, AV.one, arep, aBin, aAppend, aConv]
    repeat refine And.intro (by omega) ?_
    refine hJ _ _ ⟨k - 1, by omega, _, _, _, ⟨i + 1, if m < gi xs i then gi xs i else m, by omega, by omega, by split; exact gi_mem hi; exact hm, fun j hj => ?_, rfl, rfl⟩, Abs.by0 hbel ?_⟩
    · by_cases hji : j = i
      · subst hji; split <;> omega
      have := hle j (by omega); split <;> omega
    exact absT
  have hnn : ¬ ((i : Int) < (xs.length : Int)) := by omega
  simp -implicitDefEqProofs (disch := omega) only [hnn, simprocAttr, amset, tyset, Function.comp_apply, one1, lenV, calleeOf, lateOk, belowV, aop, AV.ofValue, AV.ofCell, AV.cells, AV.flat, AV.one, arep, aBin, aAppend, aConv]
  exact hQ _ _ (end_plain0 (.inl rfl) hbel (x := .int .u8 m) (resT Try.results41) rfl ⟨m, rfl, hm, fun x hx => by
    obtain ⟨j, hj, rfl⟩ := List.getElem_of_mem hx
    rw [← gi_lt hj]; exact hle j (by omega), rfl⟩)
theorem vldB_neg {W Hh : Int} {xs : List Int} (h : ¬ (1 ≤ W ∧ W ≤ 64 ∧ 1 ≤ Hh ∧ Hh ≤ 64 ∧ (xs.length : Int) = W * Hh)) : vldB W Hh xs = false := vld_false.2 fun v => h ⟨v.w0, v.w1, v.h0, v.h1, v.len⟩
set_option maxRecDepth 100000 in
theorem valid_a (W Hh : Int) (s : AV) (xs : List Int) (hs : IsI H .u8 s xs) : ACalls Try.prog 21 [.agg [.int .i64 W, .int .i64 Hh, s]] H (fun v H' => v = .bool (vldB W Hh xs) ∧ H' = H) := by
  have hs1 : ∃ a c, s = .sl a xs.length c := by
    rcases hs with ⟨rfl, rfl⟩ | ⟨b, own, cap, rfl, hb⟩
    · exact ⟨_, _, rfl⟩
    exact ⟨_, _, rfl⟩
  obtain ⟨a1, c1, rfl⟩ := hs1
  (refine ACalls_run try_mixed Try.func21 true _ rfl (Nat.le_of_ble_eq_true (by kernel_rfl)) (by kernel_rfl) ?_; intro hbel Q hQ hQ' c hc; unfold Try.f21 at hc; simp only [Option.some.injEq] at hc; subst hc; clear hQ')
  simp -implicitDefEqProofs (disch := omega) only [simprocAttr, amset, tyset, Function.comp_apply, one1, lenV, calleeOf, lateOk, belowV, aop, AV.ofValue, AV.ofCell, AV.cells, AV.flat, AV.one, arep, aBin, aAppend, aConv]
  refine call_v (by kernel_rfl) (psize_c _ _) ?_
  cases h1 : (decide (1 ≤ W) && decide (W ≤ 64))
  · simp only [Bool.and_eq_false_iff, decide_eq_false_iff_not] at h1
    simp -implicitDefEqProofs (disch := omega) only [simprocAttr, amset, tyset, Function.comp_apply, one1, lenV, calleeOf, lateOk, belowV, aop, AV.ofValue, AV.ofCell, AV.cells, AV.flat, AV.one, arep, aBin, aAppend, aConv]
    exact hQ _ _ (end_plain (.inl rfl) hbel (x := .bool false) (resT Try.results21) rfl ⟨by rw [vldB_neg (by omega)], rfl⟩)
  simp only [Bool.and_eq_true, decide_eq_true_eq] at h1
  simp -implicitDefEqProofs (disch := omega) only [simprocAttr, amset, tyset, Function.comp_apply, one1, lenV, calleeOf, lateOk, belowV, aop, AV.ofValue, AV.ofCell, AV.cells, AV.flat, AV.one, arep, aBin, aAppend, aConv]
  refine call_v (by kernel_rfl) (psize_c _ _) ?_
  cases h2 : (decide (1 ≤ Hh) && decide (Hh ≤ 64))
  · simp only [Bool.and_eq_false_iff, decide_eq_false_iff_not] at h2
    simp -implicitDefEqProofs (disch := omega) only [simprocAttr, amset, tyset, Function.comp_apply, one1, lenV, calleeOf, lateOk, belowV, aop, AV.ofValue, AV.ofCell, AV.cells, AV.flat, AV.one, arep, aBin, aAppend, aConv]
    exact hQ _ _ (end_plain (.inl rfl) hbel (x := .bool false) (resT Try.results21) rfl ⟨by rw [vldB_neg (by omega)], rfl⟩)
  simp only [Bool.and_eq_true, decide_eq_true_eq] at h2
  have hm := mul_le_64 (a := W) (b := Hh) (by omega) (by omega) (by omega) (by omega)
  have hm1 := Int.mul_le_mul (a := 1) (b := 1) (c := W) (d := Hh) h1.1 h2.1 (by omega) (by omega)
  by_cases h3 : (xs.length : Int) = W * Hh
  · have h3' : ((xs.length : Int) != W * Hh) = false := by simp [h3]
    have h4 : ((xs.length : Int) == 0) = false := beq_eq_false_iff_ne.2 (by omega)
    obtain ⟨b, own, cap, e1, hb⟩ := hs.resolve_left (fun h => by rw [h.1] at h3; simp at h3; omega)
    injection e1 with e1 _ e1'; subst e1 e1'
    have hb0 := fun l => get_app (l := l) hb
    have hbl := getElem?_lt hb
    simp -implicitDefEqProofs (disch := omega) only [h3', h4, simprocAttr, amset, tyset, Function.comp_apply, one1, lenV, calleeOf, lateOk, belowV, aop, AV.ofValue, AV.ofCell, AV.cells, AV.flat, AV.one, arep, aBin, aAppend, aConv]
    refine call_of (by kernel_rfl) (max_c _ xs b own c1 (hb0 _) (by omega) (by omega)) ?_
    rintro x H' ⟨m, rfl, hm, hle, rfl⟩
    simp -implicitDefEqProofs (disch := omega) only [simprocAttr, amset, tyset, Function.comp_apply, one1, lenV, calleeOf, lateOk, belowV, aop, AV.ofValue, AV.ofCell, AV.cells, AV.flat, AV.one, arep, aBin, aAppend, aConv]
    exact hQ _ _ (end_plain (.inl rfl) hbel (x := .bool (decide (m ≤ 2))) (resT Try.results21) rfl ⟨by
      congr 1
      rw [Bool.eq_iff_iff, vld_iff, decide_eq_true_eq]
      exact ⟨fun h => ⟨h1.1, h1.2, h2.1, h2.2, h3, fun v hv => Int.le_trans (hle v hv) h⟩, fun h => h.le m hm⟩, rfl⟩)
  have h3' : ((xs.length : Int) != W * Hh) = true := by simp [h3]
  simp -implicitDefEqProofs (disch := omega) only [h3', simprocAttr, amset, tyset, Function.comp_apply, one1, lenV, calleeOf, lateOk, belowV, aop, AV.ofValue, AV.ofCell, AV.cells, AV.flat, AV.one, arep, aBin, aAppend, aConv]
  exact hQ _ _ (end_plain (.inl rfl) hbel (x := .bool false) (resT Try.results21) rfl ⟨by rw [vldB_neg (by omega)], rfl⟩)
set_option maxRecDepth 100000 in
theorem rplan_a (W Hh : Int) (s : AV) (xs : List Int) (hs : IsI H .u8 s xs) : ACalls Try.prog 17 [.agg [.int .i64 W, .int .i64 Hh, s]] H (fun v H' => v = .bool (vldB W Hh xs) ∧ H' = H) := by
  have hs1 : ∃ a c, s = .sl a xs.length c := by
    rcases hs with ⟨rfl, rfl⟩ | ⟨b, own, cap, rfl, hb⟩
    · exact ⟨_, _, rfl⟩
    exact ⟨_, _, rfl⟩
  obtain ⟨a1, c1, rfl⟩ := hs1
  (refine ACalls_run try_mixed Try.func17 true _ rfl (Nat.le_of_ble_eq_true (by kernel_rfl)) (by kernel_rfl) ?_; intro hbel Q hQ hQ' c hc; unfold Try.f17 at hc; simp only [Option.some.injEq] at hc; subst hc; clear hQ')
  by_cases h1 : W < 1
  · simp -implicitDefEqProofs (disch := omega) only [h1, simprocAttr, amset, tyset, Function.comp_apply, one1, lenV, calleeOf, lateOk, belowV, aop, AV.ofValue, AV.ofCell, AV.cells, AV.flat, AV.one, arep, aBin, aAppend, aConv]
    exact hQ _ _ (end_plain (.inl rfl) hbel (x := .bool false) (resT Try.results17) rfl ⟨by rw [vldB_neg (by omega)], rfl⟩)
  by_cases h2 : 64 < W
  · simp -implicitDefEqProofs (disch := omega) only [h1, h2, simprocAttr, amset, tyset, Function.comp_apply, one1, lenV, calleeOf, lateOk, belowV, aop, AV.ofValue, AV.ofCell, AV.cells, AV.flat, AV.one, arep, aBin, aAppend, aConv]
    exact hQ _ _ (end_plain (.inl rfl) hbel (x := .bool false) (resT Try.results17) rfl ⟨by rw [vldB_neg (by omega)], rfl⟩)
  by_cases h3 : Hh < 1
  · simp -implicitDefEqProofs (disch := omega) only [h1, h2, h3, simprocAttr, amset, tyset, Function.comp_apply, one1, lenV, calleeOf, lateOk, belowV, aop, AV.ofValue, AV.ofCell, AV.cells, AV.flat, AV.one, arep, aBin, aAppend, aConv]
    exact hQ _ _ (end_plain (.inl rfl) hbel (x := .bool false) (resT Try.results17) rfl ⟨by rw [vldB_neg (by omega)], rfl⟩)
  by_cases h4 : 64 < Hh
  · simp -implicitDefEqProofs (disch := omega) only [h1, h2, h3, h4, simprocAttr, amset, tyset, Function.comp_apply, one1, lenV, calleeOf, lateOk, belowV, aop, AV.ofValue, AV.ofCell, AV.cells, AV.flat, AV.one, arep, aBin, aAppend, aConv]
    exact hQ _ _ (end_plain (.inl rfl) hbel (x := .bool false) (resT Try.results17) rfl ⟨by rw [vldB_neg (by omega)], rfl⟩)
  have hm := mul_le_64 (a := W) (b := Hh) (by omega) (by omega) (by omega) (by omega)
  have hm1 := Int.mul_le_mul (a := 1) (b := 1) (c := W) (d := Hh) (by omega) (by omega) (by omega) (by omega)
  by_cases h5 : (xs.length : Int) = W * Hh
  · have h5' : ((xs.length : Int) != W * Hh) = false := by simp [h5]
    obtain ⟨b, own, cap, e1, hb⟩ := hs.resolve_left (fun h => by rw [h.1] at h5; simp at h5; omega)
    injection e1 with e1 _ e1'; subst e1 e1'
    have hb0 := fun l => get_app (l := l) hb
    have hbl := getElem?_lt hb
    simp -implicitDefEqProofs (disch := omega) only [h1, h2, h3, h4, h5', simprocAttr, amset, tyset, Function.comp_apply, one1, lenV, calleeOf, lateOk, belowV, aop, AV.ofValue, AV.ofCell, AV.cells, AV.flat, AV.one, arep, aBin, aAppend, aConv]
    refine go_loop try_mixed (by kernel_rfl) (fun k F Hx => ∃ (i : Nat), i + k = xs.length ∧ (∀ j, j < i → gi xs j ≤ 2) ∧ F = [(1, .ptr (some (H.length, 0))), (3, .int .i64 (i : Nat))] ∧ Hx = H ++ [.cells true 0 [.int .i64 W, .int .i64 Hh, .sl (some (b, 0)) xs.length c1]]) xs.length ?_ ?_
    · refine ⟨_, _, _, ⟨0, by omega, fun j hj => absurd hj (Nat.not_lt_zero j), rfl, rfl⟩, Abs.by hbel [0] (by decide) ?_⟩
      exact absT
    rintro k F Hx ⟨i, hik, hle, rfl, rfl⟩ J hJ
    by_cases hi : i < xs.length
    · have hii : (i : Int) < (xs.length : Int) := by omega
      have hg := ints_get (k := .u8) (xs := xs) (j := i) hi
      by_cases h6 : 2 < gi xs i
      · simp -implicitDefEqProofs (disch := omega) only [hii, hb0, hg, h6, simprocAttr, amset, tyset, Function.comp_apply, one1, lenV, calleeOf, lateOk, belowV, aop, AV.ofValue, AV.ofCell, AV.cells, AV.flat, AV.one, arep, aBin, aAppend, aConv]
        repeat refine And.intro (by omega) ?_
        exact hQ _ _ (end_plain (.inl rfl) hbel (x := .bool false) (resT Try.results17) rfl ⟨by rw [vld_false.2 fun v => absurd (v.le _ (gi_mem hi)) (by omega)], rfl⟩)
      simp -implicitDefEqProofs (disch := omega) only [hii, hb0, hg, h6, simprocAttr, amset, tyset, Function.comp_apply, one1, lenV, calleeOf, lateOk, belowV, aop, AV.ofValue, AV.ofCell, AV.cells, AV.flat, AV.one, arep, aBin, aAppend, aConv]
      repeat refine And.intro (by omega) ?_
      refine hJ _ _ ⟨k - 1, by omega, _, _, _, ⟨i + 1, by omega, fun j hj => ?_, rfl, rfl⟩, Abs.by hbel [0] (by decide) ?_⟩
      · by_cases hji : j = i
        · subst hji; omega
        exact hle j (by omega)
      exact absT
    have hnn : ¬ ((i : Int) < (xs.length : Int)) := by omega
    simp -implicitDefEqProofs (disch := omega) only [hnn, simprocAttr, amset, tyset, Function.comp_apply, one1, lenV, calleeOf, lateOk, belowV, aop, AV.ofValue, AV.ofCell, AV.cells, AV.flat, AV.one, arep, aBin, aAppend, aConv]
    exact hQ _ _ (end_plain (.inl rfl) hbel (x := .bool true) (resT Try.results17) rfl ⟨by rw [vld_iff.2 ⟨by omega, by omega, by omega, by omega, h5, fun x hx => by
      obtain ⟨j, hj, rfl⟩ := List.getElem_of_mem hx
      rw [← gi_lt hj]; exact hle j (by omega)⟩], rfl⟩)
  have h5' : ((xs.length : Int) != W * Hh) = true := by simp [h5]
  simp -implicitDefEqProofs (disch := omega) only [h1, h2, h3, h4, h5', simprocAttr, amset, tyset, Function.comp_apply, one1, lenV, calleeOf, lateOk, belowV, aop, AV.ofValue, AV.ofCell, AV.cells, AV.flat, AV.one, arep, aBin, aAppend, aConv]
  exact hQ _ _ (end_plain (.inl rfl) hbel (x := .bool false) (resT Try.results17) rfl ⟨by rw [vldB_neg (by omega)], rfl⟩)
end
section
variable {H : AHeap} {W Hh x y : Int} {s : AV} {xs : List Int} {g : Nat} {own : Bool} {cap : Option Nat} {n : Nat}
set_option maxRecDepth 100000 in
theorem rinside_c {a : Option (Nat × Nat)} : ACalls Try.prog 34 [.agg [.int .i64 W, .int .i64 Hh, .sl a n cap], .agg [.int .i64 x, .int .i64 y]] H (fun v H' => v = .bool (inB W Hh x y) ∧ H' = H) := by
  (refine ACalls_run try_mixed Try.func34 true _ rfl (Nat.le_of_ble_eq_true (by kernel_rfl)) (by kernel_rfl) ?_; intro hbel Q hQ hQ' c hc; unfold Try.f34 at hc; simp only [Option.some.injEq] at hc; subst hc; clear hQ')
  by_cases h1 : 0 ≤ x
  · by_cases h2 : x < W
    · by_cases h3 : 0 ≤ y
      · simp -implicitDefEqProofs (disch := omega) only [h1, h2, h3, simprocAttr, amset, tyset, Function.comp_apply, one1, lenV, calleeOf, lateOk, belowV, aop, AV.ofValue, AV.ofCell, AV.cells, AV.flat, AV.one, arep, aBin, aAppend, aConv]
        exact hQ _ _ (end_plain (.inl rfl) hbel (x := .bool (decide (y < Hh))) (resT Try.results34) rfl ⟨by simp [inB, h1, h2, h3], rfl⟩)
      simp -implicitDefEqProofs (disch := omega) only [h1, h2, h3, simprocAttr, amset, tyset, Function.comp_apply, one1, lenV, calleeOf, lateOk, belowV, aop, AV.ofValue, AV.ofCell, AV.cells, AV.flat, AV.one, arep, aBin, aAppend, aConv]
      exact hQ _ _ (end_plain (.inl rfl) hbel (x := .bool false) (resT Try.results34) rfl ⟨by simp [inB, h1, h2, h3], rfl⟩)
    simp -implicitDefEqProofs (disch := omega) only [h1, h2, simprocAttr, amset, tyset, Function.comp_apply, one1, lenV, calleeOf, lateOk, belowV, aop, AV.ofValue, AV.ofCell, AV.cells, AV.flat, AV.one, arep, aBin, aAppend, aConv]
    exact hQ _ _ (end_plain (.inl rfl) hbel (x := .bool false) (resT Try.results34) rfl ⟨by simp [inB, h1, h2], rfl⟩)
  simp -implicitDefEqProofs (disch := omega) only [h1, simprocAttr, amset, tyset, Function.comp_apply, one1, lenV, calleeOf, lateOk, belowV, aop, AV.ofValue, AV.ofCell, AV.cells, AV.flat, AV.one, arep, aBin, aAppend, aConv]
  exact hQ _ _ (end_plain (.inl rfl) hbel (x := .bool false) (resT Try.results34) rfl ⟨by simp [inB, h1], rfl⟩)
set_option maxRecDepth 100000 in
theorem is_c {v : Int} (hV : Vld W Hh xs) (hg : H[g]? = some (.cells own 1 (ints .u8 xs))) (hn : n = xs.length) : ACalls Try.prog 42 [.agg [.int .i64 W, .int .i64 Hh, .sl (some (g, 0)) n cap], .agg [.int .i64 x, .int .i64 y], .int .u8 v] H (fun r H' => r = .bool (isB W Hh xs x y v) ∧ H' = H) := by
  (refine ACalls_run try_mixed Try.func42 true _ rfl (Nat.le_of_ble_eq_true (by kernel_rfl)) (by kernel_rfl) ?_; intro hbel Q hQ hQ' c hc; unfold Try.f42 at hc; simp only [Option.some.injEq] at hc; subst hc; clear hQ')
  have hg0 := fun l => get_app (l := l) hg
  by_cases h1 : 0 ≤ x
  · by_cases h2 : x < W
    · by_cases h3 : 0 ≤ y
      · by_cases h4 : y < Hh
        · have hi : inB W Hh x y = true := inB_iff.2 ⟨h1, h2, h3, h4⟩
          obtain ⟨i1, i2, i3, i4, i5, -⟩ := hV.idx hi
          have hl := hV.len
          have hp := hV.pos
          have hgi := ints_get (k := .u8) (xs := xs) (j := (y * W + x).toNat) i5
          simp -implicitDefEqProofs (disch := omega) only [h1, h2, h3, h4, hg0, hgi, simprocAttr, amset, tyset, Function.comp_apply, one1, lenV, calleeOf, lateOk, belowV, aop, AV.ofValue, AV.ofCell, AV.cells, AV.flat, AV.one, arep, aBin, aAppend, aConv]
          repeat refine And.intro (by omega) ?_
          exact hQ _ _ (end_plain (.inl rfl) hbel (x := .bool (gi xs (y * W + x).toNat == v)) (resT Try.results42) rfl ⟨by simp [isB, hi], rfl⟩)
        simp -implicitDefEqProofs (disch := omega) only [h1, h2, h3, h4, simprocAttr, amset, tyset, Function.comp_apply, one1, lenV, calleeOf, lateOk, belowV, aop, AV.ofValue, AV.ofCell, AV.cells, AV.flat, AV.one, arep, aBin, aAppend, aConv]
        exact hQ _ _ (end_plain (.inl rfl) hbel (x := .bool false) (resT Try.results42) rfl ⟨by simp [isB, inB, h1, h2, h3, h4], rfl⟩)
      simp -implicitDefEqProofs (disch := omega) only [h1, h2, h3, simprocAttr, amset, tyset, Function.comp_apply, one1, lenV, calleeOf, lateOk, belowV, aop, AV.ofValue, AV.ofCell, AV.cells, AV.flat, AV.one, arep, aBin, aAppend, aConv]
      exact hQ _ _ (end_plain (.inl rfl) hbel (x := .bool false) (resT Try.results42) rfl ⟨by simp [isB, inB, h1, h2, h3], rfl⟩)
    simp -implicitDefEqProofs (disch := omega) only [h1, h2, simprocAttr, amset, tyset, Function.comp_apply, one1, lenV, calleeOf, lateOk, belowV, aop, AV.ofValue, AV.ofCell, AV.cells, AV.flat, AV.one, arep, aBin, aAppend, aConv]
    exact hQ _ _ (end_plain (.inl rfl) hbel (x := .bool false) (resT Try.results42) rfl ⟨by simp [isB, inB, h1, h2], rfl⟩)
  simp -implicitDefEqProofs (disch := omega) only [h1, simprocAttr, amset, tyset, Function.comp_apply, one1, lenV, calleeOf, lateOk, belowV, aop, AV.ofValue, AV.ofCell, AV.cells, AV.flat, AV.one, arep, aBin, aAppend, aConv]
  exact hQ _ _ (end_plain (.inl rfl) hbel (x := .bool false) (resT Try.results42) rfl ⟨by simp [isB, inB, h1], rfl⟩)
set_option maxRecDepth 100000 in
theorem at_c (hV : Vld W Hh xs) (hg : H[g]? = some (.cells own 1 (ints .u8 xs))) (hn : n = xs.length) : ACalls Try.prog 18 [.agg [.int .i64 W, .int .i64 Hh, .sl (some (g, 0)) n cap], .agg [.int .i64 x, .int .i64 y]] H (fun r H' => r = .int .u8 (atI W Hh xs x y) ∧ H' = H) := by
  (refine ACalls_run try_mixed Try.func18 true _ rfl (Nat.le_of_ble_eq_true (by kernel_rfl)) (by kernel_rfl) ?_; intro hbel Q hQ hQ' c hc; unfold Try.f18 at hc; simp only [Option.some.injEq] at hc; subst hc; clear hQ')
  have hg0 := fun l => get_app (l := l) hg
  simp -implicitDefEqProofs (disch := omega) only [simprocAttr, amset, tyset, Function.comp_apply, one1, lenV, calleeOf, lateOk, belowV, aop, AV.ofValue, AV.ofCell, AV.cells, AV.flat, AV.one, arep, aBin, aAppend, aConv]
  refine call_v (by kernel_rfl) rinside_c ?_
  cases hi : inB W Hh x y
  · simp -implicitDefEqProofs (disch := omega) only [simprocAttr, amset, tyset, Function.comp_apply, one1, lenV, calleeOf, lateOk, belowV, aop, AV.ofValue, AV.ofCell, AV.cells, AV.flat, AV.one, arep, aBin, aAppend, aConv]
    exact hQ _ _ (end_plain (.inl rfl) hbel (x := .int .u8 2) (resT Try.results18) rfl ⟨by simp [atI, hi], rfl⟩)
  obtain ⟨i1, i2, i3, i4, i5, -⟩ := hV.idx hi
  have hl := hV.len
  have hp := hV.pos
  have hgi := ints_get (k := .u8) (xs := xs) (j := (y * W + x).toNat) i5
  simp -implicitDefEqProofs (disch := omega) only [hg0, hgi, simprocAttr, amset, tyset, Function.comp_apply, one1, lenV, calleeOf, lateOk, belowV, aop, AV.ofValue, AV.ofCell, AV.cells, AV.flat, AV.one, arep, aBin, aAppend, aConv]
  repeat refine And.intro (by omega) ?_
  exact hQ _ _ (end_plain (.inl rfl) hbel (x := .int .u8 (gi xs (y * W + x).toNat)) (resT Try.results18) rfl ⟨by simp [atI, hi], rfl⟩)
theorem unknown_c (hV : Vld W Hh xs) (hg : H[g]? = some (.cells own 1 (ints .u8 xs))) (hn : n = xs.length) : ACalls Try.prog 35 [.agg [.int .i64 W, .int .i64 Hh, .sl (some (g, 0)) n cap], .agg [.int .i64 x, .int .i64 y]] H (fun r H' => r = .bool (isB W Hh xs x y 0) ∧ H' = H) := by
  (refine ACalls_run try_mixed Try.func35 true _ rfl (Nat.le_of_ble_eq_true (by kernel_rfl)) (by kernel_rfl) ?_; intro hbel Q hQ hQ' c hc; unfold Try.f35 at hc; simp only [Option.some.injEq] at hc; subst hc; clear hQ')
  have hg0 := fun l => get_app (l := l) hg
  simp -implicitDefEqProofs (disch := omega) only [simprocAttr, amset, tyset, Function.comp_apply, one1, lenV, calleeOf, lateOk, belowV, aop, AV.ofValue, AV.ofCell, AV.cells, AV.flat, AV.one, arep, aBin, aAppend, aConv]
  refine call_v (by kernel_rfl) rinside_c ?_
  cases hi : inB W Hh x y
  · simp -implicitDefEqProofs (disch := omega) only [simprocAttr, amset, tyset, Function.comp_apply, one1, lenV, calleeOf, lateOk, belowV, aop, AV.ofValue, AV.ofCell, AV.cells, AV.flat, AV.one, arep, aBin, aAppend, aConv]
    exact hQ _ _ (end_plain (.inl rfl) hbel (x := .bool false) (resT Try.results35) rfl ⟨by simp [isB, hi], rfl⟩)
  simp -implicitDefEqProofs (disch := omega) only [simprocAttr, amset, tyset, Function.comp_apply, one1, lenV, calleeOf, lateOk, belowV, aop, AV.ofValue, AV.ofCell, AV.cells, AV.flat, AV.one, arep, aBin, aAppend, aConv]
  refine call_v (by kernel_rfl) (at_c hV (hg0 _) hn) ?_
  simp -implicitDefEqProofs (disch := omega) only [simprocAttr, amset, tyset, Function.comp_apply, one1, lenV, calleeOf, lateOk, belowV, aop, AV.ofValue, AV.ofCell, AV.cells, AV.flat, AV.one, arep, aBin, aAppend, aConv]
  exact hQ _ _ (end_plain (.inl rfl) hbel (x := .bool (atI W Hh xs x y == 0)) (resT Try.results35) rfl ⟨by rw [isB_at (by omega)], rfl⟩)
set_option maxRecDepth 100000 in
theorem ris_c (hV : Vld W Hh xs) (hg : H[g]? = some (.cells own 1 (ints .u8 xs))) (hn : n = xs.length) (hx : -1000000 ≤ x ∧ x ≤ 1000000 ∧ -1000000 ≤ y ∧ y ≤ 1000000) : ACalls Try.prog 19 [.agg [.int .i64 W, .int .i64 Hh, .sl (some (g, 0)) n cap], .agg [.int .i64 x, .int .i64 y]] H (fun r H' => r = .bool (froB W Hh xs x y) ∧ H' = H) := by
  (refine ACalls_run try_mixed Try.func19 true _ rfl (Nat.le_of_ble_eq_true (by kernel_rfl)) (by kernel_rfl) ?_; intro hbel Q hQ hQ' c hc; unfold Try.f19 at hc; simp only [Option.some.injEq] at hc; subst hc; clear hQ')
  have hg0 := fun l => get_app (l := l) hg
  simp -implicitDefEqProofs (disch := omega) only [simprocAttr, amset, tyset, Function.comp_apply, one1, lenV, calleeOf, lateOk, belowV, aop, AV.ofValue, AV.ofCell, AV.cells, AV.flat, AV.one, arep, aBin, aAppend, aConv]
  refine call_v (by kernel_rfl) (at_c hV (hg0 _) hn) ?_
  have h0 : isB W Hh xs x y 1 = (atI W Hh xs x y == 1) := isB_at (by omega)
  cases h1 : (atI W Hh xs x y == 1)
  · have h1' : (atI W Hh xs x y != 1) = true := by rw [bne, h1]; rfl
    simp -implicitDefEqProofs (disch := omega) only [h1', simprocAttr, amset, tyset, Function.comp_apply, one1, lenV, calleeOf, lateOk, belowV, aop, AV.ofValue, AV.ofCell, AV.cells, AV.flat, AV.one, arep, aBin, aAppend, aConv]
    exact hQ _ _ (end_plain (.inl rfl) hbel (x := .bool false) (resT Try.results19) rfl ⟨by simp [froB, h0, h1], rfl⟩)
  have h1' : (atI W Hh xs x y != 1) = false := by rw [bne, h1]; rfl
  simp -implicitDefEqProofs (disch := omega) only [h1', simprocAttr, amset, tyset, Function.comp_apply, one1, lenV, calleeOf, lateOk, belowV, aop, AV.ofValue, AV.ofCell, AV.cells, AV.flat, AV.one, arep, aBin, aAppend, aConv]
  refine call_v (by kernel_rfl) (unknown_c hV (hg0 _) hn) ?_
  cases h2 : isB W Hh xs (x + 1) y 0
  · simp -implicitDefEqProofs (disch := omega) only [simprocAttr, amset, tyset, Function.comp_apply, one1, lenV, calleeOf, lateOk, belowV, aop, AV.ofValue, AV.ofCell, AV.cells, AV.flat, AV.one, arep, aBin, aAppend, aConv]
    refine call_v (by kernel_rfl) (unknown_c hV (hg0 _) hn) ?_
    cases h3 : isB W Hh xs (x - 1) y 0
    · simp -implicitDefEqProofs (disch := omega) only [simprocAttr, amset, tyset, Function.comp_apply, one1, lenV, calleeOf, lateOk, belowV, aop, AV.ofValue, AV.ofCell, AV.cells, AV.flat, AV.one, arep, aBin, aAppend, aConv]
      refine call_v (by kernel_rfl) (unknown_c hV (hg0 _) hn) ?_
      cases h4 : isB W Hh xs x (y + 1) 0
      · simp -implicitDefEqProofs (disch := omega) only [simprocAttr, amset, tyset, Function.comp_apply, one1, lenV, calleeOf, lateOk, belowV, aop, AV.ofValue, AV.ofCell, AV.cells, AV.flat, AV.one, arep, aBin, aAppend, aConv]
        refine call_v (by kernel_rfl) (unknown_c hV (hg0 _) hn) ?_
        simp -implicitDefEqProofs (disch := omega) only [simprocAttr, amset, tyset, Function.comp_apply, one1, lenV, calleeOf, lateOk, belowV, aop, AV.ofValue, AV.ofCell, AV.cells, AV.flat, AV.one, arep, aBin, aAppend, aConv]
        exact hQ _ _ (end_plain (.inl rfl) hbel (x := .bool (isB W Hh xs x (y - 1) 0)) (resT Try.results19) rfl ⟨by simp [froB, h0, h1, h2, h3, h4], rfl⟩)
      simp -implicitDefEqProofs (disch := omega) only [simprocAttr, amset, tyset, Function.comp_apply, one1, lenV, calleeOf, lateOk, belowV, aop, AV.ofValue, AV.ofCell, AV.cells, AV.flat, AV.one, arep, aBin, aAppend, aConv]
      exact hQ _ _ (end_plain (.inl rfl) hbel (x := .bool true) (resT Try.results19) rfl ⟨by simp [froB, h0, h1, h2, h3, h4], rfl⟩)
    simp -implicitDefEqProofs (disch := omega) only [simprocAttr, amset, tyset, Function.comp_apply, one1, lenV, calleeOf, lateOk, belowV, aop, AV.ofValue, AV.ofCell, AV.cells, AV.flat, AV.one, arep, aBin, aAppend, aConv]
    exact hQ _ _ (end_plain (.inl rfl) hbel (x := .bool true) (resT Try.results19) rfl ⟨by simp [froB, h0, h1, h2, h3], rfl⟩)
  simp -implicitDefEqProofs (disch := omega) only [simprocAttr, amset, tyset, Function.comp_apply, one1, lenV, calleeOf, lateOk, belowV, aop, AV.ofValue, AV.ofCell, AV.cells, AV.flat, AV.one, arep, aBin, aAppend, aConv]
  exact hQ _ _ (end_plain (.inl rfl) hbel (x := .bool true) (resT Try.results19) rfl ⟨by simp [froB, h0, h1, h2], rfl⟩)
end
set_option maxRecDepth 100000 in
theorem fcells_c (H : AHeap) (W Hh : Int) (xs : List Int) (g : Nat) (own : Bool) (cap : Option Nat) (n : Nat) (hV : Vld W Hh xs) (hg : H[g]? = some (.cells own 1 (ints .u8 xs))) (hn : n = xs.length) :
    ACalls Try.prog 22 [.agg [.int .i64 W, .int .i64 Hh, .sl (some (g, 0)) n cap]] H (fun v H' => v = (retP H (froL W Hh xs)).1 ∧ H' = (retP H (froL W Hh xs)).2) := by
  have hW : 1 ≤ W ∧ W ≤ 64 ∧ 1 ≤ Hh ∧ Hh ≤ 64 := ⟨hV.w0, hV.w1, hV.h0, hV.h1⟩
  have hgl := getElem?_lt hg
  (refine ACalls_run try_mixed Try.func22 true _ rfl (Nat.le_of_ble_eq_true (by kernel_rfl)) (by kernel_rfl) ?_; intro hbel Q hQ hQ' c hc; unfold Try.f22 at hc; simp only [Option.some.injEq] at hc; subst hc; clear hQ')
  have hg0 := fun l => get_app (l := l) hg
  simp -implicitDefEqProofs (disch := omega) only [hg0, simprocAttr, amset, tyset, Function.comp_apply, one1, lenV, calleeOf, lateOk, belowV, aop, AV.ofValue, AV.ofCell, AV.cells, AV.flat, AV.one, arep, aBin, aAppend, aConv]
  refine go_loop try_mixed (by kernel_rfl) (fun k F Hx => ∃ (y : Nat) (s : AV) (X : ABlk), y + k = Hh.toNat ∧ OutP (H.length + 1) s X (gridP (froB W Hh xs) W.toNat y) ∧
    F = [(1, .ptr (some (H.length, 0))), (3, s), (8, .int .i64 Hh), (9, .int .i64 (y : Nat))] ∧ Hx = H ++ [.cells true 0 [.int .i64 W, .int .i64 Hh, .sl (some (g, 0)) n cap], X]) Hh.toNat ?_ ?_
  · refine ⟨_, _, _, ⟨0, _, _, by omega, .inl ⟨rfl, rfl, rfl⟩, rfl, rfl⟩, Abs.by hbel [0, 1] (by decide) ?_⟩
    exact absT
  rintro k F Hx ⟨y, s, X, hyk, hO, rfl, rfl⟩ J1 hJ1
  by_cases hy : (y : Int) < Hh
  · have hgl := gridP_len (froB W Hh xs) W.toNat y
    have hgl2 : y * W.toNat ≤ 64 * 64 := Nat.mul_le_mul (by omega) (by omega)
    simp -implicitDefEqProofs (disch := omega) only [hy, simprocAttr, amset, tyset, Function.comp_apply, one1, lenV, calleeOf, lateOk, belowV, aop, AV.ofValue, AV.ofCell, AV.cells, AV.flat, AV.one, arep, aBin, aAppend, aConv]
    refine go_loop try_mixed (by kernel_rfl) (fun k F Hx => ∃ (x : Nat) (s : AV) (X : ABlk), x + k = W.toNat ∧ OutP (H.length + 1) s X (gridP (froB W Hh xs) W.toNat y ++ rowP (froB W Hh xs) y x) ∧
      F = [(1, .ptr (some (H.length, 0))), (3, s), (4, .int .i64 (y : Nat)), (8, .int .i64 Hh), (9, .int .i64 (y : Nat)), (13, .int .i64 W), (14, .int .i64 (x : Nat))] ∧ Hx = H ++ [.cells true 0 [.int .i64 W, .int .i64 Hh, .sl (some (g, 0)) n cap], X]) W.toNat ?_ ?_
    · refine ⟨_, _, _, ⟨0, s, X, by omega, by simpa [rowP] using hO, rfl, rfl⟩, Abs.by hbel [0, 1] (by decide) ?_⟩
      rcases hO with ⟨-, rfl, rfl⟩ | ⟨-, rfl, rfl⟩
      · exact absT
      exact absT
    rintro k F Hx ⟨x, s, X, hxk, hO, rfl, rfl⟩ J hJ
    by_cases hx : (x : Int) < W
    · have hrl := rowP_len (froB W Hh xs) y x
      have hrow : rowP (froB W Hh xs) y (x + 1) = rowP (froB W Hh xs) y x ++ if froB W Hh xs x y = true then [((x : Int), (y : Int))] else [] := rfl
      have hend0 : froB W Hh xs x y = false → gridP (froB W Hh xs) W.toNat y ++ rowP (froB W Hh xs) y (x + 1) = gridP (froB W Hh xs) W.toNat y ++ rowP (froB W Hh xs) y x := fun h => by rw [hrow, if_neg (by rw [h]; simp), List.append_nil]
      have hend1 : froB W Hh xs x y = true → gridP (froB W Hh xs) W.toNat y ++ rowP (froB W Hh xs) y (x + 1) = gridP (froB W Hh xs) W.toNat y ++ rowP (froB W Hh xs) y x ++ [((x : Int), (y : Int))] := fun h => by rw [hrow, if_pos h, List.append_assoc]
      have hLl : (gridP (froB W Hh xs) W.toNat y ++ rowP (froB W Hh xs) y x).length ≤ 5000 := by rw [List.length_append]; omega
      generalize gridP (froB W Hh xs) W.toNat y ++ rowP (froB W Hh xs) y x = L at *
      have fin0 : froB W Hh xs x y = false → ∀ (F : Fr) (l1 : AHeap), (absF (H.length + l1.length) (sig H.length l1.length [0, 1]) F [(1, .ptr (some (H.length, 0))), (3, s), (4, .int .i64 (y : Nat)), (8, .int .i64 Hh), (9, .int .i64 (y : Nat)), (13, .int .i64 W), (14, .int .i64 ((x + 1 : Nat) : Int))] ∧ absH (H.length + l1.length) (sig H.length l1.length [0, 1]) l1 [0, 1] [.cells true 0 [.int .i64 W, .int .i64 Hh, .sl (some (g, 0)) n cap], X]) → J F (H ++ l1) := fun hf F l1 ha =>
        hJ _ _ ⟨k - 1, by omega, _, _, _, ⟨x + 1, s, X, by omega, by rw [hend0 hf]; exact hO, rfl, rfl⟩, Abs.by hbel [0, 1] (by decide) ha⟩
      have fin1 : froB W Hh xs x y = true → ∀ (F : Fr) (l1 : AHeap), (absF (H.length + l1.length) (sig H.length l1.length [0, 4]) F [(1, .ptr (some (H.length, 0))), (3, .sl (some (H.length + 1, 0)) (L.length + 1) none), (4, .int .i64 (y : Nat)), (8, .int .i64 Hh), (9, .int .i64 (y : Nat)), (13, .int .i64 W), (14, .int .i64 ((x + 1 : Nat) : Int))] ∧ absH (H.length + l1.length) (sig H.length l1.length [0, 4]) l1 [0, 4] [.cells true 0 [.int .i64 W, .int .i64 Hh, .sl (some (g, 0)) n cap], .cells true 2 (prs (L ++ [((x : Int), (y : Int))]))]) → J F (H ++ l1) := fun hf F l1 ha =>
        hJ _ _ ⟨k - 1, by omega, _, _, _, ⟨x + 1, _, _, by omega, by rw [hend1 hf]; exact .inr ⟨by simp, by simp, rfl⟩, rfl, rfl⟩, Abs.by hbel [0, 4] (by decide) ha⟩
      have hLt : List.take (L.length * 2) (prs L) = prs L := List.take_of_length_le (by rw [prs_len]; omega)
      simp -implicitDefEqProofs (disch := omega) only [hx, simprocAttr, amset, tyset, Function.comp_apply, one1, lenV, calleeOf, lateOk, belowV, aop, AV.ofValue, AV.ofCell, AV.cells, AV.flat, AV.one, arep, aBin, aAppend, aConv]
      refine call_v (by kernel_rfl) (is_c hV (hg0 _) hn) ?_
      cases h1 : isB W Hh xs x y 1
      · simp -implicitDefEqProofs (disch := omega) only [simprocAttr, amset, tyset, Function.comp_apply, one1, lenV, calleeOf, lateOk, belowV, aop, AV.ofValue, AV.ofCell, AV.cells, AV.flat, AV.one, arep, aBin, aAppend, aConv]
        refine fin0 (by simp [froB, h1]) _ _ ?_
        rcases hO with ⟨-, rfl, rfl⟩ | ⟨-, rfl, rfl⟩
        · exact absT
        exact absT
      simp -implicitDefEqProofs (disch := omega) only [simprocAttr, amset, tyset, Function.comp_apply, one1, lenV, calleeOf, lateOk, belowV, aop, AV.ofValue, AV.ofCell, AV.cells, AV.flat, AV.one, arep, aBin, aAppend, aConv]
      refine call_v (by kernel_rfl) (is_c hV (hg0 _) hn) ?_
      cases h2 : isB W Hh xs (x + 1) y 0
      · simp -implicitDefEqProofs (disch := omega) only [simprocAttr, amset, tyset, Function.comp_apply, one1, lenV, calleeOf, lateOk, belowV, aop, AV.ofValue, AV.ofCell, AV.cells, AV.flat, AV.one, arep, aBin, aAppend, aConv]
        refine call_v (by kernel_rfl) (is_c hV (hg0 _) hn) ?_
        cases h3 : isB W Hh xs (x - 1) y 0
        · simp -implicitDefEqProofs (disch := omega) only [simprocAttr, amset, tyset, Function.comp_apply, one1, lenV, calleeOf, lateOk, belowV, aop, AV.ofValue, AV.ofCell, AV.cells, AV.flat, AV.one, arep, aBin, aAppend, aConv]
          refine call_v (by kernel_rfl) (is_c hV (hg0 _) hn) ?_
          cases h4 : isB W Hh xs x (y + 1) 0
          · simp -implicitDefEqProofs (disch := omega) only [simprocAttr, amset, tyset, Function.comp_apply, one1, lenV, calleeOf, lateOk, belowV, aop, AV.ofValue, AV.ofCell, AV.cells, AV.flat, AV.one, arep, aBin, aAppend, aConv]
            refine call_v (by kernel_rfl) (is_c hV (hg0 _) hn) ?_
            cases h5 : isB W Hh xs x (y - 1) 0
            · simp -implicitDefEqProofs (disch := omega) only [simprocAttr, amset, tyset, Function.comp_apply, one1, lenV, calleeOf, lateOk, belowV, aop, AV.ofValue, AV.ofCell, AV.cells, AV.flat, AV.one, arep, aBin, aAppend, aConv]
              refine fin0 (by simp [froB, h1, h2, h3, h4, h5]) _ _ ?_
              rcases hO with ⟨-, rfl, rfl⟩ | ⟨-, rfl, rfl⟩
              · exact absT
              exact absT
            rcases hO with ⟨rfl, rfl, rfl⟩ | ⟨hL0, rfl, rfl⟩
            · simp -implicitDefEqProofs (disch := omega) only [simprocAttr, amset, tyset, Function.comp_apply, one1, lenV, calleeOf, lateOk, belowV, aop, AV.ofValue, AV.ofCell, AV.cells, AV.flat, AV.one, arep, aBin, aAppend, aConv]
              refine fin1 (by simp [froB, h1, h2, h3, h4, h5]) _ _ ?_
              exact absT
            simp -implicitDefEqProofs (disch := omega) only [prs_snoc, hLt, simprocAttr, amset, tyset, Function.comp_apply, one1, lenV, calleeOf, lateOk, belowV, aop, AV.ofValue, AV.ofCell, AV.cells, AV.flat, AV.one, arep, aBin, aAppend, aConv]
            repeat refine And.intro (by omega) ?_
            refine fin1 (by simp [froB, h1, h2, h3, h4, h5]) _ _ ?_
            exact absT
          simp -implicitDefEqProofs (disch := omega) only [simprocAttr, amset, tyset, Function.comp_apply, one1, lenV, calleeOf, lateOk, belowV, aop, AV.ofValue, AV.ofCell, AV.cells, AV.flat, AV.one, arep, aBin, aAppend, aConv]
          rcases hO with ⟨rfl, rfl, rfl⟩ | ⟨hL0, rfl, rfl⟩
          · simp -implicitDefEqProofs (disch := omega) only [simprocAttr, amset, tyset, Function.comp_apply, one1, lenV, calleeOf, lateOk, belowV, aop, AV.ofValue, AV.ofCell, AV.cells, AV.flat, AV.one, arep, aBin, aAppend, aConv]
            refine fin1 (by simp [froB, h1, h2, h3, h4]) _ _ ?_
            exact absT
          simp -implicitDefEqProofs (disch := omega) only [prs_snoc, hLt, simprocAttr, amset, tyset, Function.comp_apply, one1, lenV, calleeOf, lateOk, belowV, aop, AV.ofValue, AV.ofCell, AV.cells, AV.flat, AV.one, arep, aBin, aAppend, aConv]
          repeat refine And.intro (by omega) ?_
          refine fin1 (by simp [froB, h1, h2, h3, h4]) _ _ ?_
          exact absT
        simp -implicitDefEqProofs (disch := omega) only [simprocAttr, amset, tyset, Function.comp_apply, one1, lenV, calleeOf, lateOk, belowV, aop, AV.ofValue, AV.ofCell, AV.cells, AV.flat, AV.one, arep, aBin, aAppend, aConv]
        rcases hO with ⟨rfl, rfl, rfl⟩ | ⟨hL0, rfl, rfl⟩
        · simp -implicitDefEqProofs (disch := omega) only [simprocAttr, amset, tyset, Function.comp_apply, one1, lenV, calleeOf, lateOk, belowV, aop, AV.ofValue, AV.ofCell, AV.cells, AV.flat, AV.one, arep, aBin, aAppend, aConv]
          refine fin1 (by simp [froB, h1, h2, h3]) _ _ ?_
          exact absT
        simp -implicitDefEqProofs (disch := omega) only [prs_snoc, hLt, simprocAttr, amset, tyset, Function.comp_apply, one1, lenV, calleeOf, lateOk, belowV, aop, AV.ofValue, AV.ofCell, AV.cells, AV.flat, AV.one, arep, aBin, aAppend, aConv]
        repeat refine And.intro (by omega) ?_
        refine fin1 (by simp [froB, h1, h2, h3]) _ _ ?_
        exact absT
      simp -implicitDefEqProofs (disch := omega) only [simprocAttr, amset, tyset, Function.comp_apply, one1, lenV, calleeOf, lateOk, belowV, aop, AV.ofValue, AV.ofCell, AV.cells, AV.flat, AV.one, arep, aBin, aAppend, aConv]
      rcases hO with ⟨rfl, rfl, rfl⟩ | ⟨hL0, rfl, rfl⟩
      · simp -implicitDefEqProofs (disch := omega) only [simprocAttr, amset, tyset, Function.comp_apply, one1, lenV, calleeOf, lateOk, belowV, aop, AV.ofValue, AV.ofCell, AV.cells, AV.flat, AV.one, arep, aBin, aAppend, aConv]
        refine fin1 (by simp [froB, h1, h2]) _ _ ?_
        exact absT
      simp -implicitDefEqProofs (disch := omega) only [prs_snoc, hLt, simprocAttr, amset, tyset, Function.comp_apply, one1, lenV, calleeOf, lateOk, belowV, aop, AV.ofValue, AV.ofCell, AV.cells, AV.flat, AV.one, arep, aBin, aAppend, aConv]
      repeat refine And.intro (by omega) ?_
      refine fin1 (by simp [froB, h1, h2]) _ _ ?_
      exact absT
    have hxe : x = W.toNat := by omega
    subst hxe
    have hrow : gridP (froB W Hh xs) W.toNat (y + 1) = gridP (froB W Hh xs) W.toNat y ++ rowP (froB W Hh xs) y W.toNat := rfl
    rw [← hrow] at hO
    simp -implicitDefEqProofs (disch := omega) only [hx, simprocAttr, amset, tyset, Function.comp_apply, one1, lenV, calleeOf, lateOk, belowV, aop, AV.ofValue, AV.ofCell, AV.cells, AV.flat, AV.one, arep, aBin, aAppend, aConv]
    refine hJ1 _ _ ⟨Hh.toNat - (y + 1), by omega, _, _, _, ⟨y + 1, s, X, by omega, hO, rfl, rfl⟩, Abs.by hbel [0, 1] (by decide) ?_⟩
    rcases hO with ⟨-, rfl, rfl⟩ | ⟨-, rfl, rfl⟩
    · exact absT
    exact absT
  have hye : y = Hh.toNat := by omega
  subst hye
  have e : gridP (froB W Hh xs) W.toNat Hh.toNat = froL W Hh xs := rfl
  rw [e] at hO
  simp -implicitDefEqProofs (disch := omega) only [hy, simprocAttr, amset, tyset, Function.comp_apply, one1, lenV, calleeOf, lateOk, belowV, aop, AV.ofValue, AV.ofCell, AV.cells, AV.flat, AV.one, arep, aBin, aAppend, aConv]
  rcases hO with ⟨h, rfl, rfl⟩ | ⟨h, rfl, rfl⟩
  · rw [h] at hQ
    exact hQ _ _ (end_plain (.inl rfl) hbel (x := .sl none 0 (some 0)) (resT Try.results22) rfl ⟨rfl, rfl⟩)
  rw [retP_pos h] at hQ
  refine hQ _ _ (end_by (.inl rfl) hbel (x1 := .sl (some (H.length + 1, 0)) (froL W Hh xs).length none) (.sl (some (H.length, 0)) (froL W Hh xs).length none) (resT Try.results22) [1] (by decide) ⟨rfl, rfl⟩ ?_)
  exact absT
end Go.Proofs.Ytcghekjnjbpeoaa
