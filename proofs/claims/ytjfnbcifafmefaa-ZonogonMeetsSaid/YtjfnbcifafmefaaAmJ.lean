/- The abstract machine: append, copy and maps. Conditions: as each theorem states. -/
import Derived.Test.YtjfnbcifafmefaaAmE
import Derived.Laws.BytesString
namespace Go.Proofs.Ytjfnbcifafmefaa
set_option linter.unusedSimpArgs false
set_option linter.unusedVariables false
open Go.RowKit
section
variable {P : Program} {E : Env} {H : AHeap} {w : World}
/-- How many elements, and their cells. -/
def aElems (sz : Nat) (x : AV) (H : AHeap) : Option (Nat × List AV) :=
  match x with
  | .sl none n _ => (need (n = 0)).map fun _ => (0, [])
  | .sl (some (b, o)) n _ => (ards H b o (n * sz)).map fun l => (n, l)
  | _ => none
theorem aElems_spec (h : Emb E H w) {x : AV} {v : Value} (hv : Rel E x v) {sz n : Nat} {xs : List AV} (hx : aElems sz x H = some (n, xs)) :
    xs.length = n * sz ∧ (∀ y ∈ xs, y.one = true) ∧ ∃ vs : List Value, RelL E xs vs ∧ ((v = .slice none 0 0 ∧ n = 0) ∨ ∃ (a : Addr) (c : Nat), v = .slice (some a) n c ∧ n ≤ c ∧ ∀ (j : Nat) (u : Value), vs[j]? = some u → w.cell? (a.add j) = some u) := by
  unfold aElems at hx
  split at hx
  · obtain ⟨rfl, e⟩ := need_of hx
    injection e with e1 e2
    subst e1 e2
    cases hv
    exact ⟨by simp, by simp, [], RelL.nil E, .inl ⟨rfl, rfl⟩⟩
  · rename_i b o m cap
    simp only [Option.map_eq_some_iff] at hx
    obtain ⟨l, hl, e⟩ := hx
    injection e with e1 e2
    subst e1 e2
    cases hv with
    | nils _ _ hb hc =>
      obtain ⟨k1, k2, vs, k3, -⟩ := ards_spec h hl
      exact ⟨k1, k2, vs, k3, .inl ⟨rfl, rfl⟩⟩
    | sl _ _ _ _ c a hb h1 h2 h3 h4 h5 =>
    obtain ⟨k1, k2, vs, k3, k4⟩ := ards_spec h hl
    refine ⟨k1, k2, vs, k3, .inr ⟨a, c, rfl, h1, fun j u hu => ?_⟩⟩
    rcases h4 with rfl | rfl
    · have hm : m = 0 := by omega
      subst hm
      have : vs.length = 0 := by rw [← k3.1, k1]; simp
      have := getElem?_lt hu
      omega
    · rw [add_addr]; exact k4 j u hu
  · cases hx
/-- The memory behind a step that may have written one block of its own, and has made others: a new block is known. -/
theorem Emb.grow (h : Emb E H w) {w' : World} {row : Option Nat} (hg : w.grownBy w' row) (hrow : ∀ k, row = some k → E.B ≤ k) {H1 : AHeap} (hl : H1.length = H.length)
    (hH1 : ∀ (c : Nat) (x : ABlk), H1[c]? = some x → x = .dead ∨ (H[c]? = some x ∧ (x.owned = true → some (E.loc c).blk ≠ row))) (L : Loc) (X : ABlk)
    (hL : BlkOk (E.push L) w' L X) (hne : ∀ c x, H1[c]? = some x → x.owned = true → (E.loc c).blk ≠ L.blk) : Emb (E.push L) (H1 ++ [X]) w' := by
  have hle := E.le_push L
  have lt_own : ∀ c x, H[c]? = some x → x.owned = true → (E.loc c).blk < w.heap.size := fun c x hx ho => by
    have hk := h.blk c x hx
    cases x with
    | dead => cases ho
    | cells own e ys => exact (hk.2.1 ho).2.1
    | map es => exact hk.2.1
  have key : ∀ b x, (H1 ++ [X])[b]? = some x → (b < H.length ∧ H1[b]? = some x ∧ (E.push L).loc b = E.loc b) ∨ (b = H.length ∧ x = X ∧ (E.push L).loc b = L) := by
    intro b x hx
    rw [List.getElem?_append, hl] at hx
    split at hx
    · rename_i hb
      exact .inl ⟨hb, hx, Env.push_old _ _ (by rw [h.n]; exact hb)⟩
    · rename_i hb
      have hb0 : b - H.length = 0 := by
        rcases Nat.eq_zero_or_pos (b - H.length) with h0 | h0
        · exact h0
        · rw [List.getElem?_eq_none (by simp; omega)] at hx; cases hx
      rw [hb0] at hx
      simp at hx
      have hbn : b = H.length := by omega
      exact .inr ⟨hbn, hx.symm, by rw [hbn, ← h.n, Env.push_new]⟩
  refine ⟨by simp [Env.push, h.n, hl], ?_, Nat.le_trans h.base hg.size, fun b x hx => ?_, fun b c x y hx hy ox oy hbc => ?_⟩
  · exact h.below.grown hg h.base hrow
  · rcases key b x hx with ⟨hb, hx, e⟩ | ⟨hb, rfl, e⟩
    · rw [e]
      rcases hH1 b x hx with rfl | ⟨hx', hr⟩
      · trivial
      · exact (h.blk b x hx').mono hle hg.size (fun ho => hg.block _ (lt_own b x hx' ho) (hr ho)) (fun hB => hg.block _ (Nat.lt_of_lt_of_le hB h.base) (fun e => by have := hrow _ e.symm; omega))
    · rw [e]; exact hL
  · rcases key b x hx with ⟨b1, b2, b3⟩ | ⟨b1, b2, b3⟩ <;> rcases key c y hy with ⟨c1, c2, c3⟩ | ⟨c1, c2, c3⟩
    · rw [b3, c3]
      rcases hH1 b x b2 with rfl | ⟨b2, _⟩
      · cases ox
      · rcases hH1 c y c2 with rfl | ⟨c2, _⟩
        · cases oy
        · exact h.inj b c x y b2 c2 ox oy hbc
    · rw [b3, c3]; exact hne b x b2 ox
    · rw [b3, c3]; exact (hne c y c2 oy).symm
    · omega
def aAppend (P : Program) (t : TypeId) (s x : AV) (H : AHeap) : Option (AV × AHeap) :=
  (tElem P t).bind fun e => (tSz P e).bind fun sz => (tBytes P e).bind fun by_ => (tZero P e).bind fun z => (aElems sz x H).bind fun mx =>
    (need (z.length = sz ∧ 0 < sz ∧ 0 < by_)).bind fun _ =>
    match s with
    | .sl none n _ => (need (n = 0)).bind fun _ => bif mx.1 == 0 then some (.sl none 0 (some 0), H) else (need (mx.1 * by_ ≤ 140737488355328)).map fun _ => (.sl (some (H.length, 0)) mx.1 none, H ++ [.cells true sz mx.2])
    | .sl (some (b, o)) n cap => (ards H b o (n * sz)).bind fun olds => (need ((n + mx.1) * by_ ≤ 140737488355328)).bind fun _ =>
      bif n + mx.1 == 0 then some (.sl (some (b, o)) 0 cap, H)
      else bif (match cap with | some c => decide (c < n + mx.1) | none => false) then some (.sl (some (H.length, 0)) (n + mx.1) none, H ++ [.cells true sz (olds ++ mx.2)])
      else match H[b]? with
        | some (.cells true es _) => (need (es = sz)).map fun _ => (.sl (some (H.length, 0)) (n + mx.1) none, H.set b .dead ++ [.cells true sz (olds ++ mx.2)])
        | _ => none
    | _ => none
theorem blk_of_seg {w' : World} {sz n : Nat} {v' : Value} {xs : List AV} {vs : List Value} (hr : RelL E xs vs) (ho : ∀ x ∈ xs, x.one = true) (hs : Seg w' E.B sz v' n vs) (hn : 0 < n) :
    ∃ g off cap, v' = .slice (some ⟨g, off, none⟩) n cap ∧ E.B ≤ g ∧ g < w'.heap.size ∧ n ≤ cap ∧ cap ≤ maxLen ∧ ∀ E', E.le E' → BlkOk E' w' ⟨g, off, cap * sz, sz⟩ (.cells true sz xs) := by
  obtain ⟨h1, h2⟩ := hs
  rcases h2 with ⟨-, h0⟩ | ⟨g, off, cap, rfl, hb, hlt, hnc, hcm, hc, hx⟩
  · omega
  · refine ⟨g, off, cap, rfl, hb, hlt, hnc, hcm, fun E' hle => ⟨fun j x hj => ?_, fun _ => ⟨by rw [hle.B]; exact hb, hlt, rfl, ?_, hc⟩, (fun hf => by cases hf), rfl⟩⟩
    · obtain ⟨v, hv, hrv⟩ := hr.get hj
      exact ⟨ho x (List.mem_of_getElem? hj), v, hx j v hv, hrv.mono hle⟩
    · rw [hr.1, h1]; exact Nat.mul_le_mul_right _ hnc
theorem snd_append (h : Emb E H w) {t ty : TypeId} {s x : AV} {v u : Value} (hv : Rel E s v) (hu : Rel E x u) {r : AV × AHeap} (hr : aAppend P t s x H = some r) : Snd P E w (Builtin.append_ #[t, t] ty #[v, u]) r := by
  unfold aAppend at hr
  obtain ⟨e, he, hr1⟩ := bind_some' hr
  obtain ⟨sz, hs, hr2⟩ := bind_some' hr1
  obtain ⟨by_, hb, hr3⟩ := bind_some' hr2
  obtain ⟨z, hz, hr4⟩ := bind_some' hr3
  obtain ⟨⟨m, news⟩, hm, hr5⟩ := bind_some' hr4
  obtain ⟨⟨n1, n2, n3⟩, hr6⟩ := need_bind hr5
  clear hr hr1 hr2 hr3 hr4 hr5
  obtain ⟨zv, z1, z2, z3, i, z4, z5⟩ := run_zero (w := w) hz
  obtain ⟨i', hi', hby⟩ := run_bytes hb
  rw [z4] at hi'; simp at hi'; subst hi'
  have hsz : i.size = sz := by unfold tSz at hs; rw [z4] at hs; simpa using hs
  have hzl : zv.cells.size = sz := by rw [← n1, z2]; simp
  have ht := tElem_spec he
  obtain ⟨m1, m2, nvs, m3, m4⟩ := aElems_spec h hu hm
  have nvl : nvs.length = m * sz := by rw [← m3.1, m1]
  have none1 : ∀ y ∈ nvs, y.oneCell' = true := fun y hy => by
    obtain ⟨j, hj⟩ := List.mem_iff_getElem?.1 hy
    have hj' : j < news.length := by have := getElem?_lt hj; have := m3.1; omega
    exact (m3.2 j news[j] y (List.getElem?_eq_getElem hj') hj).one (m2 _ (List.getElem_mem hj'))
  have small : ∀ q : Nat, q * by_ ≤ 140737488355328 → q ≤ maxLen := fun q hq => by
    have : q ≤ q * by_ := Nat.le_mul_of_pos_right _ n3
    simp only [maxLen]; omega
  have dead : ∀ b : Nat, ∀ (c : Nat) (y : ABlk), (H.set b .dead)[c]? = some y → y = .dead ∨ (H[c]? = some y ∧ c ≠ b) := fun b c y hy => by
    rw [List.getElem?_set] at hy
    by_cases ebc : b = c
    · rw [if_pos ebc] at hy; split at hy
      · simp at hy; exact .inl hy.symm
      · cases hy
    · rw [if_neg ebc] at hy; exact .inr ⟨hy, fun e => ebc e.symm⟩
  have lt_own : ∀ (c : Nat) (y : ABlk), H[c]? = some y → y.owned = true → (E.loc c).blk < w.heap.size := fun c y hy ho => by
    have hk := h.blk c y hy
    cases y with
    | dead => cases ho
    | cells own e ys => exact (hk.2.1 ho).2.1
    | map es => exact hk.2.1
  simp only at hr6
  split at hr6
  · -- nil
    obtain ⟨rfl, hr⟩ := need_bind hr6
    clear hr6
    cases hv with
    | nilsl =>
    cases hm0 : (m == 0) with
    | true =>
      have hm0' : m = 0 := by simpa using hm0
      rw [hm0] at hr
      simp only [cond_true, Option.some.injEq] at hr
      subst hr
      subst hm0'
      refine .of_run h ?_ .nilsl
      rcases m4 with ⟨rfl, -⟩ | ⟨a, c, rfl, -, -⟩
      · simp [Builtin.append_, run_underlying ht, sizeOf, typeInfo, z4, Builtin.lenOf, Builtin.firstCells]
      · simp [Builtin.append_, run_underlying ht, sizeOf, typeInfo, z4, Builtin.lenOf, Builtin.firstCells, loadCells, loadCellsFrom]
    | false =>
      have hm0' : 0 < m := by simp at hm0; omega
      simp only [hm0, cond_false] at hr
      obtain ⟨hbd, rfl⟩ := need_of hr
      rcases m4 with ⟨-, h0⟩ | ⟨a, c, rfl, -, hcell⟩
      · omega
      · have hseg : Seg w E.B sz (.slice none 0 0) 0 [] := ⟨by simp, .inl ⟨rfl, rfl⟩⟩
        obtain ⟨v', w', hrun, s2, s3, s4⟩ := run_app_seg (P := P) E.B t ty e i zv sz by_ ht z4 z5 hsz hby hzl n2 _ _ _ hseg a m c nvs nvl hcell none1 (by rw [Nat.zero_add]; exact small _ hbd) (by rw [Nat.zero_add]; exact hbd) h.base
        rw [Nat.zero_add, List.nil_append] at s2
        obtain ⟨g, off, cap, rfl, b1, b2, b3, b4, b5⟩ := blk_of_seg (E := E) m3 m2 s2 hm0'
        have hgs : w.heap.size ≤ g := (s4 g rfl).resolve_left (by intro hh; cases hh)
        have hE := h.grow s3 (fun k hk => by cases hk) rfl (fun c y hy => .inr ⟨hy, fun _ hh => by cases hh⟩) ⟨g, off, cap * sz, sz⟩ (.cells true sz news) (b5 _ (E.le_push _)) (fun c y hy ho => by have := lt_own c y hy ho; show (E.loc c).blk ≠ g; omega)
        refine ⟨_, _, _, hrun, E.le_push _, ?_, hE⟩
        have en := Env.push_new E ⟨g, off, cap * sz, sz⟩
        rw [h.n] at en
        exact Rel.sl H.length 0 m none cap _ (by simp [Env.push, h.n]) b3 b4 (.inl rfl) (.inr (by rw [en]; rfl)) (by rw [en]; simp)
  · -- a slice
    rename_i b o n cap
    obtain ⟨olds, hold, hr7⟩ := bind_some' hr6
    obtain ⟨hbd, hr⟩ := need_bind hr7
    clear hr6 hr7
    obtain ⟨o1, o2, ovs, o3, o4⟩ := ards_spec h hold
    have ovl : ovs.length = n * sz := by rw [← o3.1, o1]
    cases hv with
    | nils _ _ hbn hc =>
      have ho0 : olds = [] := List.length_eq_zero_iff.1 (by rw [o1]; simp)
      subst ho0
      rw [Nat.zero_add] at hr hbd
      cases hm0 : (m == 0) with
      | true =>
        have hm0' : m = 0 := by simpa using hm0
        rw [hm0] at hr
        simp only [cond_true, Option.some.injEq] at hr
        subst hr
        subst hm0'
        refine .of_run h ?_ (.nils b cap hbn hc)
        rcases m4 with ⟨rfl, -⟩ | ⟨a, c, rfl, -, -⟩
        · simp [Builtin.append_, run_underlying ht, sizeOf, typeInfo, z4, Builtin.lenOf, Builtin.firstCells]
        · simp [Builtin.append_, run_underlying ht, sizeOf, typeInfo, z4, Builtin.lenOf, Builtin.firstCells, loadCells, loadCellsFrom]
      | false =>
        have hm0' : 0 < m := by simp at hm0; omega
        have fin0 : ∀ (H1 : AHeap), H1.length = H.length → (∀ (c : Nat) (x : ABlk), H1[c]? = some x → x = .dead ∨ H[c]? = some x) → Snd P E w (Builtin.append_ #[t, t] ty #[.slice none 0 0, u]) (.sl (some (H.length, 0)) m none, H1 ++ [.cells true sz news]) := fun H1 hl1 hH1 => by
          rcases m4 with ⟨-, h0⟩ | ⟨a, c, rfl, -, hcell⟩
          · omega
          · have hseg : Seg w E.B sz (.slice none 0 0) 0 [] := ⟨by simp, .inl ⟨rfl, rfl⟩⟩
            obtain ⟨v', w', hrun, s2, s3, s4⟩ := run_app_seg (P := P) E.B t ty e i zv sz by_ ht z4 z5 hsz hby hzl n2 _ _ _ hseg a m c nvs nvl hcell none1 (by rw [Nat.zero_add]; exact small _ hbd) (by rw [Nat.zero_add]; exact hbd) h.base
            rw [Nat.zero_add, List.nil_append] at s2
            obtain ⟨g, off, cap, rfl, b1, b2, b3, b4, b5⟩ := blk_of_seg (E := E) m3 m2 s2 hm0'
            have hgs : w.heap.size ≤ g := (s4 g rfl).resolve_left (by intro hh; cases hh)
            have hE := h.grow s3 (fun k hk => by cases hk) hl1 (fun c y hy => (hH1 c y hy).imp id fun hh => ⟨hh, fun _ hh' => by cases hh'⟩) ⟨g, off, cap * sz, sz⟩ (.cells true sz news) (b5 _ (E.le_push _)) (fun c y hy ho => by
              rcases hH1 c y hy with rfl | hy'
              · cases ho
              · have := lt_own c y hy' ho; show (E.loc c).blk ≠ g; omega)
            refine ⟨_, _, _, hrun, E.le_push _, ?_, hE⟩
            have en := Env.push_new E ⟨g, off, cap * sz, sz⟩
            rw [h.n] at en
            exact Rel.sl H.length 0 m none cap _ (by simp [Env.push, h.n]) b3 b4 (.inl rfl) (.inr (by rw [en]; rfl)) (by rw [en]; simp)
        simp only [hm0, cond_false, List.nil_append] at hr
        cases hgrow : (match cap with | some c => decide (c < m) | none => false) with
        | true =>
          rw [hgrow] at hr
          simp only [cond_true, Option.some.injEq] at hr
          subst hr
          exact fin0 H rfl fun c y hy => .inr hy
        | false =>
          rw [hgrow] at hr
          simp only [cond_false] at hr
          split at hr
          · obtain ⟨rfl, rfl⟩ := need_of hr
            exact fin0 _ (by simp) fun c y hy => (dead b c y hy).imp id (·.1)
          · cases hr
    | sl _ _ _ _ c a hbn h1 h2 h3 h4 h5 =>
    have hcat : RelL E (olds ++ news) (ovs ++ nvs) := o3.append m3
    have hone : ∀ y ∈ olds ++ news, y.one = true := fun y hy => (List.mem_append.1 hy).elim (o2 y) (m2 y)
    have holds : ∀ (j : Nat) (y : Value), ovs[j]? = some y → w.cell? (a.add j) = some y := fun j y hj => by
      rcases h4 with rfl | rfl
      · have hn0 : n = 0 := by omega
        subst hn0
        have := getElem?_lt hj
        rw [ovl] at this; omega
      · rw [add_addr]; exact o4 j y hj
    have fin : ∀ (H1 : AHeap) (v' : Value) (w' : World) (row : Option Nat) (base : Nat), E.B ≤ base → (Builtin.append_ #[t, t] ty #[.slice (some a) n c, u]).run P w = .ok v' w' → 0 < n + m → Seg w' E.B sz v' (n + m) (ovs ++ nvs) → w.grownBy w' row →
        (∀ k, row = some k → E.B ≤ k) → H1.length = H.length → (∀ (c : Nat) (x : ABlk), H1[c]? = some x → x = .dead ∨ (H[c]? = some x ∧ (x.owned = true → some (E.loc c).blk ≠ row))) → (∀ g, v'.ownBlock = some g → some g = row ∨ w.heap.size ≤ g) →
        Snd P E w (Builtin.append_ #[t, t] ty #[.slice (some a) n c, u]) (.sl (some (H.length, 0)) (n + m) none, H1 ++ [.cells true sz (olds ++ news)]) := by
      intro H1 v' w' row base hB hrun hpos s2 s3 hrow hlen hH1 hown
      obtain ⟨g, off, cap', rfl, b1, b2, b3, b4, b5⟩ := blk_of_seg (E := E) hcat hone s2 hpos
      have hE := h.grow s3 hrow hlen hH1 ⟨g, off, cap' * sz, sz⟩ (.cells true sz (olds ++ news)) (b5 _ (E.le_push _)) (fun d y hy ho => by
        show (E.loc d).blk ≠ g
        rcases hH1 d y hy with rfl | ⟨hy', hr'⟩
        · cases ho
        · rcases hown g rfl with hg' | hg'
          · intro e'; exact hr' ho (by rw [e']; exact hg')
          · have := lt_own d y hy' ho; omega)
      refine ⟨_, _, _, hrun, E.le_push _, ?_, hE⟩
      have en := Env.push_new E ⟨g, off, cap' * sz, sz⟩
      rw [h.n] at en
      exact Rel.sl H.length 0 (n + m) none cap' _ (by simp [Env.push, h.n]) b3 b4 (.inl rfl) (.inr (by rw [en]; rfl)) (by rw [en]; simp)
    have same : H.length = H.length ∧ ∀ (c : Nat) (x : ABlk), H[c]? = some x → x = .dead ∨ (H[c]? = some x ∧ (x.owned = true → some (E.loc c).blk ≠ none)) := ⟨rfl, fun c x hx => .inr ⟨hx, fun _ hh => by cases hh⟩⟩
    -- it grows
    have grows : c < n + m → Snd P E w (Builtin.append_ #[t, t] ty #[.slice (some a) n c, u]) (.sl (some (H.length, 0)) (n + m) none, H ++ [.cells true sz (olds ++ news)]) := fun hc => by
      rcases m4 with ⟨-, h0⟩ | ⟨ad, c', rfl, -, hcell⟩
      · omega
      · obtain ⟨v', w', hrun, s2, s3⟩ := run_append_arg_grows (P := P) w t ty e i zv sz by_ ht z4 z5 hsz hby hzl n2 a n c ovs ovl holds ad m c' nvs nvl hcell hc (small _ hbd) hbd
        exact fin H v' w' none w.heap.size h.base hrun (by omega) (Seg.of_own (own_base s2 h.base)) s3 (fun k hk => by cases hk) same.1 same.2 (fun g hg => .inr (s2.lt g hg).1)
    -- nothing is appended to an empty one
    cases hz0 : (n + m == 0) with
    | true =>
      rw [hz0] at hr
      simp only [cond_true, Option.some.injEq] at hr
      subst hr
      have hz0' : n + m = 0 := by simpa using hz0
      obtain ⟨rfl, rfl⟩ : n = 0 ∧ m = 0 := by omega
      refine .of_run h (v := .slice (some a) 0 c) ?_ (.sl b o 0 cap c a hbn h1 h2 h3 h4 h5)
      rcases m4 with ⟨rfl, -⟩ | ⟨a', c', rfl, -, -⟩
      · simp [Builtin.append_, run_underlying ht, sizeOf, typeInfo, z4, Builtin.lenOf, Builtin.firstCells, storeCells]
      · simp [Builtin.append_, run_underlying ht, sizeOf, typeInfo, z4, Builtin.lenOf, Builtin.firstCells, loadCells, loadCellsFrom, storeCells]
    | false =>
    rw [hz0] at hr
    simp only [cond_false] at hr
    have hpos : 0 < n + m := by simp at hz0; omega
    cases hgrow : (match cap with | some c => decide (c < n + m) | none => false) with
    | true =>
      rw [hgrow] at hr
      simp only [cond_true, Option.some.injEq] at hr
      subst hr
      cases cap with
      | none => cases hgrow
      | some c0 =>
        have : c0 = c := by simpa using h3
        subst this
        exact grows (by simpa using hgrow)
    | false =>
      rw [hgrow] at hr
      simp only [cond_false] at hr
      split at hr
      · rename_i es xs hbb
        obtain ⟨rfl, rfl⟩ := need_of hr
        obtain ⟨q1, q2, q3, q4⟩ := h.blk b _ hbb
        obtain ⟨p1, p2, p3, p4, p5⟩ := q2 rfl
        by_cases hc0 : c = 0
        · -- it grows: the elder block is forgotten all the same
          have hcg : c < n + m := by omega
          rcases m4 with ⟨-, h0⟩ | ⟨ad, c', rfl, -, hcell⟩
          · omega
          · obtain ⟨v', w', hrun, s2, s3⟩ := run_append_arg_grows (P := P) w t ty e i zv es by_ ht z4 z5 hsz hby hzl n2 a n c ovs ovl holds ad m c' nvs nvl hcell hcg (small _ hbd) hbd
            exact fin (H.set b .dead) v' w' none w.heap.size h.base hrun (by omega) (Seg.of_own (own_base s2 h.base)) s3 (fun k hk => by cases hk) (by simp) (fun d y hy => (dead b d y hy).imp id (fun hh => ⟨hh.1, fun _ hh' => by cases hh'⟩)) (fun g hg => .inr (s2.lt g hg).1)
        · obtain rfl := h4.resolve_left hc0
          rw [p3] at h5
          have hseg : Seg w E.B es (.slice (some ⟨(E.loc b).blk, (E.loc b).off + o, none⟩) n c) n ovs := by
            refine ⟨ovl, .inr ⟨_, _, c, rfl, p1, p2, h1, h2, fun j hj => ?_, fun j y hy => ?_⟩⟩
            · have := p5 (o + j) (by omega)
              rwa [← Nat.add_assoc] at this
            · have := holds j y hy
              rwa [add_addr] at this
          rcases m4 with ⟨rfl, rfl⟩ | ⟨ad, c', rfl, -, hcell⟩
          · -- nil is appended
            have hnv : nvs = [] := List.length_eq_zero_iff.1 (by rw [nvl]; simp)
            subst hnv
            have hrun : (Builtin.append_ #[t, t] ty #[.slice (some ⟨(E.loc b).blk, (E.loc b).off + o, none⟩) n c, .slice none 0 0]).run P w = .ok (.slice (some ⟨(E.loc b).blk, (E.loc b).off + o, none⟩) n c) w := by
              simp [Builtin.append_, run_underlying ht, sizeOf, typeInfo, z4, Builtin.lenOf, Builtin.firstCells, storeCells, h1]
            refine fin (H.set b .dead) _ w (some (E.loc b).blk) E.B (Nat.le_refl _) hrun hpos (by simpa using hseg) ⟨rfl, rfl, rfl, Nat.le_refl _, fun _ _ _ => rfl⟩ (fun k hk => by simp at hk; omega) (by simp) (fun d y hy => (dead b d y hy).imp id (fun hh => ⟨hh.1, fun ho hh' => h.inj d b y _ hh.1 hbb ho rfl hh.2 (by simpa using hh')⟩)) (fun g hg => .inl hg.symm)
          · obtain ⟨v', w', hrun, s2, s3, s4⟩ := run_app_seg (P := P) E.B t ty e i zv es by_ ht z4 z5 hsz hby hzl n2 _ _ _ hseg ad m c' nvs nvl hcell none1 (small _ hbd) hbd h.base
            refine fin (H.set b .dead) v' w' (some (E.loc b).blk) E.B (Nat.le_refl _) hrun hpos s2 s3 (fun k hk => by simp at hk; omega) (by simp) (fun d y hy => (dead b d y hy).imp id (fun hh => ⟨hh.1, fun ho hh' => h.inj d b y _ hh.1 hbb ho rfl hh.2 (by simpa using hh')⟩)) (fun g hg => (s4 g hg).imp (fun e => by simpa [Value.ownBlock] using e.symm) id)
      · cases hr
  · cases hr6
end
end Go.Proofs.Ytjfnbcifafmefaa
/- The abstract machine: maps with keys that are structs of numbers; copy. Conditions: as each theorem states. -/
namespace Go.Proofs.Ytjfnbcifafmefaa
open Go.RowKit
section
variable {P : Program} {E : Env} {H : AHeap} {w : World}
def tMap (P : Program) (t : TypeId) : Option (TypeId × TypeId) :=
  match P.underlying t with
  | some (.map k e) => (match P.underlying k with | some (.struct _) => some (k, e) | _ => none)
  | _ => none
theorem tMap_spec {t k e : TypeId} (h : tMap P t = some (k, e)) : P.underlying t = some (.map k e) ∧ ∃ fs, P.underlying k = some (.struct fs) := by
  unfold tMap at h
  split at h
  · rename_i k' e' hu
    split at h
    · rename_i fs hk
      injection h with h; injection h with h1 h2
      subst h1 h2
      exact ⟨hu, fs, hk⟩
    · cases h
  · cases h
/-- Where a key is found. -/
def aFind (P : Program) (kt : TypeId) (ks : List AV) : List (AV × AV) → Option (Option (Nat × AV))
  | [] => some none
  | (.agg ks', v) :: r => (aEq P 20 kt ks ks').bind fun b => bif b then some (some (0, v)) else (aFind P kt ks r).map fun o => o.map fun p => (p.1 + 1, p.2)
  | _ => none
/-- Cells that are the same numbers. -/
def sameInts : List AV → List AV → Bool
  | [], [] => true
  | .int k a :: r, .int k' b :: s => decide (k = k') && (decide (a = b) && sameInts r s)
  | _, _ => false
theorem sameInts_eq : ∀ {xs ys : List AV}, sameInts xs ys = true → xs = ys
  | [], [], _ => rfl
  | .int k a :: r, .int k' b :: s, h => by
    simp [sameInts] at h
    obtain ⟨rfl, rfl, h⟩ := h
    rw [sameInts_eq h]
  | [], .int _ _ :: _, h => by simp [sameInts] at h
  | [], .any :: _, h => by simp [sameInts] at h
theorem sameInts_rel : ∀ {xs ys : List AV} {vs us : List Value}, sameInts xs ys = true → RelL E xs vs → RelL E ys us → vs = us
  | [], [], vs, us, _, h1, h2 => by
    have e1 := List.length_eq_zero_iff.1 h1.1.symm
    have e2 := List.length_eq_zero_iff.1 h2.1.symm
    rw [e1, e2]
  | .int k a :: r, .int k' b :: s, vs, us, h, h1, h2 => by
    simp [sameInts] at h
    obtain ⟨rfl, rfl, h⟩ := h
    match vs, us, h1, h2 with
    | v :: vs, u :: us, h1, h2 =>
      obtain ⟨a1, a2⟩ := h1.uncons
      obtain ⟨b1, b2⟩ := h2.uncons
      cases a1; cases b1
      rw [sameInts_rel h a2 b2]
/-- A key: a struct of numbers. -/
def aKey (P : Program) (kt : TypeId) (k : AV) : Option (List AV) :=
  match k with
  | .agg xs => (aEq P 20 kt xs xs).bind fun _ => (need (sameInts xs xs = true)).map fun _ => xs
  | _ => none
theorem run_checkKey (em : Bool) : ∀ (d : Nat) (t : TypeId) (xs : List AV) (vs : List Value) (v : Value) (r : Bool), aEq P d t xs xs = some r → RelL E xs vs → ofCells P t vs v → ∀ D w, (Instr.checkKey em (d + D) t v).run P w = .ok () w
  | 0, _, _, _, _, _, h, _, _, _, _ => by simp [aEq] at h
  | d + 1, t, xs, vs, v, r, h, hx, hv, D, w => by
    rw [show d + 1 + D = (d + D) + 1 by omega]
    unfold aEq at h
    unfold ofCells at hv
    cases ht : P.underlying t with
    | none => rw [ht] at h; cases h
    | some td =>
      rw [ht] at h
      rw [tAgg_of ht] at hv
      cases td <;> try (simp at h; done)
      · simp only [dAgg, Option.some.injEq, Bool.false_eq_true, if_false] at hv
        simp [Instr.checkKey, run_underlying ht]
      · simp [Instr.checkKey, run_underlying ht]
      · simp [Instr.checkKey, run_underlying ht]
      · rename_i fs
        simp only [dAgg, if_true] at hv
        subst hv
        simp only at h
        split at h
        · cases h
        · simp only [Instr.checkKey, Sem.run_bind, run_underlying ht, Result.andThen_ok]
          rw [← Array.forIn_toList]
          clear ht
          generalize fs.toList = l at h ⊢
          induction l generalizing r with
          | nil => simp
          | cons f l ih =>
            simp only [List.foldr_cons] at h
            obtain ⟨r', hr', h⟩ := bind_some' h
            split at h
            · cases h
            · rename_i hname
              obtain ⟨n, hn, h⟩ := bind_some' h
              simp only [Option.map_eq_some_iff] at h
              obtain ⟨b, hb, rfl⟩ := h
              have hg : ∃ g, tAgg P f.type = some g ∧ (g = false → ((xs.drop f.offset).take n).length = 1) := by
                cases d with
                | zero => simp [aEq] at hb
                | succ d' =>
                  unfold aEq at hb
                  cases hft : P.underlying f.type with
                  | none => rw [hft] at hb; cases hb
                  | some fd =>
                    rw [tAgg_of hft]
                    rw [hft] at hb
                    refine ⟨_, rfl, fun hgf => ?_⟩
                    cases fd <;> try (simp [dAgg] at hgf; done)
                    all_goals (simp only at hb; try (cases hb; done))
                    all_goals (split at hb <;> first | (cases hb; done) | (rename_i e1 e2; rw [e1]; rfl))
              obtain ⟨g, hg0, hg1⟩ := hg
              have hpart : ∃ x, (part f.type vs.toArray f.offset).run P w = .ok x w ∧ ofCells P f.type ((vs.drop f.offset).take n) x := by
                cases g
                · obtain ⟨x, hxx⟩ := List.length_eq_one_iff.1 (hg1 rfl)
                  obtain ⟨y, hy, hxy⟩ := relL_single (by rw [← hxx]; exact (hx.drop f.offset).take n)
                  refine ⟨y, run_part (w := w) hg0 ?_, ?_⟩
                  · have h0 := congrArg (·[0]?) hy
                    simp only [List.getElem?_cons_zero] at h0
                    rw [List.getElem?_take] at h0
                    split at h0
                    · simpa using h0
                    · cases h0
                  · unfold ofCells; rw [hg0]; simp [hy]
                · refine ⟨_, run_part (w := w) hg0 (by simp only [if_true]; exact ⟨n, hn, rfl⟩), ?_⟩
                  unfold ofCells
                  rw [hg0]
                  simp [List.extract_eq_take_drop]
              obtain ⟨x, p1, p2⟩ := hpart
              have hrun := run_checkKey em d f.type _ _ x b hb ((hx.drop f.offset).take n) p2 D w
              simp only [List.forIn_cons, Sem.run_bind, hname, ne_eq, not_false_eq_true, if_true, p1, Result.andThen_ok, hrun, Sem.run_pure]
              exact ih r' hr'
theorem aKey_spec {kt : TypeId} {k : AV} {xs : List AV} (h : aKey P kt k = some xs) : k = .agg xs ∧ sameInts xs xs = true ∧ ∃ r, aEq P 20 kt xs xs = some r := by
  unfold aKey at h
  split at h
  · obtain ⟨r, hr, h⟩ := bind_some' h
    obtain ⟨h1, rfl⟩ := need_of h
    exact ⟨rfl, h1, r, hr⟩
  · cases h
theorem rel_agg_inv {xs : List AV} {v : Value} (h : Rel E (.agg xs) v) : ∃ vs : List Value, v = .agg vs.toArray ∧ RelL E xs vs := by
  cases h with
  | agg _ cs hl hc => exact ⟨cs.toList, by simp, RelL.of_agg (.agg xs cs hl hc)⟩
theorem run_findAsking {kt : TypeId} {fs : Array Field} (hkt : P.underlying kt = some (.struct fs)) {ks : List AV} {kvs : List Value} (hk : RelL E ks kvs) : ∀ (es : List (AV × AV)) (ents : List MapEntry) (o : Option (Nat × AV)) (i : Nat),
    RelL E (es.map (·.1)) (ents.map (·.key)) → RelL E (es.map (·.2)) (ents.map (·.val)) → aFind P kt ks es = some o →
    ∃ o' : Option (Nat × Value), (Instr.findAsking kt (.agg kvs.toArray) ents i).run P w = .ok o' w ∧ (o = none → o' = none) ∧ (∀ j x, o = some (j, x) → ∃ v, o' = some (i + j, v) ∧ Rel E x v)
  | [], ents, o, i, h1, h2, h => by
    have : ents = [] := by simpa using (List.length_eq_zero_iff.1 h1.1.symm)
    subst this
    simp [aFind] at h
    subst h
    exact ⟨none, by simp [Instr.findAsking], fun _ => rfl, fun j x e => by cases e⟩
  | (k', v) :: es, [], o, i, h1, h2, h => by have := h1.1; simp at this
  | (k', v) :: es, e :: ents, o, i, h1, h2, h => by
    simp only [List.map_cons] at h1 h2
    obtain ⟨a1, a2⟩ := h1.uncons
    obtain ⟨b1, b2⟩ := h2.uncons
    unfold aFind at h
    split at h
    · rename_i e1; cases e1
    · rename_i ks' v' r e1
      injection e1 with e1 e2
      injection e1 with e1 e3
      subst e1 e2 e3
      obtain ⟨b, hb, h⟩ := bind_some' h
      obtain ⟨us, hus, husr⟩ := rel_agg_inv a1
      have hag : tAgg P kt = some true := by rw [tAgg_of hkt]; rfl
      have heq : (Op.equal kt (.agg kvs.toArray) e.key).run P w = .ok b w := by
        rw [hus]
        exact run_aEq 20 kt _ _ _ _ _ _ b hb hk husr (by unfold ofCells; rw [if_pos hag]) (by unfold ofCells; rw [if_pos hag]) 9980 w
      cases b with
      | true =>
        simp at h
        subst h
        exact ⟨some (i, e.val), by simp [Instr.findAsking, heq], (fun hh => by cases hh), fun j x hh => by simp at hh; obtain ⟨rfl, rfl⟩ := hh; exact ⟨_, rfl, b1⟩⟩
      | false =>
        simp only [cond_false, Option.map_eq_some_iff] at h
        obtain ⟨o1, ho1, rfl⟩ := h
        obtain ⟨o', q1, q2, q3⟩ := run_findAsking hkt hk es ents o1 (i + 1) a2 b2 ho1
        refine ⟨o', by simp [Instr.findAsking, heq, q1], fun hh => q2 (by cases o1 <;> simp_all), fun j x hh => ?_⟩
        cases o1 with
        | none => cases hh
        | some p =>
          simp at hh
          obtain ⟨rfl, rfl⟩ := hh
          obtain ⟨u, hu, hru⟩ := q3 p.1 p.2 rfl
          exact ⟨u, by rw [hu]; congr 2; omega, hru⟩
    · cases h
theorem run_findKey {kt : TypeId} {fs : Array Field} (hkt : P.underlying kt = some (.struct fs)) {ks : List AV} {kvs : List Value} (hk : RelL E ks kvs) {es : List (AV × AV)} {ents : List MapEntry} {o : Option (Nat × AV)}
    (h1 : RelL E (es.map (·.1)) (ents.map (·.key))) (h2 : RelL E (es.map (·.2)) (ents.map (·.val))) (h : aFind P kt ks es = some o) :
    ∃ o' : Option (Nat × Value), (Instr.findKey kt (.agg kvs.toArray) ents).run P w = .ok o' w ∧ (o = none → o' = none) ∧ (∀ j x, o = some (j, x) → ∃ v, o' = some (j, v) ∧ Rel E x v) := by
  unfold Instr.findKey
  simp only [Sem.run_bind, run_underlying hkt, Result.andThen_ok]
  cases ents with
  | nil =>
    have : es = [] := by simpa using (List.length_eq_zero_iff.1 h1.1)
    subst this
    simp [aFind] at h
    subst h
    exact ⟨none, by simp [Instr.findNow], fun _ => rfl, fun j x e => by cases e⟩
  | cons e ents =>
    have hn : Instr.findNow (.struct fs) (.agg kvs.toArray) (e :: ents) 0 = none := by simp [Instr.findNow, Instr.sameNow]
    rw [hn]
    obtain ⟨o', q1, q2, q3⟩ := run_findAsking (w := w) hkt hk es (e :: ents) o 0 h1 h2 h
    exact ⟨o', q1, q2, fun j x hh => by obtain ⟨v, hv, hr⟩ := q3 j x hh; exact ⟨v, by rw [hv]; simp, hr⟩⟩
/-- The entries of a map. -/
def aEnts (H : AHeap) (m : AV) : Option (List (AV × AV)) :=
  match m with
  | .mp none => some []
  | .mp (some b) => (match H[b]? with | some (.map es) => some es | _ => none)
  | _ => none
def zeroAV (P : Program) (t : TypeId) : Option AV := (tZero P t).bind fun z => (tAgg P t).bind fun g => bif g then some (.agg z) else (match z with | [x] => some x | _ => none)
theorem zeroAV_spec {t : TypeId} {x : AV} (h : zeroAV P t = some x) (hz : ∀ z : Value, (P.info? t).bind (·.zero) = some z → (tAgg P t = some true → ∃ cs, z = .agg cs) ∧ (tAgg P t = some false → ∀ cs, z ≠ .agg cs)) : ∃ v, (zeroValue t).run P w = .ok v w ∧ Rel E x v := by
  unfold zeroAV at h
  obtain ⟨z, hz1, h⟩ := bind_some' h
  obtain ⟨g, hg, h⟩ := bind_some' h
  obtain ⟨zv, z1, z2, z3, i, z4, z5⟩ := run_zero (w := w) hz1
  have hzz := hz zv (by simp [z4, z5])
  refine ⟨zv, z1, ?_⟩
  cases g
  · simp only [cond_false] at h
    split at h
    · simp at h; subst h
      have hne := hzz.2 hg
      have hc : zv.cells = #[zv] := by cases zv <;> first | rfl | (exact absurd rfl (hne _))
      rw [hc] at z2
      simp at z2
      subst z2
      exact rel_ofCell E zv
    · cases h
  · simp only [cond_true, Option.some.injEq] at h
    subst h
    obtain ⟨cs, rfl⟩ := hzz.1 hg
    have := (relL_map_ofCell E cs.toList).agg
    rw [z2]
    simpa [Value.cells] using this
/-- The zero value has its type's form. -/
def tZeroOk (P : Program) (t : TypeId) : Bool :=
  match (P.info? t).bind (·.zero), tAgg P t with
  | some (.agg _), some true => true
  | some (.agg _), some false => false
  | some _, some false => true
  | _, _ => false
def aLookup (P : Program) (t : TypeId) (m k : AV) (ok : Bool) (H : AHeap) : Option AV :=
  (tMap P t).bind fun p => (aEnts H m).bind fun es => (aKey P p.1 k).bind fun ks => (aFind P p.1 ks es).bind fun o => (need (tZeroOk P p.2 = true)).bind fun _ => (zeroAV P p.2).map fun z =>
    match o with
    | some q => bif ok then .tup [q.2, .bool true] else q.2
    | none => bif ok then .tup [z, .bool false] else z
theorem aEnts_spec (h : Emb E H w) {m : AV} {v : Value} (hv : Rel E m v) {es : List (AV × AV)} (he : aEnts H m = some es) :
    ∃ ents : List MapEntry, RelL E (es.map (·.1)) (ents.map (·.key)) ∧ RelL E (es.map (·.2)) (ents.map (·.val)) ∧ ((v = .map none ∧ ents = []) ∨ ∃ b clock, m = .mp (some b) ∧ v = .map (some (E.loc b).blk) ∧ w.heap[(E.loc b).blk]? = some (.map ents.toArray clock)) := by
  unfold aEnts at he
  split at he
  · simp at he; subst he
    cases hv
    exact ⟨[], by simpa using RelL.nil E, by simpa using RelL.nil E, .inl ⟨rfl, rfl⟩⟩
  · rename_i b
    split at he
    · rename_i es' hb
      simp at he; subst he
      cases hv with
      | mp _ hbn =>
      obtain ⟨k1, k2, ents, clock, k3, k4, k5⟩ := h.blk b _ hb
      exact ⟨ents.toList, k4, k5, .inr ⟨b, clock, rfl, rfl, by simpa using k3⟩⟩
    · cases he
  · cases he
theorem snd_lookup (h : Emb E H w) {t : TypeId} {m k : AV} {mv kv : Value} (hm : Rel E m mv) (hk : Rel E k kv) {ok : Bool} {r : AV} (hr : aLookup P t m k ok H = some r) : Snd P E w (Instr.lookup t mv kv ok) (r, H) := by
  unfold aLookup at hr
  obtain ⟨⟨kt, et⟩, ht, hr1⟩ := bind_some' hr
  obtain ⟨es, hes, hr2⟩ := bind_some' hr1
  obtain ⟨ks, hks, hr3⟩ := bind_some' hr2
  obtain ⟨o, ho, hr4⟩ := bind_some' hr3
  obtain ⟨hzo, hr5⟩ := need_bind hr4
  simp only [Option.map_eq_some_iff] at hr5
  obtain ⟨z, hz, hr6⟩ := hr5
  obtain ⟨hu, fs, hkt⟩ := tMap_spec ht
  obtain ⟨rfl, -, q, hq⟩ := aKey_spec hks
  obtain ⟨kvs, rfl, hkr⟩ := rel_agg_inv hk
  obtain ⟨ents, e1, e2, e3⟩ := aEnts_spec h hm hes
  have hag : tAgg P kt = some true := by rw [tAgg_of hkt]; rfl
  obtain ⟨o', q1, q2, q3⟩ := run_findKey (w := w) hkt hkr e1 e2 ho
  have hck : ∀ em, (Instr.checkKey em 10000 kt (.agg kvs.toArray)).run P w = .ok () w := fun em => run_checkKey em 20 kt ks kvs _ q hq hkr (by unfold ofCells; rw [if_pos hag]) 9980 w
  obtain ⟨zv, z1, z2⟩ := zeroAV_spec (E := E) (w := w) hz (fun zv hzv => by
    unfold tZeroOk at hzo
    simp only at hzo
    rw [hzv] at hzo
    constructor
    · intro hg; rw [hg] at hzo; cases zv <;> simp at hzo; exact ⟨_, rfl⟩
    · intro hg cs hcs; subst hcs; rw [hg] at hzo; simp at hzo)
  clear hr hr1 hr2 hr3 hr4
  have go : ∀ (x : Value) (y : AV), Rel E y x → ((mv = .map none ∧ ents = []) ∨ (∃ b clock, mv = .map (some b) ∧ w.heap[b]? = some (.map ents.toArray clock)) → (Instr.lookup t mv (.agg kvs.toArray) ok).run P w = .ok x w) → Snd P E w (Instr.lookup t mv (.agg kvs.toArray) ok) (y, H) := fun x y hy hx =>
    .of_run h (hx (e3.imp id fun ⟨b, clock, _, e, hh⟩ => ⟨_, clock, e, hh⟩)) hy
  cases o with
  | none =>
    have := q2 rfl
    subst this
    simp only at hr6
    subst hr6
    cases ok
    · refine go zv _ z2 ?_
      rintro (⟨rfl, rfl⟩ | ⟨b, clock, rfl, hheap⟩)
      · simp [Instr.lookup, run_underlying hu, hck, q1, z1]
      · have hget : (getObj b).run P w = .ok (.map ents.toArray clock) w := by simp [getObj, Sem.run, hheap]
        simp [Instr.lookup, run_underlying hu, hget, hck, q1, z1]
    · refine go (.tuple #[zv, .bool false]) _ ((RelL.cons z2 (.cons (.bool false) (.nil E))).tup) ?_
      rintro (⟨rfl, rfl⟩ | ⟨b, clock, rfl, hheap⟩)
      · simp [Instr.lookup, run_underlying hu, hck, q1, z1]
      · have hget : (getObj b).run P w = .ok (.map ents.toArray clock) w := by simp [getObj, Sem.run, hheap]
        simp [Instr.lookup, run_underlying hu, hget, hck, q1, z1]
  | some p =>
    obtain ⟨v, rfl, hv⟩ := q3 p.1 p.2 rfl
    simp only at hr6
    subst hr6
    cases ok
    · refine go v _ hv ?_
      rintro (⟨rfl, rfl⟩ | ⟨b, clock, rfl, hheap⟩)
      · simp [Instr.lookup, run_underlying hu, hck, q1]
      · have hget : (getObj b).run P w = .ok (.map ents.toArray clock) w := by simp [getObj, Sem.run, hheap]
        simp [Instr.lookup, run_underlying hu, hget, hck, q1]
    · refine go (.tuple #[v, .bool true]) _ ((RelL.cons hv (.cons (.bool true) (.nil E))).tup) ?_
      rintro (⟨rfl, rfl⟩ | ⟨b, clock, rfl, hheap⟩)
      · simp [Instr.lookup, run_underlying hu, hck, q1]
      · have hget : (getObj b).run P w = .ok (.map ents.toArray clock) w := by simp [getObj, Sem.run, hheap]
        simp [Instr.lookup, run_underlying hu, hget, hck, q1]
end
end Go.Proofs.Ytjfnbcifafmefaa
/- The abstract machine: maps written, lengths, copy, small builtins. Conditions: as each theorem states. -/
namespace Go.Proofs.Ytjfnbcifafmefaa
open Go.RowKit
section
variable {P : Program} {E : Env} {H : AHeap} {w : World}
theorem Emb.drew (h : Emb E H w) : Emb E H w.drew := ⟨h.n, h.below.drew, h.base, h.blk, h.inj⟩
theorem Emb.setMap (h : Emb E H w) {b : Nat} {es es' : List (AV × AV)} (hb : H[b]? = some (.map es)) {ents : Array MapEntry} (clock : Nat) (h1 : RelL E (es'.map (·.1)) (ents.toList.map (·.key))) (h2 : RelL E (es'.map (·.2)) (ents.toList.map (·.val))) :
    Emb E (H.set b (.map es')) { w with heap := w.heap.setIfInBounds (E.loc b).blk (.map ents clock) } := by
  obtain ⟨k1, k2, -⟩ := h.blk b _ hb
  have hbl := getElem?_lt hb
  have hother : ∀ k, k ≠ (E.loc b).blk → ({ w with heap := w.heap.setIfInBounds (E.loc b).blk (.map ents clock) } : World).heap[k]? = w.heap[k]? := fun k hk => by
    simp only; rw [Array.getElem?_setIfInBounds_ne (by omega)]
  have hget : ∀ c x, (H.set b (.map es'))[c]? = some x → (c = b ∧ x = .map es') ∨ (c ≠ b ∧ H[c]? = some x) := fun c x hx => by
    rw [List.getElem?_set] at hx
    by_cases e : b = c
    · subst e; simp [hbl] at hx; exact .inl ⟨rfl, hx.symm⟩
    · rw [if_neg e] at hx; exact .inr ⟨fun e' => e e'.symm, hx⟩
  refine ⟨by simp [h.n], h.below.trans ⟨rfl, rfl, rfl, by simp, fun k hk => hother k (by omega)⟩, by simpa using h.base, fun c x hx => ?_, fun c d x y hx hy ox oy hcd => ?_⟩
  · rcases hget c x hx with ⟨rfl, rfl⟩ | ⟨hcb, hx⟩
    · exact ⟨k1, by simpa using k2, ents, clock, by simp [k2], h1, h2⟩
    · exact (h.blk c x hx).mono (.refl E) (by simp) (fun ho => hother _ (h.inj c b x _ hx hb ho rfl hcb)) (fun hB => hother _ (by omega))
  · have ow : ∀ (c : Nat) (x : ABlk), (H.set b (.map es'))[c]? = some x → x.owned = true → ∃ x' : ABlk, H[c]? = some x' ∧ x'.owned = true := fun c x hx ho => by
      rcases hget c x hx with ⟨rfl, rfl⟩ | ⟨_, hx⟩
      · exact ⟨_, hb, rfl⟩
      · exact ⟨x, hx, ho⟩
    obtain ⟨x', hx', ox'⟩ := ow c x hx ox
    obtain ⟨y', hy', oy'⟩ := ow d y hy oy
    exact h.inj c d x' y' hx' hy' ox' oy' hcd
theorem run_setObj {r : Nat} {ents : Array MapEntry} {clock : Nat} (hh : w.heap[r]? = some (.map ents clock)) (o : Obj) : (setObj r o).run P w = .ok () { w with heap := w.heap.setIfInBounds r o } := by
  simp [setObj, Sem.run, hh]
theorem run_keyStays (k : Value) : ∃ w', (Instr.keyThatStays k k).run P w = .ok k w' ∧ (w' = w ∨ w' = w.drew) := by
  unfold Instr.keyThatStays
  split
  · exact ⟨w, by simp, .inl rfl⟩
  · by_cases hf : (Question.extern "map.whichKeyStays" 2).forced = true
    · exact ⟨w, by simp [hf], .inl rfl⟩
    · exact ⟨w.drew, by simp [hf], .inr rfl⟩
def aMapUpdate (P : Program) (t : TypeId) (m k x : AV) (H : AHeap) : Option AHeap :=
  match m with
  | .mp (some b) =>
    match H[b]? with
    | some (.map es) => (tMap P t).bind fun p => (aKey P p.1 k).bind fun ks => (aFind P p.1 ks es).bind fun o =>
      match o with
      | none => some (H.set b (.map (es ++ [(.agg ks, x)])))
      | some q => (need ((match es[q.1]? with | some (.agg ks', _) => sameInts ks' ks | _ => false) = true)).map fun _ => H.set b (.map (es.set q.1 (.agg ks, x)))
    | _ => none
  | _ => none
theorem relL_set {xs : List AV} {vs : List Value} (h : RelL E xs vs) (i : Nat) {x : AV} {v : Value} (hv : Rel E x v) : RelL E (xs.set i x) (vs.set i v) :=
  ⟨by simp [h.1], fun j y u hy hu => by
    rw [List.getElem?_set] at hy hu
    by_cases e : i = j
    · rw [if_pos e] at hy hu
      split at hy
      · split at hu
        · simp at hy hu; subst hy hu; exact hv
        · cases hu
      · cases hy
    · rw [if_neg e] at hy hu; exact h.2 j y u hy hu⟩
theorem snd_mapUpdate (h : Emb E H w) {t : TypeId} {m k x : AV} {mv kv xv : Value} (hm : Rel E m mv) (hk : Rel E k kv) (hx : Rel E x xv) {H' : AHeap} (hr : aMapUpdate P t m k x H = some H') : SndU P E w (Instr.mapUpdate t mv kv xv) H' := by
  unfold aMapUpdate at hr
  split at hr
  · rename_i b
    split at hr
    · rename_i es hb
      obtain ⟨⟨kt, et⟩, ht, hr1⟩ := bind_some' hr
      obtain ⟨ks, hks, hr2⟩ := bind_some' hr1
      obtain ⟨o, ho, hr3⟩ := bind_some' hr2
      clear hr hr1 hr2
      obtain ⟨hu, fs, hkt⟩ := tMap_spec ht
      obtain ⟨rfl, -, q, hq⟩ := aKey_spec hks
      obtain ⟨kvs, rfl, hkr⟩ := rel_agg_inv hk
      cases hm with
      | mp _ hbn =>
      obtain ⟨k1, k2, ents, clock, k3, k4, k5⟩ := h.blk b _ hb
      have hag : tAgg P kt = some true := by rw [tAgg_of hkt]; rfl
      obtain ⟨o', q1, q2, q3⟩ := run_findKey (w := w) hkt hkr k4 k5 ho
      have hck : ∀ em, (Instr.checkKey em 10000 kt (.agg kvs.toArray)).run P w = .ok () w := fun em => run_checkKey em 20 kt ks kvs _ q hq hkr (by unfold ofCells; rw [if_pos hag]) 9980 w
      have hget : (getObj (E.loc b).blk).run P w = .ok (.map ents clock) w := by simp [getObj, Sem.run, k3]
      cases o with
      | none =>
        have := q2 rfl
        subst this
        simp at hr3
        subst hr3
        refine ⟨E, _, ?_, .refl E, h.setMap hb (ents := ents.push { key := .agg kvs.toArray, val := xv, born := clock }) (clock + 1) ?_ ?_⟩
        · simp only [Instr.mapUpdate, Sem.run_bind, run_underlying hu, Result.andThen_ok, hget, hck, q1, run_setObj k3]
        · simpa using k4.append (.cons hk (.nil E))
        · simpa using k5.append (.cons hx (.nil E))
      | some p =>
        obtain ⟨i, y⟩ := p
        obtain ⟨v, rfl, hv⟩ := q3 i y rfl
        obtain ⟨hsame, rfl⟩ := need_of hr3
        simp only at hsame
        split at hsame
        · rename_i ks' y' hes
          have hkeyrel : ∃ e, ents[i]? = some e ∧ Rel E (.agg ks') e.key := by
            obtain ⟨u, hu1, hu2⟩ := k4.get (i := i) (x := .agg ks') (by rw [List.getElem?_map, hes]; rfl)
            rw [List.getElem?_map] at hu1
            cases hei : ents.toList[i]? with
            | none => rw [hei] at hu1; cases hu1
            | some e => rw [hei] at hu1; simp at hu1; subst hu1; exact ⟨e, by simpa using hei, hu2⟩
          obtain ⟨e, he, her⟩ := hkeyrel
          obtain ⟨us, hus, husr⟩ := rel_agg_inv her
          have hkeq := sameInts_rel hsame husr hkr
          subst hkeq
          obtain ⟨w1, hw1, hw1'⟩ := run_keyStays (P := P) (w := w) (.agg us.toArray)
          have hE1 : Emb E H w1 := by rcases hw1' with rfl | rfl; exact h; exact h.drew
          have k3' : w1.heap[(E.loc b).blk]? = some (.map ents clock) := by rcases hw1' with rfl | rfl <;> exact k3
          refine ⟨E, _, ?_, .refl E, hE1.setMap hb (ents := ents.modify i fun e => { e with key := .agg us.toArray, val := xv }) clock ?_ ?_⟩
          · have hmap : ((ents[i]?.map (·.key)).getD (.agg us.toArray)) = .agg us.toArray := by rw [he]; exact hus
            simp only [Instr.mapUpdate, Sem.run_bind, run_underlying hu, Result.andThen_ok, hget, hck, q1]
            simp only [hmap, hw1, Result.andThen_ok, run_setObj k3']
          · have := relL_set k4 i hk
            refine ⟨by have := this.1; simp at this ⊢; exact this, fun j y u hy hu => this.2 j y u (by rw [← hy]; simp [List.map_set]) ?_⟩
            rw [← hu]
            simp only [List.getElem?_set, List.getElem?_map, List.length_map, Array.toList_modify, List.getElem?_modify]
            by_cases e : i = j
            · subst e; simp [he]
              exact (Array.getElem?_eq_some_iff.1 he).1
            · simp [e]
          · have := relL_set k5 i hx
            refine ⟨by have := this.1; simp at this ⊢; exact this, fun j y u hy hu => this.2 j y u (by rw [← hy]; simp [List.map_set]) ?_⟩
            rw [← hu]
            simp only [List.getElem?_set, List.getElem?_map, List.length_map, Array.toList_modify, List.getElem?_modify]
            by_cases e : i = j
            · subst e; simp [he]
              exact (Array.getElem?_eq_some_iff.1 he).1
            · simp [e]
        · cases hsame
    · cases hr
  · cases hr
def aDelete (P : Program) (t : TypeId) (m k : AV) (H : AHeap) : Option AHeap :=
  match m with
  | .mp (some b) =>
    match H[b]? with
    | some (.map es) => (tMap P t).bind fun p => (aKey P p.1 k).bind fun ks => (aFind P p.1 ks es).map fun o =>
      match o with
      | none => H.set b (.map es)
      | some q => H.set b (.map (es.eraseIdx q.1))
    | _ => none
  | _ => none
theorem erase_map {α β : Type} (f : α → β) : ∀ (l : List α) (i : Nat), (l.map f).eraseIdx i = (l.eraseIdx i).map f
  | [], i => by simp
  | x :: l, 0 => by simp
  | x :: l, i + 1 => by simp [erase_map f l i]
theorem relL_erase {xs : List AV} {vs : List Value} (h : RelL E xs vs) (i : Nat) : RelL E (xs.eraseIdx i) (vs.eraseIdx i) :=
  ⟨by simp [List.length_eraseIdx, h.1], fun j y u hy hu => by
    rw [List.getElem?_eraseIdx] at hy hu
    split at hy
    · exact h.2 j y u hy (by simpa [*] using hu)
    · exact h.2 (j + 1) y u hy (by simpa [*] using hu)⟩
theorem snd_delete (h : Emb E H w) {t ty : TypeId} {m k : AV} {mv kv : Value} (hm : Rel E m mv) (hk : Rel E k kv) (at_ : Array TypeId) (hat : at_[0]? = some t) {H' : AHeap} (hr : aDelete P t m k H = some H') : Snd P E w (Builtin.delete_ at_ ty #[mv, kv]) (.any, H') := by
  unfold aDelete at hr
  split at hr
  · rename_i b
    split at hr
    · rename_i es hb
      obtain ⟨⟨kt, et⟩, ht, hr1⟩ := bind_some' hr
      obtain ⟨ks, hks, hr2⟩ := bind_some' hr1
      simp only [Option.map_eq_some_iff] at hr2
      obtain ⟨o, ho, hr3⟩ := hr2
      clear hr hr1
      obtain ⟨hu, fs, hkt⟩ := tMap_spec ht
      obtain ⟨rfl, -, q, hq⟩ := aKey_spec hks
      obtain ⟨kvs, rfl, hkr⟩ := rel_agg_inv hk
      cases hm with
      | mp _ hbn =>
      obtain ⟨k1, k2, ents, clock, k3, k4, k5⟩ := h.blk b _ hb
      have hag : tAgg P kt = some true := by rw [tAgg_of hkt]; rfl
      obtain ⟨o', q1, q2, q3⟩ := run_findKey (w := w) hkt hkr k4 k5 ho
      have hck : ∀ em, (Instr.checkKey em 10000 kt (.agg kvs.toArray)).run P w = .ok () w := fun em => run_checkKey em 20 kt ks kvs _ q hq hkr (by unfold ofCells; rw [if_pos hag]) 9980 w
      have hget : (getObj (E.loc b).blk).run P w = .ok (.map ents clock) w := by simp [getObj, Sem.run, k3]
      cases o with
      | none =>
        have := q2 rfl
        subst this
        simp at hr3
        subst hr3
        refine ⟨E, .tuple #[], _, ?_, .refl E, .any _, h.setMap hb (ents := ents) clock k4 k5⟩
        simp only [Builtin.delete_, hat, List.getElem?_toArray, List.getElem?_cons_zero, List.getElem?_cons_succ, Sem.run_bind, run_underlying hu, Result.andThen_ok, hget, hck, q1, run_setObj k3]
        simp
      | some p =>
        obtain ⟨i, y⟩ := p
        obtain ⟨v, rfl, hv⟩ := q3 i y rfl
        simp at hr3
        subst hr3
        refine ⟨E, .tuple #[], _, ?_, .refl E, .any _, h.setMap hb (ents := ents.eraseIdxIfInBounds i) clock ?_ ?_⟩
        · simp only [Builtin.delete_, hat, List.getElem?_toArray, List.getElem?_cons_zero, List.getElem?_cons_succ, Sem.run_bind, run_underlying hu, Result.andThen_ok, hget, hck, q1, run_setObj k3]
          simp
        · have := relL_erase k4 i
          rw [erase_map, erase_map] at this
          simpa using this
        · have := relL_erase k5 i
          rw [erase_map, erase_map] at this
          simpa using this
    · cases hr
  · cases hr
theorem snd_makeMap (h : Emb E H w) (t : TypeId) : Snd P E w (Instr.makeMap t none) (.mp (some H.length), H ++ [.map []]) := by
  have hg : w.grownBy (w.alloc (.map #[] 0)) none := ⟨rfl, rfl, rfl, by simp, fun k hk _ => Below.heap_alloc _ _ _ hk⟩
  have hE := h.grow hg (fun k hk => by cases hk) rfl (fun c x hx => .inr ⟨hx, fun _ hh => by cases hh⟩) ⟨w.heap.size, 0, 0, 0⟩ (.map []) ⟨h.base, by simp, #[], 0, heap_alloc_new w _, by simpa using RelL.nil _, by simpa using RelL.nil _⟩
    (fun c x hx ho => by
      have hk := h.blk c x hx
      have : (E.loc c).blk < w.heap.size := by
        cases x with
        | dead => cases ho
        | cells own e ys => exact (hk.2.1 ho).2.1
        | map es => exact hk.2.1
      show (E.loc c).blk ≠ w.heap.size
      omega)
  have en := Env.push_new E ⟨w.heap.size, 0, 0, 0⟩
  rw [h.n] at en
  have hp := Rel.mp (E := E.push ⟨w.heap.size, 0, 0, 0⟩) H.length (by simp [Env.push, h.n])
  rw [en] at hp
  exact ⟨_, _, _, by simp [Instr.makeMap], E.le_push _, hp, hE⟩
/-- len -/
def aLen (P : Program) (t : TypeId) (x : AV) (H : AHeap) : Option AV :=
  match x with
  | .sl _ n _ => (tElem P t).map fun _ => .int .i64 n
  | .mp m => (tMap P t).bind fun _ => (aEnts H (.mp m)).map fun es => .int .i64 es.length
  | .str s => (need (tAgg P t = some false ∧ tElem P t = none ∧ tMap P t = none ∧ (match P.underlying t with | some .string => true | _ => false) = true)).map fun _ => .int .i64 s.length
  | _ => none
theorem snd_len (h : Emb E H w) {t ty : TypeId} {x : AV} {v : Value} (hv : Rel E x v) (at_ : Array TypeId) (hat : at_[0]? = some t) {r : AV} (hr : aLen P t x H = some r) : Snd P E w (Builtin.len_ at_ ty #[v]) (r, H) := by
  unfold aLen at hr
  split at hr
  · rename_i a n c
    simp only [Option.map_eq_some_iff] at hr
    obtain ⟨e, he, rfl⟩ := hr
    have hu := tElem_spec he
    cases hv with
    | nilsl => exact .of_run h (by simp [Builtin.len_, hat, run_underlying hu]; rfl) (.int .i64 _)
    | nils _ _ hb hc => exact .of_run h (by simp [Builtin.len_, hat, run_underlying hu]; rfl) (.int .i64 _)
    | sl _ _ _ _ c a => exact .of_run h (by simp [Builtin.len_, hat, run_underlying hu]; rfl) (.int .i64 _)
  · rename_i m
    obtain ⟨⟨kt, et⟩, ht, hr1⟩ := bind_some' hr
    simp only [Option.map_eq_some_iff] at hr1
    obtain ⟨es, hes, rfl⟩ := hr1
    obtain ⟨hu, -, -⟩ := tMap_spec ht
    obtain ⟨ents, e1, -, e3⟩ := aEnts_spec h hv hes
    have hl : es.length = ents.length := by have := e1.1; simpa using this
    rcases e3 with ⟨rfl, rfl⟩ | ⟨b, clock, -, rfl, hheap⟩
    · rw [hl]; exact .of_run h (by simp [Builtin.len_, hat, run_underlying hu]; rfl) (.int .i64 _)
    · rw [hl]
      have hget : (getObj (E.loc b).blk).run P w = .ok (.map ents.toArray clock) w := by simp [getObj, Sem.run, hheap]
      exact .of_run h (by simp [Builtin.len_, hat, run_underlying hu, hget]; rfl) (.int .i64 _)
  · rename_i s
    obtain ⟨⟨-, -, -, q⟩, rfl⟩ := need_of hr
    split at q
    · rename_i hu
      cases hv
      exact .of_run h (by simp [Builtin.len_, hat, run_underlying hu]; rfl) (.int .i64 _)
    · cases q
  · cases hr
/-- copy -/
def aCopy (P : Program) (t : TypeId) (d s : AV) (H : AHeap) : Option (AV × AHeap) :=
  (tElem P t).bind fun e => (tSz P e).bind fun sz =>
    match d, s with
    | .sl (some (b, o)) n _, .sl (some (b', o')) m _ => bif min m n == 0 then some (.int .i64 0, H) else (ards H b' o' (min m n * sz)).bind fun l => (awrite H b o l).map fun H' => (.int .i64 (min m n : Nat), H')
    | .sl none _ _, .sl _ _ _ => some (.int .i64 0, H)
    | .sl _ _ _, .sl none _ _ => some (.int .i64 0, H)
    | _, _ => none
theorem snd_copy (h : Emb E H w) {t ty : TypeId} {d s : AV} {dv sv : Value} (hd : Rel E d dv) (hs : Rel E s sv) (at_ : Array TypeId) (hat : at_[0]? = some t) {r : AV × AHeap} (hr : aCopy P t d s H = some r) : Snd P E w (Builtin.copy_ at_ ty #[dv, sv]) r := by
  unfold aCopy at hr
  obtain ⟨e, he, hr1⟩ := bind_some' hr
  obtain ⟨sz, hsz, hr2⟩ := bind_some' hr1
  clear hr hr1
  have hu := tElem_spec he
  split at hr2
  · rename_i b o n c b' o' m c'
    have c00 : ∀ A q, (Builtin.copy_ at_ ty #[.slice none 0 0, .slice A m q]).run P w = .ok (.int .i64 0) w := fun A q => by
      cases A <;> (simp [Builtin.copy_, hat, run_underlying hu, Builtin.lenOf, run_sizeOf' hsz, Builtin.firstCells, loadCells, loadCellsFrom]; rfl)
    have c01 : ∀ A q, (Builtin.copy_ at_ ty #[.slice A n q, .slice none 0 0]).run P w = .ok (.int .i64 0) w := fun A q => by
      cases A <;> (simp [Builtin.copy_, hat, run_underlying hu, Builtin.lenOf, run_sizeOf' hsz, Builtin.firstCells, storeCells]; rfl)
    cases hd with
    | nils _ _ hb hc =>
      rw [show (min m 0 == 0) = true by simp] at hr2
      simp only [cond_true, Option.some.injEq] at hr2; subst hr2
      cases hs with
      | nils _ _ hb' hc' => exact .of_run h (c00 _ _) (.int .i64 0)
      | sl _ _ _ _ q' a' hb' h1' h2' h3' h4' h5' => exact .of_run h (c00 _ _) (.int .i64 0)
    | sl _ _ _ _ q a hb h1 h2 h3 h4 h5 =>
    cases hs with
    | nils _ _ hb' hc' =>
      rw [show (min 0 n == 0) = true by simp] at hr2
      simp only [cond_true, Option.some.injEq] at hr2; subst hr2
      exact .of_run h (c01 _ _) (.int .i64 0)
    | sl _ _ _ _ q' a' hb' h1' h2' h3' h4' h5' =>
    cases h0 : (min m n == 0) with
    | true =>
      rw [h0] at hr2
      simp at hr2; subst hr2
      have h00 : Nat.min m n = 0 := by simpa using h0
      exact .of_run h (by simp [Builtin.copy_, hat, run_underlying hu, Builtin.lenOf, run_sizeOf' hsz, h00, Builtin.firstCells, loadCells, loadCellsFrom, storeCells]; rfl) (.int .i64 0)
    | false =>
      rw [h0] at hr2
      simp only [cond_false] at hr2
      obtain ⟨l, hl, hr3⟩ := bind_some' hr2
      simp only [Option.map_eq_some_iff] at hr3
      obtain ⟨H', hw, rfl⟩ := hr3
      have hpos : 0 < min m n := by simp at h0; omega
      obtain rfl := h4.resolve_left (by omega)
      obtain rfl := h4'.resolve_left (by omega)
      obtain ⟨k1, k2, vs, k3, k4⟩ := ards_spec h hl
      have hrun := run_loadCells' (P := P) (w := w) (E.loc b').blk ((E.loc b').off + o') vs k4
      rw [← k3.1, k1] at hrun
      obtain ⟨w1, w2, w3, w4⟩ := h.write k3 hw
      have hst := run_storeCells_cells (P := P) (E.loc b).blk ((E.loc b).off + o) vs 0 w (by simpa using w2) (by simpa using w3) w1
      rw [Nat.add_zero] at hst
      refine ⟨E, .int .i64 (min m n : Nat), _, ?_, .refl E, .int .i64 _, w4⟩
      have hmin : Nat.min m n = min m n := rfl
      simp only [Builtin.copy_, hat, List.getElem?_toArray, List.getElem?_cons_zero, List.getElem?_cons_succ, Sem.run_bind, run_underlying hu, Result.andThen_ok, Builtin.lenOf, Sem.run_pure, run_sizeOf' hsz, Builtin.firstCells, hmin, hrun, hst]
      rfl
  · simp at hr2; subst hr2
    cases hd with
    | nilsl =>
    cases hs with
    | nilsl => exact .of_run h (by simp [Builtin.copy_, hat, run_underlying hu, Builtin.lenOf, run_sizeOf' hsz, Builtin.firstCells]; rfl) (.int .i64 0)
    | nils _ _ hb hc => exact .of_run h (by simp [Builtin.copy_, hat, run_underlying hu, Builtin.lenOf, run_sizeOf' hsz, Builtin.firstCells]; rfl) (.int .i64 0)
    | sl _ _ _ _ q a => exact .of_run h (by simp [Builtin.copy_, hat, run_underlying hu, Builtin.lenOf, run_sizeOf' hsz, Builtin.firstCells, loadCells, loadCellsFrom]; rfl) (.int .i64 0)
  · simp at hr2; subst hr2
    cases hs with
    | nilsl =>
    cases hd with
    | nilsl => exact .of_run h (by simp [Builtin.copy_, hat, run_underlying hu, Builtin.lenOf, run_sizeOf' hsz, Builtin.firstCells]; rfl) (.int .i64 0)
    | nils _ _ hb hc => exact .of_run h (by simp [Builtin.copy_, hat, run_underlying hu, Builtin.lenOf, run_sizeOf' hsz, Builtin.firstCells]; rfl) (.int .i64 0)
    | sl _ _ _ _ q a => exact .of_run h (by simp [Builtin.copy_, hat, run_underlying hu, Builtin.lenOf, run_sizeOf' hsz, Builtin.firstCells, storeCells]; rfl) (.int .i64 0)
  · cases hr2
end
end Go.Proofs.Ytjfnbcifafmefaa
/- The abstract machine: one operation that calls nothing, and its meaning. Conditions: as each theorem states. -/
namespace Go.Proofs.Ytjfnbcifafmefaa
open Go.RowKit
section
variable {P : Program} {E : Env} {H : AHeap} {w : World}
def isSh : BinOp → Bool
  | .shl => true
  | .shr => true
  | _ => false
/-- Whether a slice is nil is known. -/
def nilKnown (a : Option (Nat × Nat)) (n : Nat) (c : Option Nat) : Bool :=
  match a with
  | none => true
  | some (_, o) => n != 0 || (o != 0 || match c with | some m => m != 0 | none => false)
def aBin (P : Program) (op : BinOp) (t : TypeId) (x y : AV) : Option AV :=
  match x, y with
  | .int k a, .int k' b => bif isSh op || decide (k = k') then aInt op k a b else none
  | .bool a, .bool b => bif tIsBool P t then (match op with | .eql => some (.bool (a == b)) | .neq => some (.bool (!(a == b))) | _ => none) else none
  | .str a, .str b => (match op with | .eql => some (.bool (a == b)) | .neq => some (.bool (!(a == b))) | _ => none)
  | .agg xs, .agg ys => bif P.eqGuardType P.depth t || !(tAgg P t == some true) then none else (match op with | .eql => (aEq P 20 t xs ys).map .bool | .neq => (aEq P 20 t xs ys).map fun b => .bool (!b) | _ => none)
  | .sl a n c, .sl none _ _ => bif tIsSlice P t && nilKnown a n c then (match op with | .eql => some (.bool a.isNone) | .neq => some (.bool (!a.isNone)) | _ => none) else none
  | _, _ => none
theorem snd_int {op : BinOp} {k : IntKind} {a b : Int} {r : AV} (hr : aInt op k a b = some r) (h : Emb E H w) {t : TypeId} {k' : IntKind} (hk : op = .shl ∨ op = .shr ∨ k = k') : Snd P E w (binOp op t (.int k a) (.int k' b)) (r, H) := by
  cases op
  case shl =>
    obtain ⟨hb, rfl⟩ := need_of hr
    rw [binOp_shl]; unfold Op.shift; rw [if_neg (by omega)]
    exact .pure h (.int _ _)
  case shr =>
    obtain ⟨hb, rfl⟩ := need_of hr
    rw [binOp_shr]; unfold Op.shift; rw [if_neg (by omega)]
    exact .pure h (.int _ _)
  all_goals
    obtain rfl : k = k' := by simpa using hk
    simp only [aInt, Option.some.injEq] at hr
  case quo =>
    obtain ⟨hb, rfl⟩ := need_of hr
    rw [binOp_quo]; unfold Op.intDiv; rw [if_neg hb]
    exact .pure h (.int _ _)
  case rem =>
    obtain ⟨hb, rfl⟩ := need_of hr
    rw [binOp_rem]; unfold Op.intDiv; rw [if_neg hb]
    exact .pure h (.int _ _)
  all_goals
    subst hr
    simp only [binOp_add, binOp_sub, binOp_mul, binOp_and, binOp_or, binOp_xor, binOp_andNot, binOp_eql, binOp_neq, binOp_lss, binOp_leq, binOp_gtr, binOp_geq, Op.intArith, Op.intBits]
    exact .pure h (by first | exact .int _ _ | exact .bool _)
theorem run_eq_slice_nil (d : Nat) {t e : TypeId} (hue : P.underlying t = some (.slice e)) {A : Option Addr} {n c : Nat} : (Op.equalIn (d + 1) t (.slice A n c) (.slice none 0 0)).run P w = .ok A.isNone w := by
  cases A <;> simp [Op.equalIn, run_underlying hue]
theorem snd_bin (h : Emb E H w) {op : BinOp} {t : TypeId} {x y : AV} {v u : Value} (hv : Rel E x v) (hu : Rel E y u) (ox oy : Operand) {r : AV} (hr : aBin P op t x y = some r) :
    Snd P E w (do eqGuard op t ox oy v u; binOp op t v u) (r, H) := by
  have guard : ∀ s : Sem Value, (eqGuard op t ox oy v u).run P w = .ok () w → Snd P E w s (r, H) → Snd P E w (do eqGuard op t ox oy v u; s) (r, H) := by
    rintro s hg ⟨E', v', w', h1, h2, h3, h4⟩
    exact ⟨E', v', w', by simp [hg, h1], h2, h3, h4⟩
  unfold aBin at hr
  split at hr
  · rename_i k a k' b
    cases hv; cases hu
    refine guard _ (by rw [eqGuard_at_int]; rfl) ?_
    cases hc : (isSh op || decide (k = k')) with
    | false => rw [hc] at hr; cases hr
    | true =>
      rw [hc] at hr
      simp only [cond_true] at hr
      exact snd_int hr h (by
        simp only [Bool.or_eq_true, decide_eq_true_eq] at hc
        rcases hc with hc | hc
        · cases op <;> simp [isSh] at hc <;> simp
        · exact .inr (.inr hc))
  · rename_i a b
    cases hv; cases hu
    cases hc : tIsBool P t with
    | false => rw [hc] at hr; cases hr
    | true =>
      rw [hc] at hr
      simp only [cond_true] at hr
      have hu : P.underlying t = some .bool := by
        unfold tIsBool at hc; split at hc
        · assumption
        · cases hc
      refine guard _ (by rw [eqGuard_at_bool]; rfl) ?_
      cases op <;> simp at hr <;> subst hr
      · exact .of_run h (by simp [binOp, Op.equal, Op.maxDepth, run_equalIn_bool w 9999 t _ _ hu]) (.bool _)
      · exact .of_run h (by simp [binOp, Op.equal, Op.maxDepth, run_equalIn_bool w 9999 t _ _ hu]) (.bool _)
  · rename_i a b
    cases hv; cases hu
    refine guard _ (by rw [eqGuard_at_string]; rfl) ?_
    cases op <;> simp at hr <;> subst hr
    · exact .of_run h (v := .bool (a == b)) (by simp [binOp, Op.stringOp, ByteArray.toList_eq]) (.bool _)
    · exact .of_run h (v := .bool (!(a == b))) (by simp [binOp, Op.stringOp, ByteArray.toList_eq]) (.bool _)
  · rename_i xs ys
    obtain ⟨vs, rfl, hvs⟩ := rel_agg_inv hv
    obtain ⟨us, rfl, hus⟩ := rel_agg_inv hu
    cases hc : (P.eqGuardType P.depth t || !(tAgg P t == some true)) with
    | true => rw [hc] at hr; cases hr
    | false =>
      rw [hc] at hr
      simp only [cond_false] at hr
      simp only [Bool.or_eq_false_iff, Bool.not_eq_false', beq_iff_eq] at hc
      refine guard _ (run_eqGuard_agg w op t ox oy _ _ hc.1) ?_
      have key : ∀ b, aEq P 20 t xs ys = some b → (Op.equalIn 10000 t (.agg vs.toArray) (.agg us.toArray)).run P w = .ok b w := fun b hb =>
        run_aEq 20 t _ _ _ _ _ _ b hb hvs hus (by unfold ofCells; rw [if_pos hc.2]) (by unfold ofCells; rw [if_pos hc.2]) 9980 w
      cases op <;> simp only [Option.map_eq_some_iff] at hr <;> try (cases hr; done)
      · obtain ⟨b, hb, rfl⟩ := hr
        exact .of_run h (by rw [run_eql_struct, key b hb]; rfl) (.bool _)
      · obtain ⟨b, hb, rfl⟩ := hr
        exact .of_run h (by rw [run_neq_struct, key b hb]; rfl) (.bool _)
  · rename_i a n c n' c'
    cases hc : tIsSlice P t with
    | false => rw [hc] at hr; cases hr
    | true =>
      cases hnk : nilKnown a n c with
      | false => rw [hc, hnk] at hr; cases hr
      | true =>
      rw [hc, hnk] at hr
      simp only [Bool.and_self, cond_true] at hr
      obtain ⟨e, hue⟩ : ∃ e, P.underlying t = some (.slice e) := by
        unfold tIsSlice at hc; split at hc
        · exact ⟨_, by assumption⟩
        · cases hc
      cases hu with
      | nilsl =>
      have hv' : ∃ (A : Option Addr) (n1 c1 : Nat), v = .slice A n1 c1 ∧ A.isNone = a.isNone := by
        cases hv with
        | nilsl => exact ⟨_, _, _, rfl, rfl⟩
        | nils _ _ hb hc' => rcases hc' with rfl | rfl <;> simp [nilKnown] at hnk
        | sl => exact ⟨_, _, _, rfl, rfl⟩
      obtain ⟨A, n1, c1, rfl, hA⟩ := hv'
      have hrun : (Op.equalIn 10000 t (.slice A n1 c1) (.slice none 0 0)).run P w = .ok a.isNone w := by
        rw [← hA]
        exact run_eq_slice_nil 9999 hue
      refine guard _ (by rw [eqGuard_at_slice]; rfl) ?_
      cases op <;> simp only at hr <;> try (cases hr; done)
      · simp only [Option.some.injEq] at hr
        subst hr
        exact .of_run h (v := .bool a.isNone) (by simp [binOp, Op.equal, Op.maxDepth, hrun]) (.bool _)
      · simp only [Option.some.injEq] at hr
        subst hr
        exact .of_run h (v := .bool (!a.isNone)) (by simp [binOp, Op.equal, Op.maxDepth, hrun]) (.bool _)
  · cases hr
def aUn (op : UnOp) (x : AV) : Option AV :=
  match op, x with
  | .neg, .int k n => some (.int k (k.wrap (0 - n)))
  | .not, .bool b => some (.bool (!b))
  | _, _ => none
theorem snd_un (h : Emb E H w) {op : UnOp} {x : AV} {v : Value} (hv : Rel E x v) {r : AV} (hr : aUn op x = some r) : Snd P E w (Op.unary op v) (r, H) := by
  unfold aUn at hr
  split at hr
  · cases hv; simp at hr; subst hr; exact .of_run h (by simp [Op.unary, Op.intArith]) (.int _ _)
  · cases hv; simp at hr; subst hr; exact .of_run h (by simp [Op.unary]) (.bool _)
  · cases hr
def tInt (P : Program) (t : TypeId) : Option IntKind := match P.underlying t with | some (.int k) => some k | _ => none
def byteOf : AV → Option UInt8
  | .int .u8 n => some (UInt8.ofNat n.toNat)
  | _ => none
def aConv (P : Program) (s d : TypeId) (x : AV) (H : AHeap) : Option AV :=
  match x with
  | .int _ n => (P.underlying s).bind fun _ => (tInt P d).map fun k => .int k (k.wrap n)
  | .sl a n c => (tElem P s).bind fun e => (need (tInt P e = some .u8 ∧ (match P.underlying d with | some .string => true | _ => false) = true)).bind fun _ => (aElems 1 (.sl a n c) H).bind fun p => (p.2.mapM byteOf).map AV.str
  | _ => none
theorem bytes_rel : ∀ (xs : List AV) (vs : List Value) (bs : List UInt8), RelL E xs vs → xs.mapM byteOf = some bs → ∃ ns : List Int, vs = ns.map (Value.int .u8) ∧ bs = ns.map fun n => UInt8.ofNat n.toNat
  | [], vs, bs, h, hb => by
    have : vs = [] := List.length_eq_zero_iff.1 h.1.symm
    subst this
    simp at hb; subst hb
    exact ⟨[], rfl, rfl⟩
  | x :: xs, [], bs, h, hb => by have := h.1; simp at this
  | x :: xs, v :: vs, bs, h, hb => by
    obtain ⟨h1, h2⟩ := h.uncons
    simp only [List.mapM_cons, Option.bind_eq_bind, Option.pure_def] at hb
    obtain ⟨b, hb1, hb⟩ := bind_some' hb
    obtain ⟨bs', hb2, hb⟩ := bind_some' hb
    simp at hb; subst hb
    obtain ⟨ns, e1, e2⟩ := bytes_rel xs vs bs' h2 hb2
    unfold byteOf at hb1
    split at hb1
    · rename_i n
      cases h1
      simp at hb1
      exact ⟨n :: ns, by simp [e1], by simp [e2, hb1]⟩
    · cases hb1
theorem foldl_push (ns : List Int) : ∀ s : ByteArray, ns.foldl (fun r n => r.push (UInt8.ofNat n.toNat)) s = ⟨(s.data.toList ++ ns.map fun n => UInt8.ofNat n.toNat).toArray⟩ := by
  induction ns with
  | nil => intro s; simp
  | cons n ns ih =>
    intro s
    simp only [List.foldl_cons, ih]
    obtain ⟨⟨l⟩⟩ := s
    simp [ByteArray.push]
theorem snd_conv (h : Emb E H w) {s d : TypeId} {x : AV} {v : Value} (hv : Rel E x v) {r : AV} (hr : aConv P s d x H = some r) : Snd P E w (convert s d v) (r, H) := by
  unfold aConv at hr
  split at hr
  · obtain ⟨q, hq, hr1⟩ := bind_some' hr
    simp only [Option.map_eq_some_iff] at hr1
    obtain ⟨k, hk, rfl⟩ := hr1
    cases hv
    have hd : P.underlying d = some (.int k) := by
      unfold tInt at hk; split at hk
      · simp at hk; subst hk; assumption
      · cases hk
    exact .of_run h (by simp [convert, run_underlying hq, run_underlying hd, Conv.intToInt]) (.int _ _)
  · rename_i a n c
    obtain ⟨e, he, hr1⟩ := bind_some' hr
    obtain ⟨⟨n1, n2⟩, hr2⟩ := need_bind hr1
    obtain ⟨⟨m, l⟩, hp, hr3⟩ := bind_some' hr2
    simp only [Option.map_eq_some_iff] at hr3
    obtain ⟨bs, hbs, rfl⟩ := hr3
    have hue : P.underlying e = some (.int .u8) := by
      unfold tInt at n1; split at n1
      · simp at n1; subst n1; assumption
      · cases n1
    have hud : P.underlying d = some .string := by split at n2; assumption; cases n2
    have hus := tElem_spec he
    obtain ⟨k1, k2, vs, k3, k4⟩ := aElems_spec h hv hp
    obtain ⟨ns, e1, e2⟩ := bytes_rel l vs bs k3 hbs
    rcases k4 with ⟨rfl, rfl⟩ | ⟨ad, c', rfl, -, hcell⟩
    · have : vs = [] := List.length_eq_zero_iff.1 (by rw [← k3.1, k1])
      subst this
      have : ns = [] := by simpa using e1.symm
      subst this
      simp at e2; subst e2
      refine .of_run h ?_ (.str [])
      simp [convert, run_underlying hus, run_underlying hud, run_underlying hue, Conv.bytesToString]
      exact (rfl : ByteArray.empty = ByteArray.mk #[])
    · subst e1 e2
      obtain ⟨ab, ao, as_⟩ := ad
      have hspot : 0 < ns.length → as_ = none := fun h0 => by
        have := hcell 0 _ (by rw [List.getElem?_map, List.getElem?_eq_getElem h0]; rfl)
        simp [Addr.add, World.cell?] at this
        split at this
        · split at this
          · cases this
          · rename_i hs; simpa using hs
        · cases this
      have hm : m = ns.length := by have := k3.1; simp at this k1; omega
      have hload : (loadCells ⟨ab, ao, as_⟩ m).run P w = .ok (ns.map (Value.int .u8)).toArray w := by
        rcases Nat.eq_zero_or_pos ns.length with h0 | h0
        · have : ns = [] := List.length_eq_zero_iff.1 h0
          subst this
          rw [hm]; simp [loadCells, loadCellsFrom]
        · obtain rfl := hspot h0
          have := run_loadCells' (P := P) (w := w) ab ao (ns.map (Value.int .u8)) (fun j y hj => by have := hcell j y hj; rwa [add_addr] at this)
          rwa [List.length_map, ← hm] at this
      have hb := run_bytesToString w ⟨ab, ao, as_⟩ m c' ns hload
      rw [foldl_push] at hb
      refine .of_run h ?_ (.str _)
      have hd0 : (ByteArray.empty.data.toList ++ ns.map fun n => UInt8.ofNat n.toNat) = ns.map fun n => UInt8.ofNat n.toNat := rfl
      rw [hd0] at hb
      simp [convert, run_underlying hus, run_underlying hud, run_underlying hue, hb]
  · cases hr
end
end Go.Proofs.Ytjfnbcifafmefaa
/- The abstract machine: any operation that calls nothing, and its meaning. Conditions: as each theorem states. -/
namespace Go.Proofs.Ytjfnbcifafmefaa
open Go.RowKit
section
variable {P : Program} {E : Env} {H : AHeap} {w : World}
def aMin2 : AV → AV → Option AV
  | .int k x, .int _ y => some (.int k (if y < x then y else x))
  | _, _ => none
def aMax2 : AV → AV → Option AV
  | .int k x, .int _ y => some (.int k (if y > x then y else x))
  | _, _ => none
def aFold (f : AV → AV → Option AV) : AV → List AV → Option AV
  | x, [] => some x
  | x, y :: r => (f x y).bind fun z => aFold f z r
theorem run_fold (f : AV → AV → Option AV) (g : Value → Value → Sem Value) (hfg : ∀ x y r v u, f x y = some r → Rel E x v → Rel E y u → ∃ z, (g v u).run P w = .ok z w ∧ Rel E r z) :
    ∀ (l : List AV) (vs : List Value) (x r : AV) (v : Value), RelL E l vs → Rel E x v → aFold f x l = some r → ∃ z, (vs.foldlM g v).run P w = .ok z w ∧ Rel E r z
  | [], vs, x, r, v, hl, hx, hr => by
    have : vs = [] := List.length_eq_zero_iff.1 hl.1.symm
    subst this
    simp [aFold] at hr; subst hr
    exact ⟨v, by simp, hx⟩
  | y :: l, [], x, r, v, hl, hx, hr => by have := hl.1; simp at this
  | y :: l, u :: vs, x, r, v, hl, hx, hr => by
    obtain ⟨h1, h2⟩ := hl.uncons
    unfold aFold at hr
    obtain ⟨z, hz, hr⟩ := bind_some' hr
    obtain ⟨z', q1, q2⟩ := hfg x y z v u hz hx h1
    obtain ⟨z'', q3, q4⟩ := run_fold f g hfg l vs z r z' h2 q2 hr
    exact ⟨z'', by simp [q1, q3], q4⟩
def aBuiltin (P : Program) (b : Builtin) (ts : List TypeId) (xs : List AV) (H : AHeap) : Option (AV × AHeap) :=
  match b, ts, xs with
  | .len, [t], [x] => (aLen P t x H).map fun r => (r, H)
  | .append, [t, t'], [s, x] => (need (t = t')).bind fun _ => aAppend P t s x H
  | .copy, [t, _], [d, s] => aCopy P t d s H
  | .delete, [t, _], [m, k] => (aDelete P t m k H).map fun H' => (.any, H')
  | .min, _, x :: r => (aFold aMin2 x r).map fun z => (z, H)
  | .max, _, x :: r => (aFold aMax2 x r).map fun z => (z, H)
  | _, _, _ => none
def aop (P : Program) (o : Op) (F : Fr) (H : AHeap) : Option (AV × AHeap) :=
  match o with
  | .move x => some (aev F x, H)
  | .assign x => some (aev F x, H)
  | .pick c a b => (match aev F c with | .bool t => some (bif t then aev F a else aev F b, H) | _ => none)
  | .alloc t => aAlloc P t H
  | .box _ x => aBox (aev F x) H
  | .build t ps => (aBuild P t (ps.toList.map fun p => (p.1, aev F p.2))).map fun r => (r, H)
  | .buildSlice t n ps => aBuildSlice P t n (ps.toList.map fun p => (p.1, aev F p.2)) H
  | .load t a => aLoad P t (aev F a) H
  | .store t a x => (aStore P t (aev F a) (aev F x) H).map fun H' => (.any, H')
  | .nilCheck x => (match aev F x with | .ptr (some a) => some (.ptr (some a), H) | .fn f c => some (.fn f c, H) | _ => none)
  | .binOp op t x y _ => (aBin P op t (aev F x) (aev F y)).map fun r => (r, H)
  | .unOp op _ x => (aUn op (aev F x)).map fun r => (r, H)
  | .convert s d x => (aConv P s d (aev F x) H).map fun r => (r, H)
  | .makeFunc fn first caps => (match fn with | .func f => (need (first.toList.length = 0)).map fun _ => (.fn f (caps.toList.map (aev F)), H) | _ => none)
  | .makeMap t r => (match r with | none => some (.mp (some H.length), H ++ [.map []]) | some x => (match aev F x with | .int _ _ => (tMap P t).map fun _ => (.mp (some H.length), H ++ [.map []]) | _ => none))
  | .makeSlice t l c => aMakeSlice P t (aev F l) (aev F c) H
  | .slice t x lo hi mx => (aSlice P t (aev F x) (lo.map (aev F)) (hi.map (aev F)) (mx.map (aev F)) H).map fun r => (r, H)
  | .fieldAddr t x f => (aFieldAddr P t (aev F x) f).map fun r => (r, H)
  | .field t x f => (aField P t (aev F x) f).map fun r => (r, H)
  | .indexAddr t x i => (aIndexAddr P t (aev F x) (aev F i)).map fun r => (r, H)
  | .index t x i => (aIndex P t (aev F x) (aev F i)).map fun r => (r, H)
  | .lookup t m k ok => (aLookup P t (aev F m) (aev F k) ok H).map fun r => (r, H)
  | .mapUpdate t m k x => (aMapUpdate P t (aev F m) (aev F k) (aev F x) H).map fun H' => (.any, H')
  | .extract x i => (aExtract (aev F x) i).map fun r => (r, H)
  | .call c => (match c.callee with | .builtin b => aBuiltin P b c.argTypes.toList (c.args.toList.map (aev F)) H | _ => none)
  | _ => none
theorem rel_bool_inv {b : Bool} {v : Value} (h : Rel E (.bool b) v) : v = .bool b := by cases h; rfl
theorem rel_int_inv {k : IntKind} {n : Int} {v : Value} (h : Rel E (.int k n) v) : v = .int k n := by cases h; rfl
theorem map_toArr {α β : Type} (f : α → β) (xs : Array α) : (xs.toList.map f).toArray = xs.map f := by rw [← Array.toList_map, Array.toArray_toList]
/-- What an operation comes to. -/
def SndO (P : Program) (E : Env) (w : World) (s : Sem Next) (r : AV × AHeap) : Prop :=
  ∃ E' n w', s.run P w = .ok n w' ∧ ((n = .skip ∧ r.1 = .any) ∨ ∃ v, n = .value v ∧ Rel E' r.1 v) ∧ E.le E' ∧ Emb E' r.2 w'
theorem SndO.of {s : Sem Value} {r : AV × AHeap} (h : Snd P E w s r) : SndO P E w (do Pure.pure (.value (← s))) r := by
  obtain ⟨E', v, w', h1, h2, h3, h4⟩ := h
  exact ⟨E', .value v, w', by simp [h1], .inr ⟨v, rfl, h3⟩, h2, h4⟩
theorem SndO.ofU {s : Sem Unit} {H' : AHeap} (h : SndU P E w s H') : SndO P E w (do s; Pure.pure .skip) (.any, H') := by
  obtain ⟨E', w', h1, h2, h3⟩ := h
  exact ⟨E', .skip, w', by simp [h1], .inl ⟨rfl, rfl⟩, h2, h3⟩
theorem optRel_map {F : Fr} {a : Act} (x : Option Operand) (hF : ∀ y, x = some y → Rel E (aev F y) (a.eval y)) : OptRel E (x.map (aev F)) (x.map a.eval) := by
  cases x with
  | none => trivial
  | some x => exact hF x rfl
theorem snd_builtin (h : Emb E H w) {b : Builtin} {ts : List TypeId} {xs : List AV} {vs : List Value} (hx : RelL E xs vs) (type : TypeId) (cs : Array Bool) {r : AV × AHeap} (hr : aBuiltin P b ts xs H = some r) :
    SndO P E w (builtin b ts.toArray type cs vs.toArray) r := by
  unfold aBuiltin at hr
  split at hr
  · simp only [Option.map_eq_some_iff] at hr
    obtain ⟨q, hq, rfl⟩ := hr
    obtain ⟨v, rfl, hv⟩ := relL_single hx
    exact .of (snd_len h hv #[_] rfl hq)
  · obtain ⟨rfl, hr'⟩ := need_bind hr
    match vs, hx with
    | [v, u], hx =>
      obtain ⟨h1, h2⟩ := hx.uncons
      exact .of (snd_append h h1 h2.uncons.1 hr')
  · match vs, hx with
    | [v, u], hx =>
      obtain ⟨h1, h2⟩ := hx.uncons
      exact .of (snd_copy h h1 h2.uncons.1 _ rfl hr)
  · simp only [Option.map_eq_some_iff] at hr
    obtain ⟨q, hq, rfl⟩ := hr
    match vs, hx with
    | [v, u], hx =>
      obtain ⟨h1, h2⟩ := hx.uncons
      exact .of (snd_delete h h1 h2.uncons.1 _ rfl hq)
  · rename_i x l
    simp only [Option.map_eq_some_iff] at hr
    obtain ⟨q, hq, rfl⟩ := hr
    match vs, hx with
    | v :: vs, hx =>
      obtain ⟨h1, h2⟩ := hx.uncons
      obtain ⟨z, q1, q2⟩ := run_fold (P := P) (w := w) aMin2 Builtin.min2 (fun x y r v u hxy hx hy => by
        unfold aMin2 at hxy
        split at hxy
        · cases hx; cases hy; simp at hxy; subst hxy; exact ⟨_, rfl, .int _ _⟩
        · cases hxy) l vs x q v h2 h1 hq
      exact .of (.of_run h (by simpa [Builtin.min_] using q1) q2)
  · rename_i x l
    simp only [Option.map_eq_some_iff] at hr
    obtain ⟨q, hq, rfl⟩ := hr
    match vs, hx with
    | v :: vs, hx =>
      obtain ⟨h1, h2⟩ := hx.uncons
      obtain ⟨z, q1, q2⟩ := run_fold (P := P) (w := w) aMax2 Builtin.max2 (fun x y r v u hxy hx hy => by
        unfold aMax2 at hxy
        split at hxy
        · cases hx; cases hy; simp at hxy; subst hxy; exact ⟨_, rfl, .int _ _⟩
        · cases hxy) l vs x q v h2 h1 hq
      exact .of (.of_run h (by simpa [Builtin.max_] using q1) q2)
  · cases hr
theorem snd_op (h : Emb E H w) {F : Fr} {a : Act} (o : Oper) (hF : ∀ x ∈ o.op.operands, Rel E (aev F x) (a.eval x)) {r : AV × AHeap} (hr : aop P o.op F H = some r) : SndO P E w (execOp a.eval o) r := by
  obtain ⟨dst, op, type, pos, after, guard⟩ := o
  simp only at hr hF
  unfold aop at hr
  split at hr
  · simp only [Option.some.injEq] at hr; subst hr
    exact ⟨E, _, w, rfl, .inr ⟨_, rfl, hF _ (by simp [Op.operands])⟩, .refl E, h⟩
  · simp only [Option.some.injEq] at hr; subst hr
    exact ⟨E, _, w, rfl, .inr ⟨_, rfl, hF _ (by simp [Op.operands])⟩, .refl E, h⟩
  · rename_i c x y
    split at hr
    · rename_i t hc
      simp only [Option.some.injEq] at hr; subst hr
      have := hF c (by simp [Op.operands])
      rw [hc] at this
      have hcv : a.eval c = .bool t := rel_bool_inv this
      refine ⟨E, _, w, by simp [execOp, hcv, asBool]; rfl, .inr ⟨_, rfl, ?_⟩, .refl E, h⟩
      cases t
      · exact hF y (by simp [Op.operands])
      · exact hF x (by simp [Op.operands])
    · cases hr
  · exact .of (snd_alloc h hr)
  · exact .of (snd_box h (hF _ (by simp [Op.operands])) hr)
  · simp only [Option.map_eq_some_iff] at hr
    obtain ⟨q, hq, rfl⟩ := hr
    exact .of (snd_build h (fun p hp => hF p (by simpa [Op.operands] using hp)) hq)
  · exact .of (snd_buildSlice h (fun p hp => hF p (by simpa [Op.operands] using hp)) hr)
  · exact .of (snd_load h (hF _ (by simp [Op.operands])) hr)
  · simp only [Option.map_eq_some_iff] at hr
    obtain ⟨q, hq, rfl⟩ := hr
    exact .ofU (snd_store h (hF _ (by simp [Op.operands])) (hF _ (by simp [Op.operands])) hq)
  · rename_i x
    split at hr
    · rename_i q hx
      simp only [Option.some.injEq] at hr; subst hr
      have := hF x (by simp [Op.operands])
      rw [hx] at this
      generalize hev : a.eval x = v at this
      cases this with
      | ptr b o hb => exact ⟨E, _, w, by simp only [execOp, hev]; rfl, .inr ⟨_, rfl, .ptr b o hb⟩, .refl E, h⟩
    · rename_i f c hx
      simp only [Option.some.injEq] at hr; subst hr
      have := hF x (by simp [Op.operands])
      rw [hx] at this
      generalize hev : a.eval x = v at this
      cases this with
      | fn _ _ cs h1 h2 => exact ⟨E, _, w, by simp only [execOp, hev]; rfl, .inr ⟨_, rfl, .fn f c cs h1 h2⟩, .refl E, h⟩
    · cases hr
  · simp only [Option.map_eq_some_iff] at hr
    obtain ⟨q, hq, rfl⟩ := hr
    exact .of (snd_bin h (hF _ (by simp [Op.operands])) (hF _ (by simp [Op.operands])) _ _ hq)
  · simp only [Option.map_eq_some_iff] at hr
    obtain ⟨q, hq, rfl⟩ := hr
    exact .of (snd_un h (hF _ (by simp [Op.operands])) hq)
  · simp only [Option.map_eq_some_iff] at hr
    obtain ⟨q, hq, rfl⟩ := hr
    exact .of (snd_conv h (hF _ (by simp [Op.operands])) hq)
  · rename_i fn first caps
    split at hr
    · rename_i f
      obtain ⟨h0, rfl⟩ := need_of hr
      have hf0 : first.map a.eval = #[] := by
        have : first = #[] := by apply Array.eq_empty_of_size_eq_zero; simpa using h0
        rw [this]; simp
      refine ⟨E, .value (.func (.func f) #[] (caps.map a.eval)), w, by simp [execOp, Instr.makeFunc, hf0], .inr ⟨_, rfl, ?_⟩, .refl E, h⟩
      have := (relL_evs caps.toList (fun p hp => hF p (by simp [Op.operands]; exact .inr (by simpa using hp)))).fn (f := f)
      rwa [map_toArr] at this
    · cases hr
  · rename_i t rs
    split at hr
    · simp only [Option.some.injEq] at hr; subst hr
      exact .of (snd_makeMap h t)
    · rename_i x
      split at hr
      · rename_i k n hx
        simp only [Option.map_eq_some_iff] at hr
        obtain ⟨⟨kt, et⟩, ht, rfl⟩ := hr
        obtain ⟨hu, -, -⟩ := tMap_spec ht
        have := hF x (by simp [Op.operands])
        rw [hx] at this
        have hev : a.eval x = .int k n := rel_int_inv this
        obtain ⟨E', v, w', h1, h2, h3, h4⟩ := snd_makeMap (P := P) h t
        refine ⟨E', .value v, w', ?_, .inr ⟨v, rfl, h3⟩, h2, h4⟩
        simp only [Instr.makeMap] at h1
        simp [execOp, Instr.makeMap, hev, run_underlying hu, asInt, asIntOf] at h1 ⊢
        exact h1
      · cases hr
  · exact .of (snd_makeSlice h (hF _ (by simp [Op.operands])) (hF _ (by simp [Op.operands])) hr)
  · simp only [Option.map_eq_some_iff] at hr
    obtain ⟨q, hq, rfl⟩ := hr
    exact .of (snd_slice h (hF _ (by simp [Op.operands])) (optRel_map _ (fun y e => hF y (by simp [Op.operands, e]))) (optRel_map _ (fun y e => hF y (by simp [Op.operands, e]))) (optRel_map _ (fun y e => hF y (by simp [Op.operands, e]))) hq)
  · simp only [Option.map_eq_some_iff] at hr
    obtain ⟨q, hq, rfl⟩ := hr
    exact .of (snd_fieldAddr h (hF _ (by simp [Op.operands])) hq)
  · simp only [Option.map_eq_some_iff] at hr
    obtain ⟨q, hq, rfl⟩ := hr
    exact .of (snd_field h (hF _ (by simp [Op.operands])) hq)
  · simp only [Option.map_eq_some_iff] at hr
    obtain ⟨q, hq, rfl⟩ := hr
    exact .of (snd_indexAddr h (hF _ (by simp [Op.operands])) (hF _ (by simp [Op.operands])) hq)
  · simp only [Option.map_eq_some_iff] at hr
    obtain ⟨q, hq, rfl⟩ := hr
    exact .of (snd_index h (hF _ (by simp [Op.operands])) (hF _ (by simp [Op.operands])) hq)
  · simp only [Option.map_eq_some_iff] at hr
    obtain ⟨q, hq, rfl⟩ := hr
    exact .of (snd_lookup h (hF _ (by simp [Op.operands])) (hF _ (by simp [Op.operands])) hq)
  · simp only [Option.map_eq_some_iff] at hr
    obtain ⟨q, hq, rfl⟩ := hr
    exact .ofU (snd_mapUpdate h (hF _ (by simp [Op.operands])) (hF _ (by simp [Op.operands])) (hF _ (by simp [Op.operands])) hq)
  · simp only [Option.map_eq_some_iff] at hr
    obtain ⟨q, hq, rfl⟩ := hr
    exact .of (snd_extract h (hF _ (by simp [Op.operands])) hq)
  · rename_i c
    split at hr
    · rename_i b hc
      obtain ⟨callee, args, argTypes⟩ := c
      simp only at hc hr
      subst hc
      have := snd_builtin h (relL_evs args.toList (fun p hp => hF p (by simp [Op.operands, Call.operands]; simpa using hp))) type (args.map fun | .const _ => true | _ => false) hr
      simp only [execOp, resolve]
      obtain ⟨E', n, w', h1, h2⟩ := this
      refine ⟨E', n, w', ?_, h2⟩
      simp only [Sem.run_bind, Sem.run_pure, Result.andThen_ok, invoke]
      rw [map_toArr, Array.toArray_toList] at h1
      exact h1
    · cases hr
  · cases hr
end
end Go.Proofs.Ytjfnbcifafmefaa
