/- The abstract machine: arguments of any types of numbers, marks, structs and slices are opened at the top. Conditions: as each theorem states. -/
import Derived.Test.YtjfnbcifafmefaaAmP
import Derived.WideShapes
import Derived.ChangeArms
import Derived.Deep.Fields
namespace Go.Proofs.Ytjfnbcifafmefaa
set_option linter.unusedSimpArgs false
set_option linter.unusedVariables false
open Go.RowKit Go.ChangeShapes Go.WideShapes

/-- The types of a type's cells: numbers, marks, slices. -/
def leafs (P : Program) : Nat → TypeId → Option (List TypeId)
  | 0, _ => none
  | n + 1, t =>
    match P.underlying t with
    | some (.int _) => some [t]
    | some .bool => some [t]
    | some (.slice e) => (leafs P n e).bind fun l => if l.length = P.cellsOf e ∧ 0 < l.length then some [t] else none
    | some (.struct fs) => (fs.toList.foldl (fun acc f => acc.bind fun (l : List TypeId) => (leafs P n f.type).bind fun m => if f.offset = l.length ∧ m.length = P.cellsOf f.type then some (l ++ m) else none) (some [])).bind fun l => if l.length = P.cellsOf t then some l else none
    | _ => none
/-- A cell's value is of a leaf type. -/
def LTy (P : Program) (H : AHeap) : Nat → TypeId → AV → Prop
  | 0, _, _ => False
  | n + 1, t, x =>
    match P.underlying t with
    | some .bool => ∃ b, x = .bool b
    | some (.int k) => ∃ z, x = .int k z ∧ (Lit.int k z).wf = true
    | some (.slice e) => ∃ (b : Nat) (rows : List (List AV)) (ls : List TypeId), x = .sl (some (b, 0)) rows.length none ∧ leafs P n e = some ls ∧ rows.length ≤ maxLen ∧ H[b]? = some (.cells false ls.length rows.flatten) ∧
        ∀ r : List AV, r ∈ rows → r.length = ls.length ∧ ∀ (j : Nat) (l : TypeId) (y : AV), ls[j]? = some l → r[j]? = some y → LTy P H n l y
    | _ => False
theorem LTy.app {P : Program} {H : AHeap} (l' : AHeap) : ∀ {n : Nat} {t : TypeId} {x : AV}, LTy P H n t x → LTy P (H ++ l') n t x
  | 0, _, _, h => by simp [LTy] at h
  | n + 1, t, x, h => by
    unfold LTy at h ⊢
    split at h
    · exact h
    · exact h
    · obtain ⟨b, rows, ls, h1, h2, h2', h3, h4⟩ := h
      exact ⟨b, rows, ls, h1, h2, h2', get_app h3, fun r hr => ⟨(h4 r hr).1, fun j l y hj hy => ((h4 r hr).2 j l y hj hy).app l'⟩⟩
    · exact h
/-- A row of cells is of the types ls. -/
def RTy (P : Program) (H : AHeap) (n : Nat) (ls : List TypeId) (r : List AV) : Prop := r.length = ls.length ∧ ∀ (j : Nat) (l : TypeId) (y : AV), ls[j]? = some l → r[j]? = some y → LTy P H n l y
theorem RTy.app {P : Program} {H : AHeap} (l' : AHeap) {n : Nat} {ls : List TypeId} {r : List AV} (h : RTy P H n ls r) : RTy P (H ++ l') n ls r := ⟨h.1, fun j l y a b => (h.2 j l y a b).app l'⟩
/-- A value is of type t. -/
def ATy (P : Program) (H : AHeap) (n : Nat) (t : TypeId) (x : AV) : Prop := ∃ ls xs, leafs P n t = some ls ∧ RTy P H n ls xs ∧ ((tAgg P t = some true ∧ x = .agg xs) ∨ (tAgg P t = some false ∧ xs = [x]))
theorem ATy.app {P : Program} {H : AHeap} (l' : AHeap) {n : Nat} {t : TypeId} {x : AV} (h : ATy P H n t x) : ATy P (H ++ l') n t x := by
  obtain ⟨ls, xs, h1, h2, h3⟩ := h
  exact ⟨ls, xs, h1, h2.app l', h3⟩
section
variable {K : Type} {enc : TypeId × Value → K} {P : Program} {w : World} {base : Nat} {held : Bool}
/-- Cells that are read at the types ls. -/
def Reads (enc : TypeId × Value → K) (P : Program) (w : World) (base : Nat) (held : Bool) (ls : List TypeId) (cs : List Value) : Prop :=
  cs.length = ls.length ∧ ∀ (j : Nat) (l : TypeId) (v : Value), ls[j]? = some l → cs[j]? = some v → ∃ fuel y, DataW.trod enc P w base (fun _ => true) held fuel l [v] = some y
theorem Reads.append {ls ms : List TypeId} {cs ds : List Value} (h : Reads enc P w base held ls cs) (k : Reads enc P w base held ms ds) : Reads enc P w base held (ls ++ ms) (cs ++ ds) := by
  refine ⟨by simp [h.1, k.1], fun j l v hl hv => ?_⟩
  by_cases hj : j < ls.length
  · rw [List.getElem?_append_left hj] at hl
    rw [List.getElem?_append_left (by rw [h.1]; exact hj)] at hv
    exact h.2 j l v hl hv
  · rw [List.getElem?_append_right (by omega)] at hl
    rw [List.getElem?_append_right (by rw [h.1]; omega), h.1] at hv
    exact k.2 _ l v hl hv
theorem leafs_reads : ∀ (n : Nat) (t : TypeId) (ls : List TypeId), leafs P n t = some ls → ∀ (fuel : Nat) (cs : List Value) (y : DataW K × List MemPlace), DataW.trod enc P w base (fun _ => true) held fuel t cs = some y → Reads enc P w base held ls cs
  | 0, _, _, h => by simp [leafs] at h
  | n + 1, t, ls, h => by
    intro fuel cs y hy
    unfold leafs at h
    split at h
    · rename_i k ht
      simp at h; subst h
      obtain ⟨z, rfl, -, -⟩ := DataW.trod_int ht hy
      exact ⟨rfl, fun j l v hl hv => by cases j with
        | zero => simp at hl hv; subst hl hv; exact ⟨fuel, y, hy⟩
        | succ j => simp at hl⟩
    · rename_i ht
      simp at h; subst h
      obtain ⟨z, rfl, -⟩ := DataW.trod_bool ht hy
      exact ⟨rfl, fun j l v hl hv => by cases j with
        | zero => simp at hl hv; subst hl hv; exact ⟨fuel, y, hy⟩
        | succ j => simp at hl⟩
    · rename_i e ht
      obtain ⟨l, -, h⟩ := bind_some' h
      split at h
      · simp at h; subst h
        have h1 : ∃ v, cs = [v] := by
          rcases DataW.trod_slice ht hy with ⟨rfl, -⟩ | ⟨a, len, cap, _, _, _, -, rfl, -⟩
          · exact ⟨_, rfl⟩
          · exact ⟨_, rfl⟩
        obtain ⟨v, rfl⟩ := h1
        exact ⟨rfl, fun j l v hl hv => by cases j with
          | zero => simp at hl hv; subst hl hv; exact ⟨fuel, y, hy⟩
          | succ j => simp at hl⟩
      · cases h
    · rename_i fs ht
      obtain ⟨L, hL, h⟩ := bind_some' h
      split at h
      · rename_i hlen
        simp at h; subst h
        obtain ⟨xs, m, -, -, hcl, hxl, hf⟩ := DataW.trod_struct ht hy
        have gen : ∀ (l : List Field) (done : List TypeId), (∀ f ∈ l, ∃ i : Nat, fs[i]? = some f) → done.length ≤ cs.length → Reads enc P w base held done (cs.take done.length) →
            l.foldl (fun acc f => acc.bind fun (l : List TypeId) => (leafs P n f.type).bind fun m => if f.offset = l.length ∧ m.length = P.cellsOf f.type then some (l ++ m) else none) (some done) = some L → Reads enc P w base held L (cs.take L.length) := by
          intro l
          induction l with
          | nil => intro done _ _ hd h; simp at h; subst h; exact hd
          | cons f l ih =>
            intro done hmem hle hd h
            simp only [List.foldl_cons, Option.bind_some] at h
            cases hm : leafs P n f.type with
            | none =>
              rw [hm] at h
              simp only [Option.bind_none] at h
              exfalso
              clear ih hd hmem hL
              induction l with
              | nil => simp at h
              | cons f' l ih => simp only [List.foldl_cons, Option.bind_none] at h; exact ih h
            | some ms =>
              rw [hm] at h
              simp only [Option.bind_some] at h
              by_cases hc : f.offset = done.length ∧ ms.length = P.cellsOf f.type
              · rw [if_pos hc] at h
                obtain ⟨i, hi⟩ := hmem f (by simp)
                have h1 := hf i f hi
                have hxi : ∃ z, xs[i]? = some z := by
                  have : i < xs.length := by
                    have a := (Array.getElem?_eq_some_iff.1 hi).1
                    have b := hxl
                    omega
                  exact ⟨_, List.getElem?_eq_getElem this⟩
                obtain ⟨z, hz⟩ := hxi
                rw [hz] at h1
                have hr := leafs_reads n f.type ms hm m _ z h1
                have hrl := hr.1
                rw [List.length_take, List.length_drop] at hrl
                have e1 : cs.take (done ++ ms).length = cs.take done.length ++ (cs.drop f.offset).take (P.cellsOf f.type) := by
                  rw [List.length_append, hc.1, ← hc.2, List.take_add]
                refine ih (done ++ ms) (fun f' hf' => hmem f' (by simp [hf'])) (by rw [List.length_append]; omega) ?_ h
                rw [e1]
                exact hd.append hr
              · rw [if_neg hc] at h
                exfalso
                clear ih hd hmem hL
                induction l with
                | nil => simp at h
                | cons f' l ih => simp only [List.foldl_cons, Option.bind_none] at h; exact ih h
        have := gen fs.toList [] (fun f hf => by
          obtain ⟨i, hi⟩ := List.getElem?_of_mem hf
          exact ⟨i, by simpa using hi⟩) (by simp) ⟨by simp, fun j l v hl => by simp at hl⟩ hL
        rwa [List.take_of_length_le (by omega)] at this
      · cases h
    · cases h
/-- The abstract memory says nothing of what is above: all blocks are the caller's. -/
structure Top (E : Env) (H : AHeap) (w : World) : Prop where
  emb : Emb E H w
  B : E.B = w.heap.size
  w0 : E.w0 = w
theorem Top.push {E : Env} {H : AHeap} (h : Top E H w) {a : Addr} {len cap es : Nat} {xs : List AV} (hsp : 0 < cap → a.spot = none) (hes : 0 < es) (hlen : xs.length = len * es) (hlc : len ≤ cap) (hcm : cap ≤ maxLen)
    (hx : ∀ (j : Nat) (x : AV), xs[j]? = some x → x.one = true ∧ ∃ v, w.cell? ⟨a.block, a.off + j, none⟩ = some v ∧ Rel E x v) (hb : 0 < xs.length → a.block < w.heap.size) :
    ∃ E', E.le E' ∧ Top E' (H ++ [.cells false es xs]) w ∧ Rel E' (.sl (some (H.length, 0)) len none) (.slice (some a) len cap) := by
  have hle := E.le_push ⟨a.block, a.off, cap * es, es⟩
  have hn := h.emb.n
  have e1 : (E.push ⟨a.block, a.off, cap * es, es⟩).loc H.length = ⟨a.block, a.off, cap * es, es⟩ := by rw [← hn]; exact Env.push_new _ _
  refine ⟨E.push ⟨a.block, a.off, cap * es, es⟩, hle, ⟨⟨by simp [Env.push, hn], h.emb.below, h.emb.base, fun b x hbx => ?_, fun b c x y hbx hcy ox oy hbc => ?_⟩, h.B, h.w0⟩, ?_⟩
  · by_cases hbl : b < H.length
    · rw [List.getElem?_append_left hbl] at hbx
      rw [Env.push_old _ _ (by omega)]
      exact (h.emb.blk b x hbx).mono hle (Nat.le_refl _) (fun _ => rfl) (fun _ => rfl)
    · have hbe : b = H.length := by have := getElem?_lt hbx; simp at this; omega
      subst hbe
      rw [List.getElem?_append_right (Nat.le_refl _), Nat.sub_self] at hbx
      simp at hbx; subst hbx
      rw [e1]
      refine ⟨fun j x hj => ?_, (fun h => by cases h), fun _ h0 => ?_, rfl⟩
      · obtain ⟨h1, v, h2, h3⟩ := hx j x hj
        exact ⟨h1, v, h2, h3.mono hle⟩
      · show a.block < E.B
        rw [h.B]; exact hb h0
  · by_cases hbl : b < H.length
    · by_cases hcl : c < H.length
      · rw [List.getElem?_append_left hbl] at hbx
        rw [List.getElem?_append_left hcl] at hcy
        rw [Env.push_old _ _ (by omega), Env.push_old _ _ (by omega)]
        exact h.emb.inj b c x y hbx hcy ox oy hbc
      · have hbe : c = H.length := by have := getElem?_lt hcy; simp at this; omega
        subst hbe
        rw [List.getElem?_append_right (Nat.le_refl _), Nat.sub_self] at hcy
        simp at hcy; subst hcy; cases oy
    · have hbe : b = H.length := by have := getElem?_lt hbx; simp at this; omega
      subst hbe
      rw [List.getElem?_append_right (Nat.le_refl _), Nat.sub_self] at hbx
      simp at hbx; subst hbx; cases ox
  · refine .sl _ _ _ _ _ _ (by simp [Env.push, hn]) hlc hcm (.inl rfl) ?_ ?_
    · rcases Nat.eq_zero_or_pos cap with h0 | h0
      · exact .inl h0
      · right
        rw [e1]
        obtain ⟨b, o, s⟩ := a
        simp only at hsp
        rw [hsp h0]; rfl
    · rw [e1]; simp
def leafP (P : Program) (t : TypeId) : Bool := match P.underlying t with
  | some (.int _) | some .bool | some (.slice _) => true
  | _ => false
theorem foldl_none {α β : Type} (f : Option β → α → Option β) (hf : ∀ a, f none a = none) : ∀ l : List α, l.foldl f none = none
  | [] => rfl
  | a :: l => by rw [List.foldl_cons, hf]; exact foldl_none f hf l
theorem leafs_fold {n : Nat} : ∀ (l : List Field) (done L : List TypeId), l.foldl (fun acc f => acc.bind fun (l : List TypeId) => (leafs P n f.type).bind fun m => if f.offset = l.length ∧ m.length = P.cellsOf f.type then some (l ++ m) else none) (some done) = some L →
    ∀ x ∈ L, x ∈ done ∨ ∃ f ∈ l, ∃ m, leafs P n f.type = some m ∧ x ∈ m
  | [], done, L, h, x, hx => by simp at h; subst h; exact .inl hx
  | f :: l, done, L, h, x, hx => by
    simp only [List.foldl_cons, Option.bind_some] at h
    cases hm : leafs P n f.type with
    | none => rw [hm, Option.bind_none, foldl_none _ (fun _ => rfl)] at h; cases h
    | some m =>
      rw [hm, Option.bind_some] at h
      split at h
      · rcases leafs_fold l _ L h x hx with h1 | ⟨f', h1, h2⟩
        · rcases List.mem_append.1 h1 with h1 | h1
          · exact .inl h1
          · exact .inr ⟨f, by simp, m, hm, h1⟩
        · exact .inr ⟨f', by simp [h1], h2⟩
      · rw [foldl_none _ (fun _ => rfl)] at h; cases h
theorem leafs_mono : ∀ (n : Nat) (t : TypeId) (ls : List TypeId), leafs P n t = some ls → leafs P (n + 1) t = some ls
  | 0, _, _, h => by simp [leafs] at h
  | n + 1, t, ls, h => by
    unfold leafs at h ⊢
    split at h
    · exact h
    · exact h
    · obtain ⟨l, h1, h2⟩ := bind_some' h
      rw [leafs_mono n _ l h1]
      exact h2
    · rename_i fs ht
      obtain ⟨L, h1, h2⟩ := bind_some' h
      have gen : ∀ (l : List Field) (done : List TypeId), l.foldl (fun acc f => acc.bind fun (l : List TypeId) => (leafs P n f.type).bind fun m => if f.offset = l.length ∧ m.length = P.cellsOf f.type then some (l ++ m) else none) (some done) = some L →
          l.foldl (fun acc f => acc.bind fun (l : List TypeId) => (leafs P (n + 1) f.type).bind fun m => if f.offset = l.length ∧ m.length = P.cellsOf f.type then some (l ++ m) else none) (some done) = some L := by
        intro l
        induction l with
        | nil => exact fun _ h => h
        | cons f l ih =>
          intro done h
          simp only [List.foldl_cons, Option.bind_some] at h ⊢
          cases hm : leafs P n f.type with
          | none => rw [hm, Option.bind_none, foldl_none _ (fun _ => rfl)] at h; cases h
          | some m =>
            rw [hm, Option.bind_some] at h
            rw [leafs_mono n _ m hm, Option.bind_some]
            split at h
            · rename_i hc; rw [if_pos hc]; exact ih _ h
            · rw [foldl_none _ (fun _ => rfl)] at h; cases h
      rw [gen _ _ h1]
      exact h2
    · cases h
theorem leafs_self : ∀ (n : Nat) (t : TypeId) (ls : List TypeId), leafs P n t = some ls → ∀ l ∈ ls, leafP P l = true ∧ leafs P n l = some [l]
  | 0, _, _, h => by simp [leafs] at h
  | n + 1, t, ls, h => by
    have h0 := h
    unfold leafs at h
    split at h
    · rename_i k ht
      simp at h; subst h
      exact fun l hl => by simp at hl; subst hl; exact ⟨by unfold leafP; rw [ht], h0⟩
    · rename_i ht
      simp at h; subst h
      exact fun l hl => by simp at hl; subst hl; exact ⟨by unfold leafP; rw [ht], h0⟩
    · rename_i e ht
      obtain ⟨l, h1, h2⟩ := bind_some' h
      split at h2
      · simp at h2; subst h2
        exact fun l hl => by simp at hl; subst hl; exact ⟨by unfold leafP; rw [ht], h0⟩
      · cases h2
    · rename_i fs ht
      obtain ⟨L, h1, h2⟩ := bind_some' h
      split at h2
      · simp at h2; subst h2
        intro l hl
        rcases leafs_fold _ _ _ h1 l hl with h3 | ⟨f, -, m, h4, h5⟩
        · simp at h3
        · obtain ⟨k1, k2⟩ := leafs_self n f.type m h4 l h5
          exact ⟨k1, leafs_mono n l _ k2⟩
      · cases h2
    · cases h
/-- What opening a cell gives. -/
def OpenAt (K : Type) (enc : TypeId × Value → K) (P : Program) (w : World) (base : Nat) (held : Bool) (n : Nat) : Prop :=
  ∀ (t : TypeId) (v : Value) (fuel : Nat) (y : DataW K × List MemPlace), leafP P t = true → leafs P n t = some [t] → DataW.trod enc P w base (fun _ => true) held fuel t [v] = some y → ∀ (E : Env) (H : AHeap), Top E H w →
    ∃ (E' : Env) (l : AHeap) (x : AV), E.le E' ∧ Top E' (H ++ l) w ∧ Rel E' x v ∧ x.one = true ∧ LTy P (H ++ l) n t x
theorem open_row {n : Nat} (IH : OpenAt K enc P w base held n) : ∀ (ls : List TypeId) (cs : List Value), (∀ l ∈ ls, leafP P l = true ∧ leafs P n l = some [l]) → Reads enc P w base held ls cs → ∀ (E : Env) (H : AHeap), Top E H w →
    ∃ (E' : Env) (l : AHeap) (xs : List AV), E.le E' ∧ Top E' (H ++ l) w ∧ RelL E' xs cs ∧ (∀ x ∈ xs, x.one = true) ∧ RTy P (H ++ l) n ls xs
  | [], cs, _, hr, E, H, hT => by
    have : cs = [] := List.eq_nil_of_length_eq_zero hr.1
    subst this
    exact ⟨E, [], [], .refl E, by simpa using hT, .nil E, fun x hx => by simp at hx, rfl, fun j l y h => by simp at h⟩
  | t :: ls, cs, hl, hr, E, H, hT => by
    cases cs with
    | nil => have := hr.1; simp at this
    | cons v cs =>
      obtain ⟨fuel, y, hy⟩ := hr.2 0 t v rfl rfl
      obtain ⟨E1, l1, x, e1, t1, r1, o1, y1⟩ := IH t v fuel y (hl t (by simp)).1 (hl t (by simp)).2 hy E H hT
      obtain ⟨E2, l2, xs, e2, t2, r2, o2, y2⟩ := open_row IH ls cs (fun l h => hl l (by simp [h])) ⟨by have := hr.1; simpa using this, fun j l u h1 h2 => hr.2 (j + 1) l u (by simpa using h1) (by simpa using h2)⟩ E1 (H ++ l1) t1
      refine ⟨E2, l1 ++ l2, x :: xs, e1.trans e2, by simpa using t2, .cons (r1.mono e2) r2, fun z hz => ?_, by simp [y2.1], fun j l u h1 h2 => ?_⟩
      · rcases List.mem_cons.1 hz with rfl | hz
        · exact o1
        · exact o2 z hz
      · cases j with
        | zero =>
          simp at h1 h2; subst h1 h2
          have := y1.app l2
          simpa using this
        | succ j => 
          have := y2.2 j l u (by simpa using h1) (by simpa using h2)
          simpa using this
theorem flat_len {es : Nat} : ∀ (rows : List (List AV)), (∀ r : List AV, r ∈ rows → r.length = es) → rows.flatten.length = rows.length * es
  | [], _ => by simp
  | r :: rows, h => by
    have := flat_len rows (fun r' h' => h r' (by simp [h']))
    have := h r (by simp)
    simp only [List.flatten_cons, List.length_append, List.length_cons, Nat.add_mul, Nat.one_mul]
    omega
theorem open_leaf : ∀ (n : Nat), OpenAt K enc P w base held n
  | 0 => fun _ _ _ _ _ h => by simp [leafs] at h
  | n + 1 => fun t v fuel y hp h hy E H hT => by
    unfold leafs at h
    split at h
    · rename_i k ht
      obtain ⟨z, hz, -, hw⟩ := DataW.trod_int ht hy
      simp at hz; subst hz
      exact ⟨E, [], .int k z, .refl E, by simpa using hT, .int k z, rfl, by unfold LTy; rw [ht]; exact ⟨z, rfl, hw⟩⟩
    · rename_i ht
      obtain ⟨z, hz, -⟩ := DataW.trod_bool ht hy
      simp at hz; subst hz
      exact ⟨E, [], .bool z, .refl E, by simpa using hT, .bool z, rfl, by unfold LTy; rw [ht]; exact ⟨z, rfl⟩⟩
    · rename_i e ht
      obtain ⟨ls, hls, h⟩ := bind_some' h
      split at h
      · rename_i hc
        rcases DataW.trod_slice ht hy with ⟨hv, -⟩ | ⟨a, len, cap, elems, rest, m, -, hv, -, hb, hlc, hcm, hel, hei, hsp, -⟩
        · simp at hv; subst hv
          refine ⟨E.push ⟨0, 0, 0, ls.length⟩, [.cells false ls.length []], .sl (some (H.length, 0)) 0 none, E.le_push _, ⟨hT.emb.phantom rfl, hT.B, hT.w0⟩, .nils _ _ (by rw [← hT.emb.n]; exact Nat.lt_succ_self _) (.inl rfl), rfl, ?_⟩
          unfold LTy; rw [ht]
          exact ⟨H.length, [], ls, rfl, hls, by simp, by simp, fun r h => by simp at h⟩
        · simp at hv; subst hv
          obtain ⟨hrl, hri⟩ := hsp rfl
          have hrow : ∀ i, i < len → ∃ cs, w.cells? base (a.add (i * P.cellsOf e)) (P.cellsOf e) = some cs ∧ Reads enc P w base held ls cs := fun i hi => by
            have h1 := hei i hi
            have hi' : i < elems.length := by omega
            rw [List.getElem?_eq_getElem hi'] at h1
            obtain ⟨cs, h2, h3⟩ := Option.bind_eq_some_iff.1 h1
            exact ⟨cs, h2, leafs_reads n e ls hls _ _ _ h3⟩
          have hspot : 0 < cap → a.spot = none := fun h0 => by
            have hz : ∃ cs, w.cells? base (a.add (0 * P.cellsOf e)) (P.cellsOf e) = some cs := by
              rcases Nat.eq_zero_or_pos len with hl0 | hl0
              · have h1 := hri 0 (by omega)
                have hi' : 0 < rest.length := by omega
                rw [List.getElem?_eq_getElem hi', hl0, Nat.zero_add] at h1
                obtain ⟨cs, h2, -⟩ := Option.bind_eq_some_iff.1 h1
                exact ⟨cs, h2⟩
              · obtain ⟨cs, h2, -⟩ := hrow 0 hl0
                exact ⟨cs, h2⟩
            obtain ⟨cs, hz⟩ := hz
            obtain ⟨-, hcl, hc0⟩ := World.cells?_some hz
            have := hc0 0 (by omega)
            rw [List.getElem?_eq_getElem (by omega)] at this
            have hs := World.cell?_spot this
            simpa [Addr.add] using hs
          have hrowlt : ∀ i, i < len → a.block < w.heap.size := fun i hi => by
            obtain ⟨cs, h2, -⟩ := hrow i hi
            have := World.cells?_block h2 (by omega)
            rwa [block_add] at this
          -- all rows, one behind the other
          have all : ∀ k, k ≤ len → ∃ (E' : Env) (l : AHeap) (rows : List (List AV)), E.le E' ∧ Top E' (H ++ l) w ∧ rows.length = k ∧ (∀ r : List AV, r ∈ rows → RTy P (H ++ l) n ls r) ∧
              ∀ (j : Nat) (x : AV), rows.flatten[j]? = some x → x.one = true ∧ ∃ v, w.cell? ⟨a.block, a.off + j, none⟩ = some v ∧ Rel E' x v := by
            intro k
            induction k with
            | zero => exact fun _ => ⟨E, [], [], .refl E, by simpa using hT, rfl, fun r hr => by simp at hr, fun j x h => by simp at h⟩
            | succ k ih =>
              intro hk
              obtain ⟨E1, l1, rows, e1, t1, r1, r2, r3⟩ := ih (by omega)
              obtain ⟨cs, c1, c2⟩ := hrow k (by omega)
              obtain ⟨E2, l2, xs, e2, t2, x1, x2, x3⟩ := open_row (open_leaf n) ls cs (fun l hl => leafs_self n e ls hls l hl) c2 E1 (H ++ l1) t1
              obtain ⟨-, hcl, hcc⟩ := World.cells?_some c1
              have hfl : rows.flatten.length = k * ls.length := by rw [flat_len rows (fun r hr => (r2 r hr).1), r1]
              refine ⟨E2, l1 ++ l2, rows ++ [xs], e1.trans e2, by simpa using t2, by simp [r1], fun r hr => ?_, fun j x hj => ?_⟩
              · rcases List.mem_append.1 hr with hr | hr
                · have := (r2 r hr).app l2
                  simpa using this
                · simp at hr; subst hr
                  simpa using x3
              · rw [List.flatten_append] at hj
                simp only [List.flatten_cons, List.flatten_nil, List.append_nil] at hj
                by_cases hjl : j < rows.flatten.length
                · rw [List.getElem?_append_left hjl] at hj
                  obtain ⟨q1, v, q2, q3⟩ := r3 j x hj
                  exact ⟨q1, v, q2, q3.mono e2⟩
                · rw [List.getElem?_append_right (by omega)] at hj
                  have hjx := getElem?_lt hj
                  have hxl : xs.length = cs.length := x1.1
                  have hcj := hcc (j - rows.flatten.length) (by omega)
                  obtain ⟨v, hv, hr⟩ := x1.get hj
                  refine ⟨x2 x (List.mem_of_getElem? hj), v, ?_, hr⟩
                  rw [hv, hfl] at hcj
                  have hs := hspot (by omega)
                  obtain ⟨ab, ao, sp⟩ := a
                  simp only at hs
                  subst hs
                  rw [← hc.1] at hcj
                  have ea : (({ block := ab, off := ao, spot := none } : Addr).add (k * ls.length)).add (j - k * ls.length) = ⟨ab, ao + j, none⟩ := by
                    have : ∀ (m : Nat), ({ block := ab, off := ao, spot := none } : Addr).add m = ⟨ab, ao + m, none⟩ := fun m => add_addr ab ao m
                    rw [this, add_addr]
                    congr 1; omega
                  rw [ea] at hcj
                  exact hcj
          obtain ⟨E1, l1, rows, e1, t1, r1, r2, r3⟩ := all len (Nat.le_refl _)
          have hfl : rows.flatten.length = len * ls.length := by rw [flat_len rows (fun r hr => (r2 r hr).1), r1]
          obtain ⟨E2, e2, t2, hrel⟩ := t1.push (a := a) (len := len) (cap := cap) (es := ls.length) (xs := rows.flatten) hspot hc.2 hfl hlc hcm r3 (fun h0 => hrowlt 0 (by
            rcases Nat.eq_zero_or_pos len with hl0 | hl0
            · rw [hfl, hl0] at h0; simp at h0
            · exact hl0))
          refine ⟨E2, l1 ++ [.cells false ls.length rows.flatten], .sl (some ((H ++ l1).length, 0)) len none, e1.trans e2, by simpa using t2, hrel, rfl, ?_⟩
          unfold LTy
          rw [ht]
          refine ⟨(H ++ l1).length, rows, ls, by rw [r1], hls, by omega, ?_, fun r hr => ?_⟩
          · rw [← List.append_assoc, List.getElem?_append_right (Nat.le_refl _), Nat.sub_self]; rfl
          · have := (r2 r hr).app [.cells false ls.length rows.flatten]
            rw [List.append_assoc] at this
            exact this
      · cases h
    · rename_i fs ht
      unfold leafP at hp; rw [ht] at hp; cases hp
    · cases h
theorem tAgg_leaf {t : TypeId} (h : leafP P t = true) : tAgg P t = some false := by
  unfold leafP at h
  unfold tAgg
  split at h <;> first | (rename_i h1; rw [h1]) | cases h
/-- An argument opened. -/
theorem open_arg {r : Reach} {b0 : Nat} {n : Nat} {t : TypeId} {v : Value} {d : DataW K} {p : List MemPlace} {ls : List TypeId} (hl : leafs P n t = some ls) (hok : Value.okWide P w r b0 t v) (h : DataW.Trod enc P w base (fun _ => true) held t v d p) {E : Env} {H : AHeap} (hT : Top E H w) :
    ∃ (E' : Env) (l : AHeap) (x : AV), E.le E' ∧ Top E' (H ++ l) w ∧ Rel E' x v ∧ ATy P (H ++ l) n t x := by
  obtain ⟨fuel, hf⟩ := h
  cases n with
  | zero => simp [leafs] at hl
  | succ n =>
    have hl0 := hl
    have leaf : ∀ (hp : leafP P t = true) (hs : leafs P (n + 1) t = some [t]) (hv : v.cells.toList = [v]), ∃ (E' : Env) (l : AHeap) (x : AV), E.le E' ∧ Top E' (H ++ l) w ∧ Rel E' x v ∧ ATy P (H ++ l) (n + 1) t x := fun hp hs hv => by
      rw [hv] at hf
      obtain ⟨E', l, x, e1, t1, r1, o1, y1⟩ := open_leaf (n + 1) t v fuel _ hp hs hf E H hT
      exact ⟨E', l, x, e1, t1, r1, [t], [x], hs, ⟨rfl, fun j l y hj hy => by cases j with
        | zero => simp at hj hy; subst hj hy; exact y1
        | succ j => simp at hj⟩, .inr ⟨tAgg_leaf hp, rfl⟩⟩
    unfold leafs at hl
    split at hl
    · rename_i k ht
      simp at hl; subst hl
      obtain ⟨z, rfl⟩ := okWide_int ht hok
      exact leaf (by unfold leafP; rw [ht]) hl0 rfl
    · rename_i ht
      simp at hl; subst hl
      obtain ⟨z, rfl⟩ := okWide_bool ht hok
      exact leaf (by unfold leafP; rw [ht]) hl0 rfl
    · rename_i e ht
      obtain ⟨l, h1, h2⟩ := bind_some' hl
      split at h2
      · simp at h2; subst h2
        obtain ⟨a, b, c, rfl⟩ := okWide_slice ht hok
        exact leaf (by unfold leafP; rw [ht]) hl0 rfl
      · cases h2
    · rename_i fs ht
      obtain ⟨cs, rfl, hsz⟩ := okWide_struct ht hok
      have hr := leafs_reads (n + 1) t ls hl0 fuel _ _ hf
      obtain ⟨E', l, xs, e1, t1, r1, o1, y1⟩ := open_row (open_leaf (n + 1)) ls _ (fun l hl => leafs_self _ _ _ hl0 l hl) hr E H hT
      refine ⟨E', l, .agg xs, e1, t1, ?_, ls, xs, hl0, y1, .inl ⟨by unfold tAgg; rw [ht], rfl⟩⟩
      have := RelL.agg r1
      simpa [Value.cells] using this
    · cases hl
theorem open_args {r : Reach} {b0 n : Nat} : ∀ (ts : List TypeId) (vs : List Value) (ds : List (DataW K)) (p : List MemPlace), DataW.TrodAll enc P w base (fun _ => true) held ts vs ds p →
    (∀ (j : Nat) (t : TypeId) (v : Value), ts[j]? = some t → vs[j]? = some v → Value.okWide P w r b0 t v) → (ts.all fun t => (leafs P n t).isSome) = true → ∀ (E : Env) (H : AHeap), Top E H w →
    ∃ (E' : Env) (l : AHeap) (xs : List AV), E.le E' ∧ Top E' (H ++ l) w ∧ RelL E' xs vs ∧ xs.length = ts.length ∧ ∀ (j : Nat) (t : TypeId) (x : AV), ts[j]? = some t → xs[j]? = some x → ATy P (H ++ l) n t x
  | [], [], [], _, _, _, _, E, H, hT => ⟨E, [], [], .refl E, by simpa using hT, .nil E, rfl, fun j t x h => by simp at h⟩
  | t :: ts, v :: vs, d :: ds, _, h, hok, hl, E, H, hT => by
    obtain ⟨p, q, h1, h2, -⟩ := h
    simp only [List.all_cons, Bool.and_eq_true] at hl
    obtain ⟨ls, hls⟩ := Option.isSome_iff_exists.1 hl.1
    obtain ⟨E1, l1, x, e1, t1, r1, y1⟩ := open_arg hls (hok 0 t v rfl rfl) h1 hT
    obtain ⟨E2, l2, xs, e2, t2, r2, n2, y2⟩ := open_args ts vs ds q h2 (fun j t v a b => hok (j + 1) t v (by simpa using a) (by simpa using b)) hl.2 E1 (H ++ l1) t1
    refine ⟨E2, l1 ++ l2, x :: xs, e1.trans e2, by simpa using t2, .cons (r1.mono e2) r2, by simp [n2], fun j t' x' a b => ?_⟩
    cases j with
    | zero =>
      simp at a b; subst a b
      have := y1.app l2
      simpa using this
    | succ j =>
      have := y2 j t' x' (by simpa using a) (by simpa using b)
      simpa using this
  | [], _ :: _, _, _, h, _, _, _, _, _ => by simp [DataW.TrodAll] at h
  | [], [], _ :: _, _, h, _, _, _, _, _ => by simp [DataW.TrodAll] at h
  | _ :: _, [], _, _, h, _, _, _, _, _ => by simp [DataW.TrodAll] at h
  | _ :: _, _ :: _, [], _, h, _, _, _, _, _ => by simp [DataW.TrodAll] at h
/-- At the top: a law by its contract at arguments of the types. -/
theorem calls_top {r : Reach} {b0 n : Nat} {f : FuncId} {ts : List TypeId} {vs : List Value} {ds : List (DataW K)} {p : List MemPlace} (hA : DataW.TrodAll enc P w base (fun _ => true) held ts vs ds p)
    (hok : ∀ (j : Nat) (t : TypeId) (v : Value), ts[j]? = some t → vs[j]? = some v → Value.okWide P w r b0 t v) (hl : (ts.all fun t => (leafs P n t).isSome) = true)
    (hc : ∀ (H : AHeap) (xs : List AV), xs.length = ts.length → (∀ (j : Nat) (t : TypeId) (x : AV), ts[j]? = some t → xs[j]? = some x → ATy P H n t x) → ACalls P f xs H (fun v H' => v = .bool true ∧ H' = H)) :
    Calls P f vs.toArray w fun e w' => e = .returned (.bool true) ∧ Below w.heap.size w w' := by
  have hT0 : Top ⟨w.heap.size, w, 0, fun _ => ⟨0, 0, 0, 0⟩⟩ [] w := ⟨⟨rfl, .refl _ _, Nat.le_refl _, fun b x h => by simp at h, fun b c x y h => by simp at h⟩, rfl, rfl⟩
  obtain ⟨E, l, xs, -, hT, hr, hn, hy⟩ := open_args ts vs ds p hA hok hl _ [] hT0
  refine (hc ([] ++ l) xs hn hy E w vs hT.emb hr).mono fun e w' ⟨E', v, H', x, he, ⟨hx, _⟩, hle, hrel, hemb⟩ => ⟨?_, ?_⟩
  · subst hx; cases hrel; exact he
  · have := hemb.below
    rw [hle.B, hle.w0, hT.B, hT.w0] at this
    exact this
end
section
variable {P : Program} {H : AHeap} {n : Nat}
/-- A slice of pairs that are the whole of a block. -/
def IsP (H : AHeap) (s : AV) (l : List (Int × Int)) : Prop := (l = [] ∧ s = .sl none 0 (some 0)) ∨ ∃ b own cap, s = .sl (some (b, 0)) l.length cap ∧ H[b]? = some (.cells own 2 (prs l))
theorem IsP.app {s : AV} {l : List (Int × Int)} (h : IsP H s l) (l' : AHeap) : IsP (H ++ l') s l := by
  rcases h with h | ⟨b, own, cap, h1, h2⟩
  · exact .inl h
  · exact .inr ⟨b, own, cap, h1, get_app h2⟩
/-- A slice of numbers that are the whole of a block. -/
def IsI (H : AHeap) (k : IntKind) (s : AV) (l : List Int) : Prop := (l = [] ∧ s = .sl none 0 (some 0)) ∨ ∃ b own cap, s = .sl (some (b, 0)) l.length cap ∧ H[b]? = some (.cells own 1 (ints k l))
theorem IsI.app {k : IntKind} {s : AV} {l : List Int} (h : IsI H k s l) (l' : AHeap) : IsI (H ++ l') k s l := by
  rcases h with h | ⟨b, own, cap, h1, h2⟩
  · exact .inl h
  · exact .inr ⟨b, own, cap, h1, get_app h2⟩
theorem wf_i64 {z : Int} (h : (Lit.int .i64 z).wf = true) : -9223372036854775808 ≤ z ∧ z ≤ 9223372036854775807 := by
  simp [Lit.wf, IntKind.min, IntKind.max, IntKind.bits, IntKind.signed] at h
  omega
theorem wf_u8 {z : Int} (h : (Lit.int .u8 z).wf = true) : 0 ≤ z ∧ z ≤ 255 := by
  simp [Lit.wf, IntKind.min, IntKind.max, IntKind.bits, IntKind.signed] at h
  omega
theorem RTy.cons {t : TypeId} {ls : List TypeId} {r : List AV} (h : RTy P H n (t :: ls) r) : ∃ y r', r = y :: r' ∧ LTy P H n t y ∧ RTy P H n ls r' := by
  cases r with
  | nil => have := h.1; simp at this
  | cons y r => exact ⟨y, r, rfl, h.2 0 t y rfl rfl, by have := h.1; simpa using this, fun j l u a b => h.2 (j + 1) l u (by simpa using a) (by simpa using b)⟩
theorem RTy.nil {r : List AV} (h : RTy P H n [] r) : r = [] := List.eq_nil_of_length_eq_zero h.1
theorem LTy.int {t : TypeId} {k : IntKind} {x : AV} (ht : P.underlying t = some (.int k)) (h : LTy P H (n + 1) t x) : ∃ z, x = .int k z ∧ (Lit.int k z).wf = true := by
  unfold LTy at h; rw [ht] at h; exact h
theorem LTy.bool {t : TypeId} {x : AV} (ht : P.underlying t = some .bool) (h : LTy P H (n + 1) t x) : ∃ b, x = .bool b := by
  unfold LTy at h; rw [ht] at h; exact h
theorem LTy.slice {t e : TypeId} {x : AV} {ls : List TypeId} (ht : P.underlying t = some (.slice e)) (hl : leafs P n e = some ls) (h : LTy P H (n + 1) t x) :
    ∃ (b : Nat) (rows : List (List AV)), x = .sl (some (b, 0)) rows.length none ∧ rows.length ≤ maxLen ∧ H[b]? = some (.cells false ls.length rows.flatten) ∧ ∀ r : List AV, r ∈ rows → RTy P H n ls r := by
  unfold LTy at h; rw [ht] at h
  obtain ⟨b, rows, ls', h1, h2, h3, h4, h5⟩ := h
  rw [hl] at h2; simp at h2; subst h2
  exact ⟨b, rows, h1, h3, h4, h5⟩
theorem ATy.agg {t : TypeId} {x : AV} {ls : List TypeId} (hl : leafs P n t = some ls) (ha : tAgg P t = some true) (h : ATy P H n t x) : ∃ xs, x = .agg xs ∧ RTy P H n ls xs := by
  obtain ⟨ls', xs, h1, h2, h3⟩ := h
  rw [hl] at h1; simp at h1; subst h1
  rcases h3 with ⟨-, h3⟩ | ⟨h3, -⟩
  · exact ⟨xs, h3, h2⟩
  · rw [ha] at h3; cases h3
theorem ATy.one {t : TypeId} {x : AV} (hl : leafs P n t = some [t]) (ha : tAgg P t = some false) (h : ATy P H n t x) : LTy P H n t x := by
  obtain ⟨ls', xs, h1, h2, h3⟩ := h
  rw [hl] at h1; simp at h1; subst h1
  rcases h3 with ⟨h3, -⟩ | ⟨-, h3⟩
  · rw [ha] at h3; cases h3
  · subst h3; exact h2.2 0 t x rfl rfl
theorem rows_ints {k : IntKind} {t : TypeId} (ht : P.underlying t = some (.int k)) : ∀ rows : List (List AV), (∀ r : List AV, r ∈ rows → RTy P H (n + 1) [t] r) → ∃ l : List Int, l.length = rows.length ∧ rows.flatten = ints k l ∧ ∀ z ∈ l, (Lit.int k z).wf = true
  | [], _ => ⟨[], rfl, rfl, fun z h => by simp at h⟩
  | r :: rows, h => by
    obtain ⟨l, h1, h2, h3⟩ := rows_ints ht rows fun r' hr => h r' (by simp [hr])
    obtain ⟨y, r', rfl, hy, hr⟩ := (h r (by simp)).cons
    obtain rfl := hr.nil
    obtain ⟨z, rfl, hz⟩ := hy.int ht
    exact ⟨z :: l, by simp [h1], by simp [h2, ints], fun z' h' => by
      rcases List.mem_cons.1 h' with rfl | h'
      · exact hz
      · exact h3 _ h'⟩
theorem rows_prs {t u : TypeId} (ht : P.underlying t = some (.int .i64)) (hu : P.underlying u = some (.int .i64)) : ∀ rows : List (List AV), (∀ r : List AV, r ∈ rows → RTy P H (n + 1) [t, u] r) → ∃ l : List (Int × Int), l.length = rows.length ∧ rows.flatten = prs l ∧ ∀ p ∈ l, (Lit.int .i64 p.1).wf = true ∧ (Lit.int .i64 p.2).wf = true
  | [], _ => ⟨[], rfl, rfl, fun z h => by simp at h⟩
  | r :: rows, h => by
    obtain ⟨l, h1, h2, h3⟩ := rows_prs ht hu rows fun r' hr => h r' (by simp [hr])
    obtain ⟨y, r', rfl, hy, hr⟩ := (h r (by simp)).cons
    obtain ⟨y2, r', rfl, hy2, hr⟩ := hr.cons
    obtain rfl := hr.nil
    obtain ⟨z, rfl, hz⟩ := hy.int ht
    obtain ⟨z2, rfl, hz2⟩ := hy2.int hu
    exact ⟨(z, z2) :: l, by simp [h1], by simp [h2, prs_cons], fun z' h' => by
      rcases List.mem_cons.1 h' with rfl | h'
      · exact ⟨hz, hz2⟩
      · exact h3 _ h'⟩
theorem LTy.ints {t e : TypeId} {k : IntKind} {x : AV} (ht : P.underlying t = some (.slice e)) (he : P.underlying e = some (.int k)) (hl : leafs P (n + 1) e = some [e]) (h : LTy P H (n + 2) t x) : ∃ l : List Int, IsI H k x l ∧ l.length ≤ maxLen ∧ ∀ z ∈ l, (Lit.int k z).wf = true := by
  obtain ⟨b, rows, rfl, h1, h2, h3⟩ := h.slice ht hl
  obtain ⟨l, k1, k2, k3⟩ := rows_ints he rows h3
  exact ⟨l, .inr ⟨b, false, none, by rw [k1], by rw [← k2]; exact h2⟩, by omega, k3⟩
theorem LTy.pairs {t e u v : TypeId} {x : AV} (ht : P.underlying t = some (.slice e)) (hu : P.underlying u = some (.int .i64)) (hv : P.underlying v = some (.int .i64)) (hl : leafs P (n + 1) e = some [u, v]) (h : LTy P H (n + 2) t x) : ∃ l : List (Int × Int), IsP H x l ∧ l.length ≤ maxLen ∧ ∀ p ∈ l, (Lit.int .i64 p.1).wf = true ∧ (Lit.int .i64 p.2).wf = true := by
  obtain ⟨b, rows, rfl, h1, h2, h3⟩ := h.slice ht hl
  obtain ⟨l, k1, k2, k3⟩ := rows_prs hu hv rows h3
  exact ⟨l, .inr ⟨b, false, none, by rw [k1], by rw [← k2]; exact h2⟩, by omega, k3⟩
end
end Go.Proofs.Ytjfnbcifafmefaa
