/- Laws: a slice of the call's own at whatever place of its block (a queue: 'l = l[1:]', 'l = append(l, x)', 'l = l[:len(l)-1]'). Conditions: as each theorem states. -/
import Derived.Test.YtjfnbcifafmefaaBase5
import Derived.ArgAppend
import Derived.Deep.AppendLies
namespace Go.Proofs.Ytjfnbcifafmefaa
set_option linter.unusedSimpArgs false
set_option linter.unusedVariables false
open Go.RowKit

/-- The slice value v of n elements (size cells each) owns the cells xs, at whatever place of a block from base on. -/
def Seg (w : World) (base size : Nat) (v : Value) (n : Nat) (xs : List Value) : Prop :=
  xs.length = n * size ∧
  ((v = .slice none 0 0 ∧ n = 0) ∨
   ∃ g off cap, v = .slice (some ⟨g, off, none⟩) n cap ∧ base ≤ g ∧ g < w.heap.size ∧ n ≤ cap ∧ cap ≤ maxLen ∧
     (∀ j, j < cap * size → (w.cell? ⟨g, off + j, none⟩).isSome = true ∧ w.frozen? ⟨g, off + j, none⟩ = false) ∧
     ∀ j u, xs[j]? = some u → w.cell? ⟨g, off + j, none⟩ = some u)
section
variable {w w' : World} {base size n : Nat} {v : Value} {xs : List Value}
theorem Seg.below (h : Seg w base size v n xs) (hb : Below w.heap.size w w') : Seg w' base size v n xs := by
  refine ⟨h.1, h.2.imp id ?_⟩
  rintro ⟨g, off, cap, hv, hg, hlt, hn, hm, hc, hx⟩
  refine ⟨g, off, cap, hv, hg, Nat.lt_of_lt_of_le hlt hb.size, hn, hm, fun j hj => ?_, fun j u hu => ?_⟩
  · rw [hb.cell (p := ⟨g, off + j, none⟩) hlt, hb.frozen (p := ⟨g, off + j, none⟩) hlt]
    exact hc j hj
  · rw [hb.cell (p := ⟨g, off + j, none⟩) hlt]
    exact hx j u hu
theorem Seg.alloc (h : Seg w base size v n xs) (o : Obj) : Seg (w.alloc o) base size v n xs := h.below (ba1 w o)
/-- A store into another block. -/
theorem Seg.far (h : Seg w base size v n xs) {p : Addr} (hp : ∀ g, v.ownBlock = some g → g ≠ p.block) (u : Value) : Seg (w.setCell p u) base size v n xs := by
  refine ⟨h.1, h.2.imp id ?_⟩
  rintro ⟨g, off, cap, hv, hg, hlt, hn, hm, hc, hx⟩
  have hne : g ≠ p.block := hp g (by rw [hv]; rfl)
  have hcell : ∀ j, (w.setCell p u).cell? ⟨g, off + j, none⟩ = w.cell? ⟨g, off + j, none⟩ := fun j =>
    World.cell?_setCell_other _ _ _ _ (by intro e; apply hne; rw [e])
  refine ⟨g, off, cap, hv, hg, by simpa [World.setCell] using hlt, hn, hm, fun j hj => ?_, fun j u' hu => ?_⟩
  · rw [hcell, World.frozen?_setCell]; exact hc j hj
  · rw [hcell]; exact hx j u' hu
theorem Seg.of_own {e : TypeId} (h : w.ownsRow base e size v n xs) : Seg w base size v n xs := by
  refine ⟨h.1, ?_⟩
  rcases h.2 with h0 | ⟨g, cap, cur, rfl, hb, hh, hnc, hcm, hcs, ht⟩
  · exact .inl h0
  · refine .inr ⟨g, 0, cap, rfl, hb, (Array.getElem?_eq_some_iff.1 hh).1, hnc, hcm, fun j hj => ?_, fun j u hu => ?_⟩
    · rw [Nat.zero_add]
      refine ⟨?_, frozen_of_row w g j cur e hh⟩
      rw [cell_of_row w g j cur e (0, 0) hh, Array.getElem?_eq_getElem (by omega)]; rfl
    · rw [Nat.zero_add, cell_of_row w g j cur e (0, 0) hh]
      rw [← ht, List.getElem?_take] at hu
      split at hu
      · simpa using hu
      · cases hu
/-- The form of a slice that owns something. -/
theorem Seg.form (h : Seg w base size v n xs) (hn : 0 < n) : ∃ g off cap, v = .slice (some ⟨g, off, none⟩) n cap ∧ base ≤ g ∧ g < w.heap.size ∧ n ≤ cap := by
  rcases h.2 with ⟨_, h0⟩ | ⟨g, off, cap, hv, hb, hlt, hnc, _⟩
  · omega
  · exact ⟨g, off, cap, hv, hb, hlt, hnc⟩
theorem Seg.slice (h : Seg w base size v n xs) : ∃ A c, v = .slice A n c := by
  rcases h.2 with ⟨rfl, rfl⟩ | ⟨g, off, cap, rfl, _⟩
  · exact ⟨_, _, rfl⟩
  · exact ⟨_, _, rfl⟩
/-- 'l[1:]' -/
theorem Seg.tail {g off cap : Nat} (h : Seg w base size (.slice (some ⟨g, off, none⟩) (n + 1) cap) (n + 1) xs) :
    (cap = 1 → Seg w base size (.slice (some ⟨g, off, none⟩) n 0) n (xs.drop size)) ∧ (cap ≠ 1 → Seg w base size (.slice (some ⟨g, off + size, none⟩) n (cap - 1)) n (xs.drop size)) := by
  obtain ⟨h1, h2⟩ := h
  rcases h2 with ⟨h2, _⟩ | ⟨g', off', cap', hv, hb, hlt, hnc, hcm, hc, hx⟩
  · cases h2
  · injection hv with e1 e2 e3
    injection e1 with e1
    injection e1 with e4 e5
    subst e4 e5 e3
    have hl : (xs.drop size).length = n * size := by rw [List.length_drop, h1, Nat.succ_mul]; omega
    have hd : ∀ j u, (xs.drop size)[j]? = some u → w.cell? ⟨g, off + size + j, none⟩ = some u := fun j u hu => by
      rw [List.getElem?_drop] at hu
      have := hx _ u hu
      rwa [← Nat.add_assoc] at this
    constructor
    · intro hcap
      have hn0 : n = 0 := by omega
      subst hn0
      refine ⟨hl, .inr ⟨g, off, 0, rfl, hb, hlt, Nat.le_refl _, by simp [maxLen], fun j hj => by omega, fun j u hu => ?_⟩⟩
      have : xs.drop size = [] := List.length_eq_zero_iff.1 (by rw [hl]; simp)
      rw [this] at hu; simp at hu
    · intro hcap
      refine ⟨hl, .inr ⟨g, off + size, cap - 1, rfl, hb, hlt, by omega, by omega, fun j hj => ?_, hd⟩⟩
      have hj' : size + j < cap * size := by
        have : (cap - 1) * size + size = cap * size := by rw [← Nat.succ_mul]; congr 1; omega
        omega
      have := hc _ hj'
      rwa [← Nat.add_assoc] at this
/-- 'l[:len(l)-1]' -/
theorem Seg.init {g off cap : Nat} (h : Seg w base size (.slice (some ⟨g, off, none⟩) (n + 1) cap) (n + 1) xs) : Seg w base size (.slice (some ⟨g, off, none⟩) n cap) n (xs.take (n * size)) := by
  obtain ⟨h1, h2⟩ := h
  rcases h2 with ⟨h2, _⟩ | ⟨g', off', cap', hv, hb, hlt, hnc, hcm, hc, hx⟩
  · cases h2
  · injection hv with e1 e2 e3
    injection e1 with e1
    injection e1 with e4 e5
    subst e4 e5 e3
    refine ⟨by rw [List.length_take, h1, Nat.succ_mul]; omega, .inr ⟨g, off, cap, rfl, hb, hlt, by omega, hcm, hc, fun j u hu => ?_⟩⟩
    rw [List.getElem?_take] at hu
    split at hu
    · exact hx j u hu
    · cases hu
end
theorem heap_setCells (b : Nat) : ∀ (vs : List Value) (o : Nat) (w : World), (w.setCells b o vs).heap.size = w.heap.size ∧ (∀ k, k ≠ b → (w.setCells b o vs).heap[k]? = w.heap[k]?) ∧ (w.setCells b o vs).os = w.os ∧ (w.setCells b o vs).tape = w.tape ∧ (w.setCells b o vs).output = w.output
  | [], _, _ => ⟨rfl, fun _ _ => rfl, rfl, rfl, rfl⟩
  | v :: r, o, w => by
    obtain ⟨h1, h2, h3, h4, h5⟩ := heap_setCells b r (o + 1) (w.setCell ⟨b, o, none⟩ v)
    exact ⟨h1.trans (by simp [World.setCell]), fun k hk => (h2 k hk).trans (Below.heap_setCell w ⟨b, o, none⟩ v k hk), h3, h4, h5⟩

/-- append of the cells news (m elements) that lie at ad. -/
theorem run_app_seg {P : Program} {w : World} (base : Nat) (t ty e : TypeId) (i : TypeInfo) (z : Value) (size bytes : Nat) (ht : P.underlying t = some (.slice e)) (hi : P.info? e = some i) (hz : i.zero = some z)
    (hsize : i.size = size) (hby : i.bytes = bytes) (hzs : z.cells.size = size) (hsz : 0 < size)
    (v : Value) (n : Nat) (xs : List Value) (hown : Seg w base size v n xs) (ad : Addr) (m c : Nat) (news : List Value) (hl : news.length = m * size) (hnews : ∀ j u, news[j]? = some u → w.cell? (ad.add j) = some u) (h1 : ∀ u ∈ news, u.oneCell' = true)
    (h63 : n + m ≤ maxLen) (hbytes : (n + m) * bytes ≤ 140737488355328) (hbase : base ≤ w.heap.size) :
    ∃ v' w', (Builtin.append_ #[t, t] ty #[v, .slice (some ad) m c]).run P w = .ok v' w' ∧ Seg w' base size v' (n + m) (xs ++ news) ∧ w.grownBy w' v.ownBlock ∧ (∀ g, v'.ownBlock = some g → v.ownBlock = some g ∨ w.heap.size ≤ g) := by
  rcases hown.2 with ⟨rfl, h0⟩ | ⟨g, off, cap, rfl, hb, hlt, hnc, hcm, hc, hx⟩
  · subst h0
    have hx0 : xs = [] := List.length_eq_zero_iff.1 (by rw [hown.1]; simp)
    subst hx0
    obtain ⟨v', w', hrun, h2, h3, _⟩ := run_append_own (P := P) w w.heap.size t ty e i z size bytes ht hi hz hsize hby hzs hsz (.slice none 0 0) 0 [] (World.ownsRow_nil w w.heap.size e size) ad m c news hl hnews h1 h63 hbytes (Nat.le_refl _)
    exact ⟨v', w', hrun, Seg.of_own (own_base h2 hbase), h3, fun g hg => .inr (h2.lt g hg).1⟩
  · by_cases hroom : n + m ≤ cap
    · have hfit : n * size + m * size ≤ cap * size := by rw [← Nat.add_mul]; exact Nat.mul_le_mul_right _ hroom
      have hcn : ∀ j, j < news.length → (w.cell? ⟨g, off + n * size + j, none⟩).isSome = true ∧ w.frozen? ⟨g, off + n * size + j, none⟩ = false := fun j hj => by
        have := hc (n * size + j) (by omega)
        rwa [← Nat.add_assoc] at this
      subst hsize
      have hrun := run_append_room_cells (P := P) w t ty e i ht hi g off n cap ad m c news hl hnews h1 hroom (fun j hj => (hcn j hj).1) (fun j hj => (hcn j hj).2)
      obtain ⟨k1, k2, k3, k4, k5⟩ := heap_setCells g news (off + n * i.size) w
      refine ⟨_, _, hrun, ⟨by rw [List.length_append, hown.1, hl, Nat.add_mul], .inr ⟨g, off, cap, rfl, hb, by rw [k1]; exact hlt, hroom, hcm, fun j hj => ?_, fun j u hu => ?_⟩⟩, ⟨k3, k4, k5, by rw [k1]; exact Nat.le_refl _, fun k _ hk => k2 k (fun e => hk (by rw [e]; rfl))⟩, fun g hg => .inl hg⟩
      · rw [World.frozen?_setCells]
        refine ⟨?_, (hc j hj).2⟩
        by_cases hin : n * i.size ≤ j ∧ j < n * i.size + news.length
        · have h4 := World.cell?_setCells_in g news (off + n * i.size) w (fun j hj => (hcn j hj).1) (j - n * i.size) (by omega)
          rw [show off + n * i.size + (j - n * i.size) = off + j by omega] at h4
          rw [h4]; rfl
        · rw [World.cell?_setCells_out g news (off + n * i.size) w _ (fun _ _ => by show off + j < _ ∨ _ ≤ off + j; omega)]
          exact (hc j hj).1
      · have hxl := hown.1
        by_cases hj : j < xs.length
        · rw [List.getElem?_append_left hj] at hu
          rw [World.cell?_setCells_out g news (off + n * i.size) w _ (fun _ _ => by show off + j < _ ∨ _ ≤ off + j; omega)]
          exact hx j u hu
        · rw [List.getElem?_append_right (by omega)] at hu
          have hjn : j - xs.length < news.length := by
            rcases Nat.lt_or_ge (j - xs.length) news.length with h | h
            · exact h
            · rw [List.getElem?_eq_none h] at hu; cases hu
          have h4 := World.cell?_setCells_in g news (off + n * i.size) w (fun j hj => (hcn j hj).1) (j - xs.length) hjn
          rw [show off + n * i.size + (j - xs.length) = off + j by omega] at h4
          rw [h4, ← hu, List.getElem?_eq_getElem hjn]
    · have holds : ∀ j u, xs[j]? = some u → w.cell? ((⟨g, off, none⟩ : Addr).add j) = some u := fun j u hu => by
        have e1 : (⟨g, off, none⟩ : Addr).add j = ⟨g, off + j, none⟩ := by unfold Addr.add; split <;> simp_all
        rw [e1]; exact hx j u hu
      obtain ⟨v', w', hrun, h2, h3⟩ := run_append_arg_grows (P := P) w t ty e i z size bytes ht hi hz hsize hby hzs hsz ⟨g, off, none⟩ n cap xs hown.1 holds ad m c news hl hnews (by omega) h63 hbytes
      exact ⟨v', w', hrun, Seg.of_own (own_base h2 hbase), ⟨h3.os, h3.tape, h3.output, h3.size, fun k hk _ => h3.block k hk (by simp)⟩, fun g hg => .inr (h2.lt g hg).1⟩

theorem wpList_app_seg {P : Program} {w : World} {ops : Array Oper} {rest : List Oper} {o : Oper} {a : Act} {Q : Exit → Act → World → Prop} (hgd : o.guard = none) (s x : Operand) (t : TypeId)
    (ho : o.op = .call { callee := .builtin .append, args := #[s, x], argTypes := #[t, t] })
    (base : Nat) (e : TypeId) (i : TypeInfo) (z : Value) (size bytes : Nat) (ht : P.underlying t = some (.slice e)) (hi : P.info? e = some i) (hz : i.zero = some z)
    (hsize : i.size = size) (hby : i.bytes = bytes) (hzs : z.cells.size = size) (hsz : 0 < size)
    (v : Value) (n : Nat) (xs : List Value) (hs : a.eval s = v) (hown : Seg w base size v n xs) (ad : Addr) (m c : Nat) (news : List Value) (hx : a.eval x = .slice (some ad) m c) (hl : news.length = m * size)
    (hnews : ∀ j u, news[j]? = some u → w.cell? (ad.add j) = some u) (h1 : ∀ u ∈ news, u.oneCell' = true) (h63 : n + m ≤ maxLen) (hbytes : (n + m) * bytes ≤ 140737488355328) (hbase : base ≤ w.heap.size)
    (h : ∀ v' w', Seg w' base size v' (n + m) (xs ++ news) → w.grownBy w' v.ownBlock → (∀ g, v'.ownBlock = some g → v.ownBlock = some g ∨ w.heap.size ≤ g) → wpList P ops Q rest (a.put o.dst v') w') : wpList P ops Q (o :: rest) a w := by
  refine wpList_plain hgd fun K hK => ?_
  obtain ⟨v', w', hrun, h2, h3, h4⟩ := run_app_seg (P := P) base t o.type e i z size bytes ht hi hz hsize hby hzs hsz v n xs hown ad m c news hl hnews h1 h63 hbytes hbase
  unfold Oper.wp execOp
  simp only [ho, resolve, invoke, builtin, Sem.run_bind, Sem.run_pure, Result.andThen_ok, List.map_toArray, List.map_cons, List.map_nil, hs, hx, hrun]
  exact hK _ _ (h v' w' h2 h3 h4)
theorem below_seg {w w' a : World} {base size n B : Nat} {v : Value} {xs : List Value} (h : Below B a w) (hown : Seg w base size v n xs) (hB : B ≤ base) (hBw : B ≤ w.heap.size) (hg : w.grownBy w' v.ownBlock) : Below B a w' :=
  h.grown hg hBw fun k hk => by
    rcases hown.2 with ⟨rfl, _⟩ | ⟨g, off, cap, rfl, hb, _⟩
    · cases hk
    · simp [Value.ownBlock] at hk; omega
end Go.Proofs.Ytjfnbcifafmefaa
