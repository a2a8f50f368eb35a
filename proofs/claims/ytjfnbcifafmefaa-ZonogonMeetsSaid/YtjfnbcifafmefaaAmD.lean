/- The abstract machine: regions that draw, whose order matters, by the orders that stand for all. Conditions: as each theorem states. -/
import Derived.Test.YtjfnbcifafmefaaAmO
namespace Go.Proofs.Ytjfnbcifafmefaa
set_option linter.unusedSimpArgs false
set_option linter.unusedVariables false
open Go.RowKit

/-- The order of two operations matters. -/
def depI (q : Bool) (ops : Array Oper) (i j : Nat) : Bool :=
  match ops[i]?, ops[j]? with
  | some a, some b =>
    let free := fun (i : Nat) (a b : Oper) => (match a.dst with | some t => b.dst != some t && !(b.looksAt ops).contains t | none => true) && (!kChg q a.op || kPure b.op || (kExt ops i a.op && kRead b.op))
    !(free i a b && free j b a)
  | _, _ => false
/-- The operations in another order, with the edges that it needs. -/
def opsT (q : Bool) (ops : Array Oper) (τ : List Nat) : Array Oper :=
  (τ.zipIdx.map fun p => { (ops[p.1]?.getD default) with after := (((List.range p.2).filter fun k => depI q ops ((τ[k]?).getD 0) p.1).map fun k => (⟨k, .data⟩ : Edge)).toArray, guard := none }).toArray
/-- The operations that are run, in that order. -/
def pickL (l : List Oper) (τ : List Nat) : List LOp := τ.map fun i => ((l[i]?).map fun o => (⟨o.dst, o.op, none⟩ : LOp)).getD ⟨none, .move (.tmp 0), none⟩
def ordB (mk : List Nat) (i j : Nat) : Bool := (mk.getD j 0).testBit i
/-- The pairs whose order matters and that no edge orders. -/
def loose (q : Bool) (ops : Array Oper) (mk : List Nat) : List (Nat × Nat) :=
  (List.range ops.size).flatMap fun j => ((List.range j).filter fun i => depI q ops i j && !ordB mk i j && !ordB mk j i).map fun i => (i, j)
def orient : List (Nat × Nat) → List Bool → List (Nat × Nat)
  | p :: ps, b :: bs => (bif b then p else (p.2, p.1)) :: orient ps bs
  | _, _ => []
def allV : Nat → List (List Bool)
  | 0 => [[]]
  | n + 1 => (allV n).flatMap fun v => [true :: v, false :: v]
def linkB (mk : List Nat) (x y : Nat) : Bool := x == y || ordB mk x y
def refuted (mk : List Nat) (O : List (Nat × Nat)) : Bool :=
  (O.any fun a => O.any fun b => linkB mk a.2 b.1 && linkB mk b.2 a.1) || O.any fun a => O.any fun b => O.any fun c => linkB mk a.2 b.1 && linkB mk b.2 c.1 && linkB mk c.2 a.1
def okRep (q : Bool) (ops : Array Oper) (mk : List Nat) (O : List (Nat × Nat)) (τ : List Nat) : Bool :=
  (List.range τ.length).all fun k => (List.range k).all fun k' => let i := (τ[k']?).getD 0; let j := (τ[k]?).getD 0; !depI q ops i j || ordB mk i j || O.contains (i, j)
def coverB (q : Bool) (ops : Array Oper) (reps : List (List Nat)) : Bool :=
  let mk := masks ops
  let U := loose q ops mk
  (allV U.length).all fun v => let O := orient U v; refuted mk O || reps.any fun τ => okRep q ops mk O τ
def permB (n : Nat) (τ : List Nat) : Bool := τ.length == n && ((List.range n).all fun i => τ.contains i) && (τ.all fun i => Nat.blt i n) && (List.range n).all fun k => τ.idxOf ((τ[k]?).getD 0) == k
/-- All that is asked of a region and of the orders that stand for all. -/
def repsOk (q : Bool) (N : Nat) (ops : Array Oper) (reps : List (List Nat)) : Bool :=
  (ops.toList.all fun o => o.guard.isNone) && (ops.toList.zipIdx.all fun p => p.1.after.all fun e => !Region.binds .any e || decide (e.on < p.2)) &&
  (reps.all fun τ => permB ops.size τ && drawOk q N (opsT q ops τ)) && coverB q ops reps
section
variable {P : Program} {N n m : Nat} {Q : Exit → Fr → AHeap → Prop} {q : Bool} {ops : Array Oper}
theorem idx_ne {a b : Nat} {l : List Nat} (h : a ≠ b) : (a :: l).idxOf b = l.idxOf b + 1 := by
  rw [List.idxOf_cons]
  have : (a == b) = false := by simp [h]
  rw [this]; rfl
inductive ValidL (ops : Array Oper) : Array Bool → List Nat → Prop where
  | nil {listed : Array Bool} : Region.ready .any ops listed = [] → ValidL ops listed []
  | cons {listed : Array Bool} {i : Nat} {π : List Nat} : i ∈ Region.ready .any ops listed → ValidL ops (listed.setIfInBounds i true) π → ValidL ops listed (i :: π)
theorem go_valid : ∀ (fuel t : Nat) (listed : Array Bool), listed.size = ops.size → unl listed.toList ≤ fuel → ValidL ops listed (Region.linearise.go .any ops fuel t listed [])
  | 0, t, listed, hs, hu => by
    refine .nil ?_
    apply List.eq_nil_iff_forall_not_mem.2
    intro j hj
    obtain ⟨h0, o, ho, -⟩ := mem_ready.1 hj
    have hj' := (Array.getElem?_eq_some_iff.1 ho).1
    have hi' : j < listed.toList.length := by simp; omega
    have := List.countP_eq_zero.1 (Nat.le_zero.1 hu) listed.toList[j] (List.getElem_mem hi')
    simp at this
    simp [hs, hj', this] at h0
  | fuel + 1, t, listed, hs, hu => by
    simp only [Region.linearise.go]
    change ValidL ops listed (match (Region.ready .any ops listed)[t % (Region.ready .any ops listed).length]? with
      | some i => Region.linearise.go .any ops fuel (t / (Region.ready .any ops listed).length) (listed.setIfInBounds i true) [i]
      | none => [].reverse)
    cases hi : (Region.ready .any ops listed)[t % (Region.ready .any ops listed).length]? with
    | none =>
      refine .nil ?_
      cases hr : Region.ready .any ops listed with
      | nil => rfl
      | cons x xs =>
        rw [hr] at hi
        have hlt : t % (x :: xs).length < (x :: xs).length := Nat.mod_lt _ (by simp)
        simp at hi
        simp at hlt
        omega
    | some i =>
      simp only []
      rw [linearise_go_acc, List.reverse_singleton, List.singleton_append]
      have hmem := List.mem_of_getElem? hi
      refine .cons hmem (go_valid fuel _ _ (by simp [hs]) ?_)
      obtain ⟨h0, o, ho, -⟩ := mem_ready.1 hmem
      have hj' := (Array.getElem?_eq_some_iff.1 ho).1
      have := unl_set (l := listed.toList) (k := i) (by simp; omega) (by
        rw [Array.getElem?_toList]
        simp [hs, hj'] at h0
        rw [Array.getElem?_eq_getElem (by omega), h0])
      rw [Array.toList_setIfInBounds]
      omega
theorem any_valid {Q : Exit → Act → World → Prop} : ∀ (π : List Nat) (fuel : Nat) (listed : Array Bool) (a : Act) (w : World), π.length ≤ fuel → wpAny P .any ops Q fuel listed a w → ValidL ops listed π → wpOps P ops Q π a w
  | [], 0, _, _, _, _, h, _ => h.2
  | [], _ + 1, _, _, _, _, h, hv => by cases hv with | nil hr => exact h.1 hr
  | i :: π, 0, _, _, _, hl, _, _ => by simp at hl
  | i :: π, fuel + 1, listed, a, w, hl, h, hv => by
    cases hv with
    | cons hi hv =>
      rw [wpOps_cons]
      exact wpOp_mono (fun a w hh => any_valid π fuel _ a w (by simp at hl; omega) hh hv) (h.2 i hi)
/-- What is known of a full order. -/
theorem valid_all (hback : ∀ (i : Nat) (o : Oper) (e : Edge), ops[i]? = some o → e ∈ o.after → Region.binds .any e = true → e.on < i) : ∀ (π : List Nat) (listed : Array Bool), listed.size = ops.size → ValidL ops listed π →
    (∀ i, i < ops.size → listed.getD i false = false → i ∈ π) ∧ (∀ i ∈ π, i < ops.size ∧ listed.getD i false = false) ∧ π.Nodup ∧ ∀ (j : Nat) (o : Oper) (e : Edge), j ∈ π → ops[j]? = some o → e ∈ o.after → Region.binds .any e = true → listed.getD e.on false = true ∨ π.idxOf e.on < π.idxOf j
  | [], listed, hs, hv => by
    cases hv with
    | nil hr =>
      refine ⟨fun i hi hli => ?_, fun i h => by simp at h, List.nodup_nil, fun j o e h => by simp at h⟩
      exfalso
      have hall : ∀ i, i < ops.size → listed.getD i false = true := by
        intro i
        induction i using Nat.strongRecOn with
        | _ i ihi =>
          intro hi
          cases hli : listed.getD i false with
          | true => rfl
          | false =>
            exfalso
            have ho : ops[i]? = some ops[i] := Array.getElem?_eq_getElem hi
            have : i ∈ Region.ready .any ops listed := mem_ready.2 ⟨by simp [hs, hi] at hli ⊢; exact hli, _, ho, fun e he hb => by
              have hlt := hback i _ e ho he hb
              exact ihi e.on hlt (by omega)⟩
            rw [hr] at this; cases this
      rw [hall i hi] at hli; cases hli
  | i :: π, listed, hs, hv => by
    cases hv with
    | cons hi hv =>
      obtain ⟨h1, h2, h3, h4⟩ := valid_all hback π _ (by simp [hs]) hv
      obtain ⟨h0, o, ho, hed⟩ := mem_ready.1 hi
      have hin := (Array.getElem?_eq_some_iff.1 ho).1
      have hli : listed.getD i false = false := by simp [hs, hin] at h0 ⊢; exact h0
      have hget : ∀ j, (listed.setIfInBounds i true).getD j false = if j = i then true else listed.getD j false := fun j => by
        by_cases e : j = i
        · subst e; simp [hs, hin]
        · rw [if_neg e, getD_set_ne false (fun e' => e e'.symm)]
      have hni : i ∉ π := fun hm => by
        have := (h2 i hm).2
        rw [hget, if_pos rfl] at this; cases this
      refine ⟨fun j hj hjl => ?_, fun j hj => ?_, List.nodup_cons.2 ⟨hni, h3⟩, fun j o' e hj ho' he hb => ?_⟩
      · by_cases e : j = i
        · simp [e]
        · exact List.mem_cons_of_mem _ (h1 j hj (by rw [hget, if_neg e]; exact hjl))
      · rcases List.mem_cons.1 hj with rfl | hj
        · exact ⟨hin, hli⟩
        · have := h2 j hj
          rw [hget] at this
          by_cases e : j = i
          · rw [if_pos e] at this; cases this.2
          · rw [if_neg e] at this; exact this
      · by_cases eji : j = i
        · subst eji
          rw [ho] at ho'; simp at ho'; subst ho'
          exact .inl (hed e he hb)
        · have hj' : j ∈ π := (List.mem_cons.1 hj).resolve_left eji
          have hidx : (i :: π).idxOf j = π.idxOf j + 1 := by rw [idx_ne (fun e => eji e.symm)]
          rcases h4 j o' e hj' ho' he hb with h5 | h5
          · rw [hget] at h5
            by_cases e2 : e.on = i
            · right; rw [e2, List.idxOf_cons_self, hidx]; omega
            · rw [if_neg e2] at h5; exact .inl h5
          · by_cases e2 : e.on = i
            · right; rw [e2, List.idxOf_cons_self, hidx]; omega
            · right; rw [idx_ne (fun e' => e2 e'.symm), hidx]; omega
theorem mem_allV : ∀ (v : List Bool), v ∈ allV v.length
  | [] => by simp [allV]
  | b :: v => by
    simp only [List.length_cons, allV, List.mem_flatMap]
    refine ⟨v, mem_allV v, ?_⟩
    cases b <;> simp
theorem orient_lt {rk : Nat → Nat} : ∀ (U : List (Nat × Nat)), (∀ p ∈ U, rk p.1 ≠ rk p.2) → ∀ p ∈ orient U (U.map fun p => decide (rk p.1 < rk p.2)), rk p.1 < rk p.2
  | [], _, p, h => by simp [orient] at h
  | u :: U, hU, p, h => by
    simp only [List.map_cons, orient, List.mem_cons] at h
    rcases h with rfl | h
    · by_cases hd : rk u.1 < rk u.2
      · rw [decide_eq_true hd, cond_true]; exact hd
      · rw [decide_eq_false hd, cond_false]
        have := hU u (by simp)
        show rk u.2 < rk u.1
        omega
    · exact orient_lt U (fun p hp => hU p (by simp [hp])) p h
theorem cover_rep {reps : List (List Nat)} {rk : Nat → Nat} (hc : coverB q ops reps = true) (hord : ∀ i j, ordB (masks ops) i j = true → rk i < rk j) (hU : ∀ p ∈ loose q ops (masks ops), rk p.1 ≠ rk p.2) :
    ∃ τ ∈ reps, ∀ k k' : Nat, k < τ.length → k' < k → depI q ops ((τ[k']?).getD 0) ((τ[k]?).getD 0) = true → rk ((τ[k']?).getD 0) < rk ((τ[k]?).getD 0) := by
  have hlt := orient_lt (rk := rk) _ hU
  have hv := List.all_eq_true.1 hc ((loose q ops (masks ops)).map fun p => decide (rk p.1 < rk p.2)) (by
    have := mem_allV ((loose q ops (masks ops)).map fun p => decide (rk p.1 < rk p.2))
    simpa using this)
  simp only [Bool.or_eq_true] at hv
  have hlink : ∀ x y, linkB (masks ops) x y = true → rk x ≤ rk y := fun x y h => by
    unfold linkB at h
    simp only [Bool.or_eq_true, beq_iff_eq] at h
    rcases h with rfl | h
    · exact Nat.le_refl _
    · exact Nat.le_of_lt (hord _ _ h)
  rcases hv with hv | hv
  · exfalso
    unfold refuted at hv
    simp only [Bool.or_eq_true, List.any_eq_true, Bool.and_eq_true] at hv
    rcases hv with ⟨a, ha, b, hb, h1, h2⟩ | ⟨a, ha, b, hb, c, hc', ⟨h1, h2⟩, h3⟩
    · have := hlt a ha; have := hlt b hb; have := hlink _ _ h1; have := hlink _ _ h2; omega
    · have := hlt a ha; have := hlt b hb; have := hlt c hc'; have := hlink _ _ h1; have := hlink _ _ h2; have := hlink _ _ h3; omega
  · obtain ⟨τ, hτ, hk⟩ := List.any_eq_true.1 hv
    refine ⟨τ, hτ, fun k k' h1 h2 hd => ?_⟩
    have := List.all_eq_true.1 (List.all_eq_true.1 hk k (List.mem_range.2 h1)) k' (List.mem_range.2 h2)
    simp only [hd, Bool.not_true, Bool.false_or, Bool.or_eq_true] at this
    rcases this with h | h
    · exact hord _ _ h
    · exact hlt _ (by simpa using h)
theorem opsT_get {τ : List Nat} {k i : Nat} (hk : τ[k]? = some i) : (opsT q ops τ)[k]? = some { (ops[i]?.getD default) with after := (((List.range k).filter fun k' => depI q ops ((τ[k']?).getD 0) i).map fun k' => (⟨k', .data⟩ : Edge)).toArray, guard := none } := by
  unfold opsT
  simp [List.getElem?_zipIdx, hk]
theorem opsT_size {τ : List Nat} : (opsT q ops τ).size = τ.length := by simp [opsT]
theorem idx_lt_mem {A B : List Nat} {i : Nat} (h : (A ++ B).idxOf i < A.length) : i ∈ A := by
  by_cases hi : i ∈ A
  · exact hi
  · rw [List.idxOf_append, if_neg hi] at h; omega
theorem validT {τ π0 : List Nat} (hlen : τ.length = ops.size) (hmem : ∀ i, i < ops.size → i ∈ τ) (hpos : ∀ k, k < ops.size → τ.idxOf ((τ[k]?).getD 0) = k) (hin : ∀ i ∈ τ, i < ops.size)
    (hnd : π0.Nodup) (hall : ∀ i, i < ops.size → i ∈ π0) (hπ : ∀ i ∈ π0, i < ops.size)
    (hag : ∀ k k' : Nat, k < τ.length → k' < k → depI q ops ((τ[k']?).getD 0) ((τ[k]?).getD 0) = true → π0.idxOf ((τ[k']?).getD 0) < π0.idxOf ((τ[k]?).getD 0)) :
    ∀ (π A : List Nat) (L : Array Bool), π0 = A ++ π → L.size = ops.size → (∀ k, k < ops.size → L.getD k false = decide ((τ[k]?).getD 0 ∈ A)) → ValidL (opsT q ops τ) L (π.map fun i => τ.idxOf i)
  | [], A, L, e, hs, hL => by
    refine .nil ?_
    apply List.eq_nil_iff_forall_not_mem.2
    intro k hk
    obtain ⟨h0, o, ho, -⟩ := mem_ready.1 hk
    have hk' := (Array.getElem?_eq_some_iff.1 ho).1
    rw [opsT_size, hlen] at hk'
    have h1 := hL k hk'
    have hτ : τ[k]? = some τ[k] := List.getElem?_eq_getElem (by omega)
    rw [hτ] at h1
    have : τ[k] ∈ A := by
      rw [List.append_nil] at e
      rw [← e]; exact hall _ (hin _ (List.getElem_mem _))
    simp [this] at h1
    simp [hs, hk'] at h0 h1
    rw [h1] at h0; cases h0
  | j :: π, A, L, e, hs, hL => by
    have hj : j < ops.size := hπ j (by rw [e]; simp)
    have hjm := hmem j hj
    have hkl : τ.idxOf j < τ.length := List.idxOf_lt_length_of_mem hjm
    have hτk : τ[τ.idxOf j]? = some j := by rw [List.getElem?_eq_getElem hkl, List.getElem_idxOf]
    have hjA : j ∉ A := fun h => by
      rw [e] at hnd
      exact (List.nodup_append.1 hnd).2.2 j h j (by simp) rfl
    have hget := opsT_get (q := q) (ops := ops) hτk
    refine .cons (mem_ready.2 ⟨?_, _, hget, fun ed he _ => ?_⟩) (validT hlen hmem hpos hin hnd hall hπ hag π (A ++ [j]) _ (by rw [e]; simp) (by simp [hs]) fun k hk => ?_)
    · have := hL (τ.idxOf j) (by omega)
      rw [hτk] at this
      simp [hjA] at this
      show L.getD (τ.idxOf j) true = false
      rw [Array.getD_eq_getD_getElem?]
      rw [Array.getElem?_eq_getElem (by omega)] at this ⊢
      simpa using this
    · simp only [List.mem_toArray, List.mem_map, List.mem_filter, List.mem_range] at he
      obtain ⟨k', ⟨hk1, hk2⟩, rfl⟩ := he
      have h1 := hag (τ.idxOf j) k' hkl hk1 (by rw [hτk]; exact hk2)
      rw [hτk] at h1
      simp only [Option.getD_some] at h1
      have hjx : π0.idxOf j = A.length := by
        rw [e, List.idxOf_append, if_neg hjA, List.idxOf_cons_self, Nat.zero_add]
      rw [hjx, e] at h1
      have := idx_lt_mem h1
      rw [hL k' (by omega)]
      simp [this]
    · by_cases ek : k = τ.idxOf j
      · subst ek
        rw [hτk]
        simp [hs, hj, hlen ▸ hkl]
      · rw [getD_set_ne false (fun e' => ek e'.symm), hL k hk]
        have hne : (τ[k]?).getD 0 ≠ j := fun h => ek (by have := hpos k hk; rw [h] at this; exact this.symm)
        simp [hne]
theorem wpOps_T {Q : Exit → Act → World → Prop} {τ : List Nat} (hmem : ∀ i, i < ops.size → i ∈ τ) (hg : ∀ (i : Nat) (o : Oper), ops[i]? = some o → o.guard = none) : ∀ (π : List Nat) (a : Act) (w : World), (∀ i ∈ π, i < ops.size) → wpOps P (opsT q ops τ) Q (π.map fun i => τ.idxOf i) a w → wpOps P ops Q π a w
  | [], _, _, _, h => h
  | i :: π, a, w, hπ, h => by
    rw [List.map_cons, wpOps_cons] at h
    rw [wpOps_cons]
    have h1 := wpOp_mono (fun a w hh => wpOps_T hmem hg π a w (fun j hj => hπ j (by simp [hj])) hh) h
    have hi := hπ i (by simp)
    have him := hmem i hi
    have hτk : τ[τ.idxOf i]? = some i := by rw [List.getElem?_eq_getElem (List.idxOf_lt_length_of_mem him), List.getElem_idxOf]
    have ho : ops[i]? = some ops[i] := Array.getElem?_eq_getElem hi
    unfold wpOp at h1 ⊢
    rw [opsT_get hτk] at h1
    rw [ho] at h1 ⊢
    have hgi := hg i _ ho
    simp only [Region.wanted, hgi, if_true, Option.getD_some] at h1 ⊢
    exact h1
theorem list_map_congr {α β : Type} {f g : α → β} : ∀ {l : List α}, (∀ x ∈ l, f x = g x) → l.map f = l.map g
  | [], _ => rfl
  | x :: l, h => by rw [List.map_cons, List.map_cons, h x (by simp), list_map_congr fun y hy => h y (by simp [hy])]
theorem pick_opsT {τ : List Nat} (hin : ∀ i ∈ τ, i < ops.size) : (opsT q ops τ).toList.map (lightOf (dsts (opsT q ops τ))) = pickL ops.toList τ := by
  refine List.ext_getElem? fun k => ?_
  unfold pickL
  rw [List.getElem?_map, List.getElem?_map, Array.getElem?_toList]
  cases hk : τ[k]? with
  | none =>
    have : (opsT q ops τ)[k]? = none := Array.getElem?_eq_none (by rw [opsT_size]; exact List.getElem?_eq_none_iff.1 hk)
    rw [this]; rfl
  | some i =>
    rw [opsT_get hk]
    have hi := hin i (List.mem_of_getElem? hk)
    simp only [Option.map_some, lightOf, Option.map_none]
    rw [Array.getElem?_toList, Array.getElem?_eq_getElem hi]
    rfl
theorem nodup_len : ∀ (n : Nat) (l : List Nat), l.Nodup → (∀ i ∈ l, i < n) → l.length ≤ n
  | 0, l, _, h => by
    cases l with
    | nil => simp
    | cons x l => exact absurd (h x (by simp)) (Nat.not_lt_zero x)
  | n + 1, l, hd, h => by
    have h1 := nodup_len n (l.filter fun i => i != n) (hd.filter _) (fun i hi => by
      simp only [List.mem_filter, bne_iff_ne] at hi
      have := h i hi.1
      omega)
    have h2 := List.length_eq_countP_add_countP (fun i => i != n) (l := l)
    rw [← List.countP_eq_length_filter] at h1
    have h3 : List.countP (fun a => decide ¬(a != n) = true) l = l.count n := by
      unfold List.count
      congr 1
      funext a
      by_cases e : a = n <;> simp [e]
    have h4 := List.nodup_iff_count.1 hd n
    omega
/-- A region that draws by the orders that stand for all. -/
theorem AW_reps {id : Nat} {F : Fr} {H : AHeap} (hm : P.follows .mixedOrders = true) (reps : List (List Nat)) (hok : repsOk q N ops reps = true)
    (hh : ∀ τ ∈ reps, AOpsDL P q H.length (pickL ops.toList τ) F H (fun F' H' => Q .normal F' H')) : AW P N n (.region id ops true) Q F H := by
  intro E w a h1 h2 h3 h4 h5
  unfold repsOk at hok
  simp only [Bool.and_eq_true] at hok
  obtain ⟨⟨⟨k1, k2⟩, k3⟩, k4⟩ := hok
  have zi : ∀ i o, ops[i]? = some o → (o, i) ∈ ops.toList.zipIdx := fun i o ho => List.mem_iff_getElem?.2 ⟨i, by simp [List.getElem?_zipIdx, ho]⟩
  have hg : ∀ (i : Nat) (o : Oper), ops[i]? = some o → o.guard = none := fun i o ho => by
    have := List.all_eq_true.1 k1 o (by simpa using Array.mem_of_getElem? ho)
    simpa using this
  have hback : ∀ (i : Nat) (o : Oper) (e : Edge), ops[i]? = some o → e ∈ o.after → Region.binds .any e = true → e.on < i := fun i o e ho he hb => by
    have := List.all_eq_true.1 k2 _ (zi i o ho)
    have := Array.all_eq_true_iff_forall_mem.1 this e he
    simpa [hb] using this
  refine wp_region_draw fun t => ?_
  simp only [Region.schedule, hm, Bool.true_or, if_true]
  have hv : ValidL ops (Array.replicate ops.size false) (Region.linearise .any ops t) := go_valid _ t _ (by simp) (by simp [unl, List.countP_replicate])
  generalize Region.linearise .any ops t = π at hv
  have hL : ∀ i, (Array.replicate ops.size false).getD i false = false := fun i => by
    rw [Array.getD_eq_getD_getElem?]
    cases hq : (Array.replicate ops.size false)[i]? with
    | none => rfl
    | some b => rw [Array.getElem?_replicate] at hq; split at hq <;> simp at hq; subst hq; rfl
  obtain ⟨v1, v2, v3, v4⟩ := valid_all hback π _ (by simp) hv
  have hall : ∀ i, i < ops.size → i ∈ π := fun i hi => v1 i hi (hL i)
  have hπ : ∀ i ∈ π, i < ops.size := fun i hi => (v2 i hi).1
  have hpred : ∀ i j, Pred ops i j → j < ops.size → π.idxOf i < π.idxOf j := fun i j hp => by
    induction hp with
    | edge ho he hb =>
      intro hj
      rcases v4 _ _ _ (hall _ hj) ho he hb with h | h
      · rw [hL] at h; cases h
      · exact h
    | step ho he hb _ ih =>
      intro hj
      rcases v4 _ _ _ (hall _ hj) ho he hb with h | h
      · rw [hL] at h; cases h
      · exact Nat.lt_trans (ih (by have := hback _ _ _ ho he hb; omega)) h
  have predlt : ∀ i j, Pred ops i j → j < ops.size := fun i j hp => by
    cases hp with
    | edge ho _ _ => exact (Array.getElem?_eq_some_iff.1 ho).1
    | step ho _ _ _ => exact (Array.getElem?_eq_some_iff.1 ho).1
  obtain ⟨τ, hτ, hag⟩ := cover_rep (rk := fun i => π.idxOf i) k4 (fun i j h => hpred i j (masks_spec h) (predlt i j (masks_spec h))) (fun p hp => by
    unfold loose at hp
    simp only [List.mem_flatMap, List.mem_range, List.mem_map, List.mem_filter] at hp
    obtain ⟨j, hj, i, ⟨hi, -⟩, rfl⟩ := hp
    intro e
    have h1 : π[π.idxOf i]? = some i := by rw [List.getElem?_eq_getElem (List.idxOf_lt_length_of_mem (hall i (by omega))), List.getElem_idxOf]
    have h2 : π[π.idxOf j]? = some j := by rw [List.getElem?_eq_getElem (List.idxOf_lt_length_of_mem (hall j hj)), List.getElem_idxOf]
    simp only at e
    rw [e, h2] at h1
    simp at h1; omega)
  have hr := List.all_eq_true.1 k3 τ hτ
  simp only [Bool.and_eq_true] at hr
  obtain ⟨hp, hd⟩ := hr
  unfold permB at hp
  simp only [Bool.and_eq_true, beq_iff_eq] at hp
  obtain ⟨⟨⟨p1, p2⟩, p3⟩, p4⟩ := hp
  have hmem : ∀ i, i < ops.size → i ∈ τ := fun i hi => by
    have := List.all_eq_true.1 p2 i (List.mem_range.2 hi)
    simpa using this
  have hin : ∀ i ∈ τ, i < ops.size := fun i hi => Nat.le_of_ble_eq_true (List.all_eq_true.1 p3 i hi)
  have hpos : ∀ k, k < ops.size → τ.idxOf ((τ[k]?).getD 0) = k := fun k hk => by
    have := List.all_eq_true.1 p4 k (List.mem_range.2 hk)
    simpa using this
  refine wpOps_T (q := q) hmem hg π a _ hπ ?_
  have hvT := validT (q := q) p1 hmem hpos hin v3 hall hπ hag π [] (Array.replicate (opsT q ops τ).size false) (by simp) (by simp [opsT_size, p1]) (fun k hk => by
    rw [Array.getD_eq_getD_getElem?]
    cases hq : (Array.replicate (opsT q ops τ).size false)[k]? with
    | none => simp
    | some b => rw [Array.getElem?_replicate] at hq; split at hq <;> simp at hq; subst hq; simp)
  have hany := draw_any (P := P) (N := N) (n := n) (Q := Q) q hd (AOpsD_of (opsT q ops τ).toList F H (by rw [pick_opsT hin]; exact hh τ hτ)) h1 h2 h3 h4 h5
  refine any_valid _ _ _ _ _ ?_ hany hvT
  rw [List.length_map, opsT_size, p1]
  have := nodup_len ops.size π v3 hπ
  omega
theorem AW_abs {c : Code} {Q : Exit → Fr → AHeap → Prop} {σ : Nat → Nat} {F F2 : Fr} {H H2 : AHeap} (ab : Abs n σ F H F2 H2) (h : AW P N n c Q F2 H2) : AW P N n c Q F H := by
  intro E w a h1 h2 h3 h4 h5
  obtain ⟨E', hle, f, e⟩ := ab.emb h1 h4 h5
  exact wp_mono (h E' w a hle.n h2 h3 f e) fun e a w hh => LiftQ.shift hle hh
/-- A piece of code, what it leaves, and then the rest. -/
theorem AW_step {a b : Code} {F : Fr} {H : AHeap} (q : Bool) (hm : P.follows .mixedOrders = true) (hc : codeOk N q a = true) (J : Fr → AHeap → Prop) (h1 : AGo P N n q Q [.code a, .inv J] F H) (h2 : ∀ F H, J F H → AW P N n b Q F H) : AW P N n (.seq a b) Q F H := by
  refine AW_seq (AW.mono (AW_of hm a hc _ F H h1) fun e F H hq => ?_)
  cases e <;> first | exact h2 F H hq | exact hq
/-- The same, what it leaves seen in another way. -/
theorem AW_stepA {a b : Code} {F : Fr} {H : AHeap} (q : Bool) (hm : P.follows .mixedOrders = true) (hc : codeOk N q a = true) (I : Fr → AHeap → Prop)
    (h1 : ∀ J : Fr → AHeap → Prop, (∀ F' H', (∃ σ F2 H2, I F2 H2 ∧ Abs n σ F' H' F2 H2) → J F' H') → AGo P N n q Q [.code a, .inv J] F H) (h2 : ∀ F2 H2, I F2 H2 → AW P N n b Q F2 H2) : AW P N n (.seq a b) Q F H :=
  AW_step q hm hc (fun F' H' => ∃ σ F2 H2, I F2 H2 ∧ Abs n σ F' H' F2 H2) (h1 _ fun _ _ h => h) fun F H ⟨σ, F2, H2, hi, ab⟩ => AW_abs ab (h2 F2 H2 hi)
theorem AW_fin {a : Code} {F : Fr} {H : AHeap} (q : Bool) (hm : P.follows .mixedOrders = true) (hc : codeOk N q a = true) (h : AGo P N n q Q [.code a] F H) : AW P N n a Q F H := AW_of hm a hc _ F H h
/-- A region that draws, by its orders, what it leaves (seen in another way), and then the rest. -/
theorem AW_special {id : Nat} {b : Code} {F : Fr} {H : AHeap} (q : Bool) (hm : P.follows .mixedOrders = true) (reps : List (List Nat)) (hok : repsOk q N ops reps = true) (I : Fr → AHeap → Prop)
    (h1 : ∀ τ ∈ reps, ∀ J : Fr → AHeap → Prop, (∀ F' H', (∃ σ F2 H2, I F2 H2 ∧ Abs n σ F' H' F2 H2) → J F' H') → AGo P N n q Q [.opsD H.length (pickL ops.toList τ), .inv J] F H) (h2 : ∀ F2 H2, I F2 H2 → AW P N n b Q F2 H2) : AW P N n (.seq (.region id ops true) b) Q F H := by
  refine AW_seq (AW.mono (AW_reps (Q := AThen (fun F' H' => ∃ σ F2 H2, I F2 H2 ∧ Abs n σ F' H' F2 H2) Q) hm reps hok fun τ hτ => ?_) fun e F H hq => ?_)
  · exact h1 τ hτ (fun F' H' => ∃ σ F2 H2, I F2 H2 ∧ Abs n σ F' H' F2 H2) (fun _ _ h => h)
  · cases e with
    | normal =>
      obtain ⟨σ, F2, H2, hi, ab⟩ := hq
      exact AW_abs ab (h2 F2 H2 hi)
    | _ => exact hq
theorem reps_cons {p : List Nat → Prop} {τ : List Nat} {l : List (List Nat)} (h : p τ) (h2 : ∀ τ ∈ l, p τ) : ∀ τ' ∈ τ :: l, p τ' := fun τ' h' => by
  rcases List.mem_cons.1 h' with rfl | h'
  · exact h
  · exact h2 _ h'
theorem reps_nil {p : List Nat → Prop} : ∀ τ' ∈ ([] : List (List Nat)), p τ' := fun τ' h => by simp at h
theorem inv_of {J : Fr → AHeap → Prop} {r : List It} {F : Fr} {H : AHeap} (h : J F H) : AGo P N n q Q (.inv J :: r) F H := h
/-- A function's call, piece by piece. -/
theorem ACalls_pieces {f : FuncId} {fn : Func} {args : List AV} {R : AV → AHeap → Prop} {H : AHeap} (hf : P.funcs[f]? = some fn) (N : Nat) (hN : fn.ntmps = N) (ha : args.length ≤ N) (hsome : fn.body.isSome = true)
    (h : HBel H.length H → ∀ Q, (∀ F H', AEnd P fn H.length R .ret F H' → ARet Q F H') → (∀ F H', AEnd P fn H.length R .normal F H' → Q .normal F H') → ∀ c, fn.body = some c → AW P N H.length c Q (argF 0 args) H) : ACalls P f args H R := by
  cases hb : fn.body with
  | none => rw [hb] at hsome; cases hsome
  | some c => exact ACalls_of hf hb hN ha fun hbel => h hbel (AEnd P fn H.length R) (fun _ _ k => k) (fun _ _ k => k) c hb
end
end Go.Proofs.Ytjfnbcifafmefaa
