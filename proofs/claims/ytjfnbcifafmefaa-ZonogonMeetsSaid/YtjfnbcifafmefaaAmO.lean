/- The abstract machine: small rules for a memory that begins as it was. Conditions: as each theorem states. -/
import Derived.Test.YtjfnbcifafmefaaAmN
namespace Go.Proofs.Ytjfnbcifafmefaa
set_option linter.unusedSimpArgs false
set_option linter.unusedVariables false
open Go.RowKit
section
variable {α : Type} {H l : List α} {x y : α}
theorem get_new0 : (H ++ l)[H.length]? = l[0]? := by rw [List.getElem?_append_right (Nat.le_refl _), Nat.sub_self]
theorem get_newk {k : Nat} : (H ++ l)[H.length + k]? = l[k]? := by rw [List.getElem?_append_right (by omega)]; congr 1; omega
theorem set_new0 : (H ++ l).set H.length x = H ++ l.set 0 x := by rw [List.set_append_right _ _ (Nat.le_refl _), Nat.sub_self]
theorem set_newk {k : Nat} : (H ++ l).set (H.length + k) x = H ++ l.set k x := by
  rw [List.set_append_right _ _ (by omega)]; congr 2; omega
theorem get_old {b : Nat} (h : H[b]? = some x) (l : List α) : (H ++ l)[b]? = some x := by rw [List.getElem?_append_left (getElem?_lt h)]; exact h
theorem app_nil (H : List α) : H = H ++ [] := by simp
theorem len_app1 : (H ++ [x]).length = H.length + 1 := by simp
theorem len_lit : (H ++ l).length = H.length + l.length := by simp
end
theorem dec_t {p : Prop} [Decidable p] (h : p) : decide p = true := by simp [h]
theorem dec_f {p : Prop} [Decidable p] (h : ¬ p) : decide p = false := by simp [h]
theorem wrap_in {x : Int} (h1 : -9223372036854775808 ≤ x) (h2 : x ≤ 9223372036854775807) : IntKind.i64.wrap x = x := IntWalk.i64_in _ ⟨h1, h2⟩
theorem sig_lt {n m : Nat} {sel : List Nat} {b : Nat} (h : b < n) : sig n m sel b = b := by simp [sig, h]
theorem sig_new0 {n m : Nat} {sel : List Nat} : sig n m sel n = match sel[0]? with | some i => n + i | none => n + (n + m) := by
  unfold sig; rw [if_neg (by omega), Nat.sub_self]; rfl
theorem sig_newk {n m k : Nat} {sel : List Nat} : sig n m sel (n + k) = match sel[k]? with | some i => n + i | none => n + k + (n + m) := by
  unfold sig; rw [if_neg (by omega), Nat.add_sub_cancel_left]; rfl
/-- At a function's end: what it hands back, and the memory. -/
theorem end_of {P : Program} {fn : Func} {H l1 l2 : AHeap} {R : AV → AHeap → Prop} {F : Fr} {e : Exit} (he : e = .ret ∨ e = .normal) (hbel : HBel H.length H) {x1 x2 : AV} (hx : aResult P fn F (H ++ l1) = some x1) (sel : List Nat) (hnd : sel.Nodup) (hR : R x2 (H ++ l2))
    (hv : x1 = x2.mv (sig H.length l1.length sel)) (hl : l2.length = sel.length) (hH : ∀ (i b : Nat) (x : ABlk), sel[i]? = some b → l2[i]? = some x → x = .dead ∨ l1[b]? = some (x.mv (sig H.length l1.length sel))) : AEnd P fn H.length R e F (H ++ l1) := by
  have h := Abs0.abs <| Abs0.of (n := H.length) (H0 := H) (l1 := l1) (l2 := l2) (F1 := [(0, x1)]) (F2 := [(0, x2)]) rfl hbel sel hnd (fun p hp => by simp at hp; subst hp; simp [look, hv, W.refl]) hl (fun i b x h1 h2 => (hH i b x h1 h2).imp id .inl)
  rcases he with rfl | rfl
  · exact ⟨x1, hx, _, x2, _, hR, h⟩
  · exact ⟨x1, hx, _, x2, _, hR, h⟩
/-- At the end of a function that hands back plain values and leaves the memory as it was. -/
theorem end_plain {P : Program} {fn : Func} {H l1 : AHeap} {R : AV → AHeap → Prop} {F : Fr} {e : Exit} (he : e = .ret ∨ e = .normal) (hbel : HBel H.length H) {x : AV} (hx : aResult P fn F (H ++ l1) = some x) (hp : x.bel 0 = true) (hR : R x H) : AEnd P fn H.length R e F (H ++ l1) :=
  end_of (l2 := []) he hbel hx [] (by simp) (by simpa using hR) (mv_id (n := 0) (fun b hb => absurd hb (Nat.not_lt_zero b)) x hp).symm rfl (fun i b x h => by simp at h)
theorem ret_of {P : Program} {fn : Func} {F : Fr} {H : AHeap} {l : List ResultVar} {x : AV} (h1 : fn.results = l.toArray) (h2 : (aRes P l F H).map one1 = some x) : aResult P fn F H = some x := by
  unfold aResult; rw [h1]; exact h2
theorem get_app {α : Type} {H l : List α} {x : α} {b : Nat} (h : H[b]? = some x) : (H ++ l)[b]? = some x := get_old h l
theorem need_true : need True = some () := rfl
theorem succ_beq0 {n : Nat} : (n + 1 == 0) = false := rfl
theorem rng0 : List.range 0 = [] := rfl
theorem rng1 : List.range 1 = [0] := rfl
theorem rng2 : List.range 2 = [0, 1] := rfl
theorem rng3 : List.range 3 = [0, 1, 2] := rfl
theorem rng4 : List.range 4 = [0, 1, 2, 3] := rfl
theorem rng5 : List.range 5 = [0, 1, 2, 3, 4] := rfl
theorem rng6 : List.range 6 = [0, 1, 2, 3, 4, 5] := rfl
theorem rng7 : List.range 7 = [0, 1, 2, 3, 4, 5, 6] := rfl
theorem rng8 : List.range 8 = [0, 1, 2, 3, 4, 5, 6, 7] := rfl
theorem rng9 : List.range 9 = [0, 1, 2, 3, 4, 5, 6, 7, 8] := rfl
theorem rng10 : List.range 10 = [0, 1, 2, 3, 4, 5, 6, 7, 8, 9] := rfl
theorem rng11 : List.range 11 = [0, 1, 2, 3, 4, 5, 6, 7, 8, 9, 10] := rfl
theorem rng12 : List.range 12 = [0, 1, 2, 3, 4, 5, 6, 7, 8, 9, 10, 11] := rfl
theorem rng16 : List.range 16 = [0, 1, 2, 3, 4, 5, 6, 7, 8, 9, 10, 11, 12, 13, 14, 15] := rfl
/-- A block of numbers, of marks. -/
def ints (k : IntKind) (xs : List Int) : List AV := xs.map (AV.int k)
theorem ints_get {k : IntKind} {xs : List Int} {j : Nat} (h : j < xs.length) : (ints k xs)[j]? = some (.int k (gi xs j)) := by
  simp [ints, gi, h, List.getD_eq_getElem?_getD]
theorem ints_len {k : IntKind} {xs : List Int} : (ints k xs).length = xs.length := by simp [ints]
theorem ints_set {k : IntKind} {xs : List Int} {j : Nat} {v : Int} : (ints k xs).set j (.int k v) = ints k (xs.set j v) := by simp [ints, List.map_set]
theorem ints_rep {k : IntKind} {n : Nat} {v : Int} : List.replicate n (.int k v) = ints k (List.replicate n v) := by simp [ints]
def bools (xs : List Bool) : List AV := xs.map AV.bool
def bget (bs : List Bool) (k : Nat) : Bool := bs.getD k false
theorem bools_get {xs : List Bool} {j : Nat} (h : j < xs.length) : (bools xs)[j]? = some (.bool (bget xs j)) := by
  simp [bools, bget, h, List.getD_eq_getElem?_getD]
theorem bools_len {xs : List Bool} : (bools xs).length = xs.length := by simp [bools]
theorem bools_set {xs : List Bool} {j : Nat} {v : Bool} : (bools xs).set j (.bool v) = bools (xs.set j v) := by simp [bools, List.map_set]
theorem bools_rep {n : Nat} {v : Bool} : List.replicate n (.bool v) = bools (List.replicate n v) := by simp [bools]
theorem mvs_ints {σ : Nat → Nat} {k : IntKind} : ∀ {xs : List Int}, AV.mvs σ (ints k xs) = ints k xs
  | [] => rfl
  | x :: r => by show AV.mv σ (.int k x) :: AV.mvs σ (ints k r) = _; rw [mvs_ints (xs := r)]; rfl
theorem mvs_bools {σ : Nat → Nat} : ∀ {xs : List Bool}, AV.mvs σ (bools xs) = bools xs
  | [] => rfl
  | x :: r => by show AV.mv σ (.bool x) :: AV.mvs σ (bools r) = _; rw [mvs_bools (xs := r)]; rfl
theorem mvs_append {σ : Nat → Nat} : ∀ {xs ys : List AV}, AV.mvs σ (xs ++ ys) = AV.mvs σ xs ++ AV.mvs σ ys
  | [], _ => rfl
  | x :: r, ys => by show AV.mv σ x :: AV.mvs σ (r ++ ys) = _; rw [mvs_append (xs := r)]; rfl
/-- Pairs of numbers, cell by cell. -/
def prs (l : List (Int × Int)) : List AV := l.flatMap fun p => [.int .i64 p.1, .int .i64 p.2]
theorem prs_nil : prs [] = [] := rfl
theorem prs_cons {p : Int × Int} {l : List (Int × Int)} : prs (p :: l) = .int .i64 p.1 :: .int .i64 p.2 :: prs l := rfl
theorem prs_append {l m : List (Int × Int)} : prs (l ++ m) = prs l ++ prs m := by simp [prs]
theorem prs_len : ∀ {l : List (Int × Int)}, (prs l).length = l.length * 2
  | [] => rfl
  | p :: l => by rw [prs_cons]; simp only [List.length_cons, prs_len (l := l)]; omega
theorem mvs_prs {σ : Nat → Nat} : ∀ {l : List (Int × Int)}, AV.mvs σ (prs l) = prs l
  | [] => rfl
  | p :: l => by
    rw [prs_cons]
    show AV.mv σ _ :: AV.mv σ _ :: AV.mvs σ (prs l) = _
    rw [mvs_prs (l := l)]; rfl
theorem prs_at : ∀ {l : List (Int × Int)} {j : Nat} (_h : j < l.length), (prs l).drop (j * 2) = .int .i64 (g1 l j) :: .int .i64 (g2 l j) :: (prs l).drop ((j + 1) * 2)
  | [], j, h => by simp at h
  | p :: l, 0, _ => by rw [prs_cons]; simp [g1, g2]
  | p :: l, j + 1, h => by
    rw [prs_cons, show (j + 1) * 2 = j * 2 + 1 + 1 by omega, List.drop_succ_cons, List.drop_succ_cons, prs_at (l := l) (by simpa using h), show (j + 1 + 1) * 2 = (j + 1) * 2 + 1 + 1 by omega, List.drop_succ_cons, List.drop_succ_cons]
    rfl
theorem prs_at0 {l : List (Int × Int)} {j : Nat} (h : j < l.length) : (prs l)[j * 2]? = some (.int .i64 (g1 l j)) := by
  have := congrArg (fun x => x[0]?) (prs_at h)
  simpa using this
theorem prs_at1 {l : List (Int × Int)} {j : Nat} (h : j < l.length) : (prs l)[j * 2 + 1]? = some (.int .i64 (g2 l j)) := by
  have := congrArg (fun x => x[1]?) (prs_at h)
  simpa using this
theorem prs_load {l : List (Int × Int)} {j : Nat} (h : j < l.length) : ((prs l).drop (j * 2)).take 2 = [.int .i64 (g1 l j), .int .i64 (g2 l j)] := by rw [prs_at h]; rfl
theorem prs_take {l : List (Int × Int)} {j : Nat} : (prs l).take (j * 2) = prs (l.take j) := by
  induction l generalizing j with
  | nil => simp [prs_nil]
  | cons p l ih =>
    cases j with
    | zero => simp [prs_nil]
    | succ j => rw [prs_cons, show (j + 1) * 2 = j * 2 + 1 + 1 by omega, List.take_succ_cons, List.take_succ_cons, ih]; rfl
def absF (m : Nat) (σ : Nat → Nat) (F1 : Fr) : Fr → Prop
  | [] => True
  | p :: r => W m (look F1 p.1) (p.2.mv σ) ∧ absF m σ F1 r
def absH (m : Nat) (σ : Nat → Nat) (l1 : AHeap) : List Nat → AHeap → Prop
  | i :: s, x :: l2 => (x = .dead ∨ l1[i]? = some (x.mv σ) ∨ BW m (l1[i]?) (x.mv σ)) ∧ absH m σ l1 s l2
  | [], [] => True
  | _, _ => False
theorem absF_mem {m : Nat} {σ : Nat → Nat} {F1 : Fr} : ∀ {F2 : Fr}, absF m σ F1 F2 → ∀ p ∈ F2, W m (look F1 p.1) (p.2.mv σ)
  | _ :: _, h, p, hp => by
    rcases List.mem_cons.1 hp with rfl | hp
    · exact h.1
    · exact absF_mem h.2 p hp
theorem absH_get {m : Nat} {σ : Nat → Nat} {l1 : AHeap} : ∀ {sel : List Nat} {l2 : AHeap}, absH m σ l1 sel l2 → l2.length = sel.length ∧ ∀ (i b : Nat) (x : ABlk), sel[i]? = some b → l2[i]? = some x → x = .dead ∨ l1[b]? = some (x.mv σ) ∨ BW m (l1[b]?) (x.mv σ)
  | [], [], _ => ⟨rfl, fun i b x h => by simp at h⟩
  | s :: sel, y :: l2, h => by
    obtain ⟨h1, h2⟩ := absH_get h.2
    refine ⟨by simp [h1], fun i b x hs hl => ?_⟩
    cases i with
    | zero => simp at hs hl; subst hs hl; exact h.1
    | succ i => exact h2 i b x (by simpa using hs) (by simpa using hl)
  | [], _ :: _, h => h.elim
  | _ :: _, [], h => h.elim
/-- A state that is seen as another one (G: blocks that nothing lies in). -/
theorem Abs.byG {H0 l1 l2 : AHeap} {F1 F2 : Fr} (hsc : HBel H0.length H0) (G : AHeap) (hG : G.all phant = true) (sel : List Nat) (hnd : sel.Nodup) (h : absF (H0.length + (l1 ++ G).length) (sig H0.length (l1 ++ G).length sel) F1 F2 ∧ absH (H0.length + (l1 ++ G).length) (sig H0.length (l1 ++ G).length sel) (l1 ++ G) sel l2) : Abs H0.length (sig H0.length (l1 ++ G).length sel) F1 (H0 ++ l1) F2 (H0 ++ l2) :=
  Abs.of G hG rfl hsc sel hnd (absF_mem h.1) (absH_get h.2).1 (absH_get h.2).2
theorem Abs.by {H0 l1 l2 : AHeap} {F1 F2 : Fr} (hsc : HBel H0.length H0) (sel : List Nat) (hnd : sel.Nodup) (h : absF (H0.length + l1.length) (sig H0.length l1.length sel) F1 F2 ∧ absH (H0.length + l1.length) (sig H0.length l1.length sel) l1 sel l2) : Abs H0.length (sig H0.length l1.length sel) F1 (H0 ++ l1) F2 (H0 ++ l2) := by
  have := Abs.byG (l1 := l1) (l2 := l2) (F1 := F1) (F2 := F2) hsc [] rfl sel hnd (by simpa using h)
  simpa using this
/-- At a function's end, with new blocks. -/
theorem end_byG {P : Program} {fn : Func} {H l1 l2 : AHeap} {R : AV → AHeap → Prop} {F : Fr} {e : Exit} (he : e = .ret ∨ e = .normal) (hbel : HBel H.length H) {x1 : AV} (x2 : AV) (hx : aResult P fn F (H ++ l1) = some x1) (G : AHeap) (hG : G.all phant = true) (sel : List Nat) (hnd : sel.Nodup) (hR : R x2 (H ++ l2))
    (h : W (H.length + (l1 ++ G).length) x1 (x2.mv (sig H.length (l1 ++ G).length sel)) ∧ absH (H.length + (l1 ++ G).length) (sig H.length (l1 ++ G).length sel) (l1 ++ G) sel l2) : AEnd P fn H.length R e F (H ++ l1) := by
  have h1 := Abs.of (n := H.length) (H0 := H) (l1 := l1) (l2 := l2) (F1 := [(0, x1)]) (F2 := [(0, x2)]) G hG rfl hbel sel hnd (fun p hp => by simp at hp; subst hp; exact h.1) (absH_get h.2).1 (absH_get h.2).2
  rcases he with rfl | rfl
  · exact ⟨x1, hx, _, x2, _, hR, h1⟩
  · exact ⟨x1, hx, _, x2, _, hR, h1⟩
theorem end_by {P : Program} {fn : Func} {H l1 l2 : AHeap} {R : AV → AHeap → Prop} {F : Fr} {e : Exit} (he : e = .ret ∨ e = .normal) (hbel : HBel H.length H) {x1 : AV} (x2 : AV) (hx : aResult P fn F (H ++ l1) = some x1) (sel : List Nat) (hnd : sel.Nodup) (hR : R x2 (H ++ l2))
    (h : x1 = x2.mv (sig H.length l1.length sel) ∧ absH (H.length + l1.length) (sig H.length l1.length sel) l1 sel l2) : AEnd P fn H.length R e F (H ++ l1) :=
  end_byG he hbel x2 hx [] rfl sel hnd hR ⟨by rw [List.append_nil, h.1]; exact W.refl _, by rw [List.append_nil]; exact h.2⟩
/-- At the end of a function that hands back plain values and has made no block. -/
theorem end_plain0 {P : Program} {fn : Func} {H : AHeap} {R : AV → AHeap → Prop} {F : Fr} {e : Exit} (he : e = .ret ∨ e = .normal) (hbel : HBel H.length H) {x : AV} (hx : aResult P fn F H = some x) (hp : x.bel 0 = true) (hR : R x H) : AEnd P fn H.length R e F H := by
  have h := end_plain (P := P) (fn := fn) (l1 := []) (F := F) (R := R) he hbel (x := x) (by simpa using hx) hp hR
  simpa using h
theorem Abs.by0 {H0 : AHeap} {F1 F2 : Fr} (hsc : HBel H0.length H0) (h : absF H0.length (sig H0.length 0 []) F1 F2) : Abs H0.length (sig H0.length 0 []) F1 H0 F2 H0 := by
  have := Abs.by (l1 := []) (l2 := []) (F1 := F1) (F2 := F2) hsc [] (by simp) ⟨h, trivial⟩
  simpa using this
/-- A call by a contract that says what it hands back and what it leaves. -/
theorem call_v {P : Program} {N n : Nat} {q : Bool} {Q : Exit → Fr → AHeap → Prop} {dst : Option Tmp} {os : List LOp} {r : List It} {F : Fr} {H H1 : AHeap} {f : FuncId} {args : List AV} {x : AV} (hok : okFn P f = true) (h : ACalls P f args H fun v H' => v = x ∧ H' = H1) (k : AGo P N n q Q (.ops os :: r) (putF dst x F) H1) : ACallK P N n q Q none f args dst os r F H :=
  call_of hok h fun v H' ⟨h1, h2⟩ => by subst h1 h2; exact k
theorem call_d {P : Program} {N n m : Nat} {q : Bool} {Q : Exit → Fr → AHeap → Prop} {dst : Option Tmp} {os : List LOp} {r : List It} {F : Fr} {H : AHeap} {f : FuncId} {args : List AV} {x : AV} (hok : okFn P f = true) (h : ACalls P f args H fun y H1 => y = x ∧ H1 = H) (k : AGo P N n q Q (.opsD m os :: r) (putF dst x F) H) : ACallK P N n q Q (some m) f args dst os r F H :=
  ⟨hok, x, H, fun _ => rfl, ⟨Nat.le_refl _, fun _ _ => rfl⟩, h, k⟩
/-- A call that makes blocks, in a region that draws (q = false). -/
theorem call_x {P : Program} {N n m : Nat} {Q : Exit → Fr → AHeap → Prop} {dst : Option Tmp} {os : List LOp} {r : List It} {F : Fr} {H l : AHeap} {f : FuncId} {args : List AV} {x : AV} (hok : okFn P f = true) (hm : m ≤ H.length) (h : ACalls P f args H fun y H1 => y = x ∧ H1 = H ++ l) (k : AGo P N n false Q (.opsD m os :: r) (putF dst x F) (H ++ l)) : ACallK P N n false Q (some m) f args dst os r F H :=
  ⟨hok, x, H ++ l, (fun h => by cases h), ⟨by simp, fun b hb => List.getElem?_append_left (Nat.lt_of_lt_of_le hb hm)⟩, h, k⟩
end Go.Proofs.Ytjfnbcifafmefaa
