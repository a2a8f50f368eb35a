/- Parts of the proof: walks and plain facts. Conditions: as each theorem states. -/
import Derived.Test.YtgfjhidfpjmmnaaG3
import Derived.Deep.RegionHeld3
import Derived.Test.YtgfjhidfpjmmnaaG2
import Derived.RangeFuncNested
import Derived.RangeFuncMany
import Derived.RangeFuncLeaves
import Derived.RangeFuncBox
import Derived.Sort.MapsRangeIn
import Derived.Shelf.Abstract
import Derived.Shelf.RegionOpen
import Derived.WalkKit
import Derived.OwnWalkIn
import Derived.TacticsInMore
import Derived.LoopNIn
import Derived.LoopIn
import Derived.RegionIn
import Derived.Maps.AppendAt
namespace Go.Proofs.Ytgfjhidfpjmmnaa
set_option linter.unusedSimpArgs false
set_option linter.unusedVariables false
open Go.RowKit Go.Sort
theorem isNaN_h (x : Int) (W : World) : Calls Try.prog 74 #[.int .i64 x] W fun e w' => e = .returned (.bool false) ∧ w' = W := by
  go_enter Try.func74, Try.ntmps74
  go_wp2
  go_ret
  exact ⟨by simp, rfl⟩
theorem compare_h (x y : Int) (W : World) : Calls Try.prog 58 #[.int .i64 x, .int .i64 y] W fun e w' => e = .returned (.int .i64 (cmpI x y)) ∧ w' = W := by
  have hcon := isNaN_h
  go_enter Try.func58, Try.ntmps58
  go_wp2_with (go_at_call 74; refine (hcon _ _).mono ?_; rintro e w' ⟨rfl, rfl⟩)
  · go_ret
    exact ⟨ret_int (by unfold cmpI; rw [if_pos (by assumption)]), rfl⟩
  · go_ret
    exact ⟨ret_int (by unfold cmpI; rw [if_neg (by omega), if_pos (by assumption)]), rfl⟩
  go_ret
  exact ⟨ret_int (by unfold cmpI; rw [if_neg (by omega), if_neg (by omega)]), rfl⟩
theorem or_h (a b : Int) (w : World) (blk off c : Nat) (h0 : w.cell? ⟨blk, off, none⟩ = some (.int .i64 a)) (h1 : w.cell? ⟨blk, off + 1, none⟩ = some (.int .i64 b)) :
    Calls Try.prog 57 #[.slice (some ⟨blk, off, none⟩) 2 c] w fun e w' => e = .returned (.int .i64 (if a = 0 then b else a)) ∧ w' = w := by
  have g0 : w.cell? ⟨blk, off + 0, none⟩ = some (.int .i64 a) := h0
  go_enter Try.func57, Try.ntmps57
  go_wp2
  go_loop [8] (fun i => ∃ k : Nat, k ≤ 2 ∧ i = .int .i64 k ∧ Hid ((1 ≤ k → a = 0) ∧ (2 ≤ k → b = 0))) (fun i => 2 - (intOf i).toNat)
  case atStart => exact ⟨0, by omega, rfl, ⟨fun h => by omega, fun h => by omega⟩⟩
  case round =>
    obtain ⟨k, hk, rfl, HK⟩ := hrel
    rcases (by omega : k = 0 ∨ k = 1 ∨ k = 2) with rfl | rfl | rfl
    · by_cases ha : a = 0
      · go_wp2
        go_round
        case rel => exact ⟨1, by omega, by go_num, ⟨fun _ => ha, fun h => by omega⟩⟩
        case measure => simp [intOf]
      go_wp2
      go_ret
      exact ⟨ret_int (by first | rfl | (rw [if_neg ha])), rfl⟩
    · have ha := HK.out.1 (by omega)
      by_cases hb : b = 0
      · go_wp2
        go_round
        case rel => exact ⟨2, by omega, by go_num, ⟨fun _ => ha, fun h => hb⟩⟩
        case measure => simp [intOf]
      go_wp2
      go_ret
      exact ⟨ret_int (by first | rfl | (rw [if_pos ha])), rfl⟩
    have ha := HK.out.1 (by omega)
    have hb := HK.out.2 (by omega)
    go_wp2
    go_ret
    exact ⟨ret_int (by first | rfl | (rw [if_pos ha, hb])), rfl⟩
theorem cell_last (w : World) (cs : Array Value) (t B j : Nat) (hB : B = w.heap.size) : (w.alloc (.cells cs t)).cell? ⟨B, j, none⟩ = cs[j]? := by
  subst hB
  unfold World.cell?
  have : (w.alloc (.cells cs t)).heap[w.heap.size]? = some (.cells cs t) := by
    show (w.heap.push _)[w.heap.size]? = _
    rw [Array.getElem?_push, if_pos rfl]
  rw [this]; rfl
theorem cell_lastd (w : World) (cs : Array Value) (t B j : Nat) (hB : B = w.heap.size) : (w.alloc (.cells cs t)).drew.cell? ⟨B, j, none⟩ = cs[j]? := cell_last w cs t B j hB
set_option maxHeartbeats 20000000 in
theorem byrow_h (x y : Int × Int) (W : World) : Calls Try.prog 34 #[.agg #[.int .i64 x.1, .int .i64 x.2], .agg #[.int .i64 y.1, .int .i64 y.2]] W fun e w' => e = .returned (.int .i64 (cfC x y)) ∧ ∃ q os', w' = grow (W.drewN q) os' := by
  have hcon := compare_h
  have hcon2 : ∀ (w : World) (blk off c : Nat), w.cell? ⟨blk, off, none⟩ = some (.int .i64 (cmpI x.2 y.2)) → w.cell? ⟨blk, off + 1, none⟩ = some (.int .i64 (cmpI x.1 y.1)) →
    Calls Try.prog 57 #[.slice (some ⟨blk, off, none⟩) 2 c] w fun e w' => e = .returned (.int .i64 (cfC x y)) ∧ w' = w := by
    intro w blk off c h0 h1
    have k := or_h (cmpI x.2 y.2) (cmpI x.1 y.1) w blk off c h0 h1
    unfold cfC
    exact k
  go_enter Try.func34, Try.ntmps34
  go_wp2_with (first | (go_at_call 58; refine (hcon _ _ _).mono ?_; rintro e w' ⟨rfl, rfl⟩) | fail)
  go_region_held3 (fun w' => w'.cell? ⟨W.heap.size, 0, none⟩ = some (.int .i64 x.1) ∧ w'.cell? ⟨W.heap.size, 1, none⟩ = some (.int .i64 x.2) ∧ w'.cell? ⟨W.heap.size + 1, 0, none⟩ = some (.int .i64 y.1) ∧ w'.cell? ⟨W.heap.size + 1, 1, none⟩ = some (.int .i64 y.2)) (go_keep)
    (first
      | (go_at_call 58; refine (hcon _ _ _).mono ?_; rintro e w' ⟨rfl, rfl⟩)
      | (go_at_call 57; refine (hcon2 _ _ _ _ ?h1 ?h2).mono ?_; case h1 => first | exact (cell_last _ _ _ _ _ (by simp)).trans rfl | exact (cell_lastd _ _ _ _ _ (by simp)).trans rfl
         case h2 => first | exact (cell_last _ _ _ _ _ (by simp)).trans rfl | exact (cell_lastd _ _ _ _ _ (by simp)).trans rfl
         rintro e w' ⟨rfl, rfl⟩))
  go_wp2
  go_ret
  exact ⟨rfl, 1, _, by rw [alloc_eq_grow, alloc_eq_grow, alloc_eq_grow, grow_grow, grow_grow]; rfl⟩
set_option maxHeartbeats 20000000 in
theorem evcmp_h (x y : Int × Int) (W : World) : Calls Try.prog 49 #[.agg #[.int .i64 x.1, .int .i64 x.2], .agg #[.int .i64 y.1, .int .i64 y.2]] W fun e w' => e = .returned (.int .i64 (cfC x y)) ∧ ∃ q os', w' = grow (W.drewN q) os' := by
  have hcon := compare_h
  have hcon2 : ∀ (w : World) (blk off c : Nat), w.cell? ⟨blk, off, none⟩ = some (.int .i64 (cmpI x.2 y.2)) → w.cell? ⟨blk, off + 1, none⟩ = some (.int .i64 (cmpI x.1 y.1)) →
    Calls Try.prog 57 #[.slice (some ⟨blk, off, none⟩) 2 c] w fun e w' => e = .returned (.int .i64 (cfC x y)) ∧ w' = w := by
    intro w blk off c h0 h1
    have k := or_h (cmpI x.2 y.2) (cmpI x.1 y.1) w blk off c h0 h1
    unfold cfC
    exact k
  go_enter Try.func49, Try.ntmps49
  go_wp2_with (first | (go_at_call 58; refine (hcon _ _ _).mono ?_; rintro e w' ⟨rfl, rfl⟩) | fail)
  go_region_held3 (fun w' => w'.cell? ⟨W.heap.size, 0, none⟩ = some (.int .i64 x.1) ∧ w'.cell? ⟨W.heap.size, 1, none⟩ = some (.int .i64 x.2) ∧ w'.cell? ⟨W.heap.size + 1, 0, none⟩ = some (.int .i64 y.1) ∧ w'.cell? ⟨W.heap.size + 1, 1, none⟩ = some (.int .i64 y.2)) (go_keep)
    (first
      | (go_at_call 58; refine (hcon _ _ _).mono ?_; rintro e w' ⟨rfl, rfl⟩)
      | (go_at_call 57; refine (hcon2 _ _ _ _ ?h1 ?h2).mono ?_; case h1 => first | exact (cell_last _ _ _ _ _ (by simp)).trans rfl | exact (cell_lastd _ _ _ _ _ (by simp)).trans rfl
         case h2 => first | exact (cell_last _ _ _ _ _ (by simp)).trans rfl | exact (cell_lastd _ _ _ _ _ (by simp)).trans rfl
         rintro e w' ⟨rfl, rfl⟩))
  go_wp2
  go_ret
  exact ⟨rfl, 1, _, by rw [alloc_eq_grow, alloc_eq_grow, alloc_eq_grow, grow_grow, grow_grow]; rfl⟩
set_option maxHeartbeats 20000000 in
theorem unp1_h (x y : T4) (W : World) : Calls Try.prog 38 #[.agg #[.int .i64 x.1, .int .i64 x.2.1, .int .i64 x.2.2.1, .int .i64 x.2.2.2], .agg #[.int .i64 y.1, .int .i64 y.2.1, .int .i64 y.2.2.1, .int .i64 y.2.2.2]] W fun e w' => e = .returned (.int .i64 (cfE x y)) ∧ ∃ q os', w' = grow (W.drewN q) os' := by
  have hcon1 := byrow_h (x.1, x.2.1) (y.1, y.2.1)
  go_enter Try.func38, Try.ntmps38
  go_wp2_with (first | (go_at_call 34; refine (hcon1 _).mono ?_; rintro e w' ⟨rfl, q, os', rfl⟩) | fail)
  go_ret
  have hd : ∀ (w : World) (os : Array Obj) (n : Nat), (grow w os).drewN n = grow (w.drewN n) os := fun _ _ _ => rfl
  exact ⟨rfl, q, _, by rw [alloc_eq_grow, alloc_eq_grow, grow_grow, hd, grow_grow]⟩
set_option maxHeartbeats 20000000 in
theorem red1_h (x y : T4) (W : World) : Calls Try.prog 43 #[.agg #[.int .i64 x.1, .int .i64 x.2.1, .int .i64 x.2.2.1, .int .i64 x.2.2.2], .agg #[.int .i64 y.1, .int .i64 y.2.1, .int .i64 y.2.2.1, .int .i64 y.2.2.2]] W fun e w' => e = .returned (.int .i64 (cfE x y)) ∧ ∃ q os', w' = grow (W.drewN q) os' := by
  have hcon1 := byrow_h (x.1, x.2.1) (y.1, y.2.1)
  go_enter Try.func43, Try.ntmps43
  go_wp2_with (first | (go_at_call 34; refine (hcon1 _).mono ?_; rintro e w' ⟨rfl, q, os', rfl⟩) | fail)
  go_ret
  have hd : ∀ (w : World) (os : Array Obj) (n : Nat), (grow w os).drewN n = grow (w.drewN n) os := fun _ _ _ => rfl
  exact ⟨rfl, q, _, by rw [alloc_eq_grow, alloc_eq_grow, grow_grow, hd, grow_grow]⟩
set_option maxHeartbeats 20000000 in
theorem lst2_h (x y : T4) (W : World) : Calls Try.prog 107 #[.agg #[.int .i64 x.1, .int .i64 x.2.1, .int .i64 x.2.2.1, .int .i64 x.2.2.2], .agg #[.int .i64 y.1, .int .i64 y.2.1, .int .i64 y.2.2.1, .int .i64 y.2.2.2]] W fun e w' => e = .returned (.int .i64 (cfE x y)) ∧ ∃ q os', w' = grow (W.drewN q) os' := by
  have hcon1 := evcmp_h (x.1, x.2.1) (y.1, y.2.1)
  go_enter Try.func107, Try.ntmps107
  go_wp2_with (first | (go_at_call 49; refine (hcon1 _).mono ?_; rintro e w' ⟨rfl, q, os', rfl⟩) | fail)
  go_ret
  have hd : ∀ (w : World) (os : Array Obj) (n : Nat), (grow w os).drewN n = grow (w.drewN n) os := fun _ _ _ => rfl
  exact ⟨rfl, q, _, by rw [alloc_eq_grow, alloc_eq_grow, grow_grow, hd, grow_grow]⟩
theorem ltC_iff (x y : Int × Int) : ltOf cfC x y = decide (befP x y) := by
  rw [Bool.eq_iff_iff]
  unfold ltOf
  rw [decide_eq_true_eq, decide_eq_true_eq]
  unfold cfC cmpI befP
  repeat' split
  all_goals omega
theorem swoC : SWO (ltOf cfC) where
  irrefl x := by rw [ltC_iff, decide_eq_false_iff_not]; exact befP_irr
  trans x y z h1 h2 := by
    rw [ltC_iff, decide_eq_true_eq] at *
    exact befP_trans h1 h2
  ntrans x y z h1 h2 := by
    rw [ltC_iff, decide_eq_false_iff_not] at *
    unfold befP at *; omega
theorem ltE_iff (x y : T4) : ltOf cfE x y = decide (befE x y) := by
  have := ltC_iff (x.1, x.2.1) (y.1, y.2.1)
  exact this
theorem swoE : SWO (ltOf cfE) where
  irrefl x := by rw [ltE_iff, decide_eq_false_iff_not]; exact befP_irr
  trans x y z h1 h2 := by
    rw [ltE_iff, decide_eq_true_eq] at *
    exact befP_trans h1 h2
  ntrans x y z h1 h2 := by
    rw [ltE_iff, decide_eq_false_iff_not] at *
    unfold befE befP at *; omega
set_option maxRecDepth 100000 in
/-- Cells in order: a permutation that is in order. -/
theorem sortb_c (H : AHeap) (b : Nat) (cap : Option Nat) (l : List (Int × Int)) (hb : H[b]? = some (.cells true 2 (prs l))) (h0 : 0 < l.length) (h1 : l.length ≤ 1000000) :
    ACalls Try.prog 51 [.sl (some (b, 0)) l.length cap, .fn 34 []] H (fun v H' => v = .tup [] ∧ ∃ ys : List (Int × Int), ys.Perm l ∧ ys.Pairwise (fun x y => ¬ befP y x) ∧ H' = H.set b (.cells true 2 (prs ys))) := by
  have eg : ∀ args w, (callFunc 34 args).run Try.prog w = .ok (.enter 34 args) w := enters_of Try.func34 (by kernel_rfl) rfl
  refine (sortc_f (α := Int × Int) id cfC swoC 34 eg (fun x y W => byrow_h x y W) (zs := l) (by rw [List.map_id]; exact hb) rfl h0 h1).mono ?_
  rintro v H' ⟨rfl, ys, hp, hs, rfl⟩
  refine ⟨rfl, ys, hp, hs.imp fun {x y} h => ?_, by rw [List.map_id]⟩
  rw [ltC_iff, decide_eq_false_iff_not] at h
  exact h
set_option maxRecDepth 100000 in
theorem sortu_c (H : AHeap) (b : Nat) (cap : Option Nat) (l : List T4) (hb : H[b]? = some (.cells true 4 (r4 l))) (h0 : 0 < l.length) (h1 : l.length ≤ 1000000) :
    ACalls Try.prog 37 [.sl (some (b, 0)) l.length cap, .fn 38 []] H (fun v H' => v = .tup [] ∧ ∃ ys : List T4, ys.Perm l ∧ ys.Pairwise (fun x y => ¬ befE y x) ∧ H' = H.set b (.cells true 4 (r4 ys))) := by
  have eg : ∀ args w, (callFunc 38 args).run Try.prog w = .ok (.enter 38 args) w := enters_of Try.func38 (by kernel_rfl) rfl
  refine (sortg_f cfE swoE 38 eg (fun x y W => unp1_h x y W) (zs := l) hb rfl h0 h1).mono ?_
  rintro v H' ⟨rfl, ys, hp, hs, rfl⟩
  refine ⟨rfl, ys, hp, hs.imp fun {x y} h => ?_, rfl⟩
  rw [ltE_iff, decide_eq_false_iff_not] at h
  exact h
set_option maxRecDepth 100000 in
theorem sortr_c (H : AHeap) (b : Nat) (cap : Option Nat) (l : List T4) (hb : H[b]? = some (.cells true 4 (r4 l))) (h0 : 0 < l.length) (h1 : l.length ≤ 1000000) :
    ACalls Try.prog 37 [.sl (some (b, 0)) l.length cap, .fn 43 []] H (fun v H' => v = .tup [] ∧ ∃ ys : List T4, ys.Perm l ∧ ys.Pairwise (fun x y => ¬ befE y x) ∧ H' = H.set b (.cells true 4 (r4 ys))) := by
  have eg : ∀ args w, (callFunc 43 args).run Try.prog w = .ok (.enter 43 args) w := enters_of Try.func43 (by kernel_rfl) rfl
  refine (sortg_f cfE swoE 43 eg (fun x y W => red1_h x y W) (zs := l) hb rfl h0 h1).mono ?_
  rintro v H' ⟨rfl, ys, hp, hs, rfl⟩
  refine ⟨rfl, ys, hp, hs.imp fun {x y} h => ?_, rfl⟩
  rw [ltE_iff, decide_eq_false_iff_not] at h
  exact h
set_option maxRecDepth 100000 in
theorem sortl_c (H : AHeap) (b : Nat) (cap : Option Nat) (l : List T4) (hb : H[b]? = some (.cells true 4 (r4 l))) (h0 : 0 < l.length) (h1 : l.length ≤ 1000000) :
    ACalls Try.prog 37 [.sl (some (b, 0)) l.length cap, .fn 107 []] H (fun v H' => v = .tup [] ∧ ∃ ys : List T4, ys.Perm l ∧ ys.Pairwise (fun x y => ¬ befE y x) ∧ H' = H.set b (.cells true 4 (r4 ys))) := by
  have eg : ∀ args w, (callFunc 107 args).run Try.prog w = .ok (.enter 107 args) w := enters_of Try.func107 (by kernel_rfl) rfl
  refine (sortg_f cfE swoE 107 eg (fun x y W => lst2_h x y W) (zs := l) hb rfl h0 h1).mono ?_
  rintro v H' ⟨rfl, ys, hp, hs, rfl⟩
  refine ⟨rfl, ys, hp, hs.imp fun {x y} h => ?_, rfl⟩
  rw [ltE_iff, decide_eq_false_iff_not] at h
  exact h



/-- A frame as a tree by the bits of a slot's number. -/
inductive FT where
  | nil
  | leaf (x : AV)
  | node (l r : FT)
def FT.get : Nat → FT → Nat → AV
  | 0, f, _ => (match f with | .leaf x => x | _ => .any)
  | d + 1, f, t => (match f with | .node l r => bif Nat.beq (t % 2) 0 then FT.get d l (t / 2) else FT.get d r (t / 2) | _ => .any)
def FT.set : Nat → Nat → AV → FT → FT
  | 0, _, x, _ => .leaf x
  | d + 1, t, x, f => (match f with
    | .node l r => bif Nat.beq (t % 2) 0 then .node (FT.set d (t / 2) x l) r else .node l (FT.set d (t / 2) x r)
    | _ => bif Nat.beq (t % 2) 0 then .node (FT.set d (t / 2) x .nil) .nil else .node .nil (FT.set d (t / 2) x .nil))
/-- What a slot holds. -/
def getT (f : FT) (t : Nat) : AV := bif Nat.blt t 1024 then FT.get 10 f t else .any
def ev (f : FT) : Operand → AV
  | .tmp t => getT f t
  | .const v => AV.ofValue v
  | .global _ => .any
  | .func g => .fn g []
abbrev Caller := FuncId → List AV → AHeap → Option (AV × Option AHeap)
def CallOk (P : Program) (call : Caller) : Prop := ∀ f args H x o, call f args H = some (x, o) → okFn P f = true ∧ H.length ≤ (o.getD H).length ∧ ACalls P f args H (fun y H1 => y = x ∧ H1 = o.getD H)
section
section
variable {P : Program} {N n m : Nat} {d : Option Nat} {q keep : Bool} {call : Caller}
theorem Rel.env {E E' : Env} {x : AV} {v : Value} (h : Rel E x v) (hn : E'.n = E.n) (hl : ∀ b, E'.loc b = E.loc b) : Rel E' x v := by
  induction h with
  | any v => exact .any v
  | int k n => exact .int k n
  | bool b => exact .bool b
  | str s => exact .str s
  | nilptr => exact .nilptr
  | ptr b o hb => rw [← hl b]; exact .ptr b o (by rw [hn]; exact hb)
  | nilsl => exact .nilsl
  | nils b cap hb hc => exact .nils b cap (by rw [hn]; exact hb) hc
  | sl b o len cap c a hb h1 h2 h3 h4 h5 => exact .sl b o len cap c a (by rw [hn]; exact hb) h1 h2 h3 (by rw [hl]; exact h4) (by rw [hl]; exact h5)
  | nilmp => exact .nilmp
  | mp b hb => rw [← hl b]; exact .mp b (by rw [hn]; exact hb)
  | nilfn => exact .nilfn
  | fn f caps cs hl' _ ih => exact .fn f caps cs hl' ih
  | agg xs cs hl' _ ih => exact .agg xs cs hl' ih
  | tup xs cs hl' _ ih => exact .tup xs cs hl' ih
theorem RelL.env {E E' : Env} {xs : List AV} {vs : List Value} (h : RelL E xs vs) (hn : E'.n = E.n) (hl : ∀ b, E'.loc b = E.loc b) : RelL E' xs vs := ⟨h.1, fun i x v hx hv => (h.2 i x v hx hv).env hn hl⟩
theorem BlkOk.env {E E' : Env} {w : World} {L : Loc} {x : ABlk} (h : BlkOk E w L x) (hB : E'.B = E.B) (hn : E'.n = E.n) (hl : ∀ b, E'.loc b = E.loc b) : BlkOk E' w L x := by
  cases x with
  | dead => trivial
  | cells own es xs =>
    obtain ⟨h1, h2, h3, h4⟩ := h
    refine ⟨fun j x hj => ?_, fun ho => by rw [hB]; exact h2 ho, fun ho hl => by rw [hB]; exact h3 ho hl, h4⟩
    obtain ⟨a, v, hv, hr⟩ := h1 j x hj
    exact ⟨a, v, hv, hr.env hn hl⟩
  | map es =>
    obtain ⟨h1, h2, ents, clock, h3, h4, h5, h6⟩ := h
    exact ⟨by rw [hB]; exact h1, h2, ents, clock, h3, h4.env hn hl, h5.env hn hl, h6⟩
  | fmap es bs ck =>
    obtain ⟨h1, h2, ents, h3, h4, h5, h6⟩ := h
    exact ⟨by rw [hB]; exact h1, h2, ents, h3, h4.env hn hl, h5.env hn hl, h6⟩
  | iter m bs sn ck =>
    obtain ⟨h1, h2, h3, h4, h5, h6, h7⟩ := h
    exact ⟨by rw [hB]; exact h1, h2, by rw [hn]; exact h3, h4, h5, h6, by rw [hl m]; exact h7⟩
theorem Abs0.same (n : Nat) {F G : Fr} (h : look F = look G) {H : AHeap} (hn : n ≤ H.length) : Abs0 n id F H G H where
  small _ _ := rfl
  len := hn
  frame E E' h1 h2 h3 t v hv := by
    rw [← h]
    exact hv.env (h2.trans h1.symm) h3
  heap E E' h1 h2 h3 h4 w hw b x hx := by
    rw [h4 b]
    exact (hw b x hx).env h3 (h2.trans h1.symm) h4
  inj b c x y hx hy ox oy hbc := ⟨hbc, ⟨x, hx, ox⟩, y, hy, oy⟩
theorem Abs.same (n : Nat) {F G : Fr} (h : look F = look G) {H : AHeap} (hn : n ≤ H.length) : Abs n id F H G H := (Abs0.same n h hn).abs
/-- The functions of a table can be entered, and their regions are as the machine wants them. -/
inductive TbOk (P : Program) : List (Nat × Bool × Func) → Prop where
  | nil : TbOk P []
  | cons {f : Nat} {q : Bool} {fn : Func} {r : List (Nat × Bool × Func)} : okFn P f = true → P.funcs[f]? = some fn → (fn.body.map (codeOk fn.ntmps q)) = some true → TbOk P r → TbOk P ((f, q, fn) :: r)
end
end
def ext : Caller := fun f args _ =>
  match args with
  | [.int .u64 x] => bif Nat.beq f 62 && (decide (0 ≤ x) && decide (x ≤ 18446744073709551615)) then some (.int .i64 (Lib.bitLen x.toNat), none) else none
  | _ => none
theorem ext_ok : CallOk Try.prog ext := fun f args H x o h => by
  unfold ext at h
  split at h
  · rename_i x'
    cases hb : Nat.beq f 62 && (decide (0 ≤ x') && decide (x' ≤ 18446744073709551615))
    · rw [hb] at h; cases h
    rw [hb, cond_true] at h
    simp only [Option.some.injEq, Prod.mk.injEq] at h
    obtain ⟨rfl, rfl⟩ := h
    simp only [Bool.and_eq_true, decide_eq_true_eq] at hb
    obtain ⟨h1, h2, h3⟩ := hb
    have e := Nat.eq_of_beq_eq_true h1
    subst e
    refine ⟨by kernel_rfl, Nat.le_refl _, fun E w vs hE hv => ?_⟩
    obtain ⟨v1, l1, rfl, k1, hr⟩ := rels_cons hv
    obtain rfl := rels_nil hr
    obtain rfl := rel_int k1
    refine (Try.bits_Len x' w h2 h3).mono fun e w' ⟨he, hw⟩ => ?_
    subst hw
    exact ⟨E, _, H, _, he, ⟨rfl, rfl⟩, .refl E, .int _ _, hE⟩
  cases h
set_option maxHeartbeats 4000000
set_option maxRecDepth 100000
theorem bits0_c (H : AHeap) : ACalls Try.prog 62 [.int .u64 0] H (fun v H' => v = iV 0 ∧ H' = H) := by
  have h := ext_ok 62 [.int .u64 0] H (iV 0) none (by kernel_rfl)
  exact h.2.2
theorem inse0_c (H : AHeap) (s : AV)   (g : FuncId) (hs : Sl H 4 s 0 []) : ACalls Try.prog 76 [s, iV 0, iV 0, .fn g []] H (fun v H' => v = .tup [] ∧ H' = H) := by
  obtain ⟨bs, os, cs, rfl, hbs⟩ := hs
  have hbls := getElem?_lt hbs
  have hb0s := fun l => get_app (l := l) hbs
  refine AcN true Try.func76 ?_; intro hbel Q hQ
  have g'1 := (jn @hbs @hb0s)
  refine runTf g'1 ?_
  refine glp (fun k F Hx => ∃ z : Unit, k = 0 ∧ F = [(0, .sl (some (bs, 0)) 0 cs), (1, iV 0), (2, iV 0), (3, .fn g []), (8, iV 1)] ∧ H = Hx) (0) ?_ ?_
  · refine ⟨_, _, _, ⟨(), by omega, rfl, rfl⟩, Abs.by0 hbel ?_⟩
    exact absW
  rintro k0 F Hx ⟨z, hm0, rfl, rfl⟩ J0 hJ0
  refine runTf g'1 ?_
  exact hQ _ _ (end_plain0 (by first | exact .inl rfl | exact .inr rfl) hbel (x := .tup []) (resT Try.results76) rfl ⟨rfl, rfl⟩)
theorem pdqe0_c (H : AHeap) (s : AV)   (m : Int) (g : FuncId) (hs : Sl H 4 s 0 []) : ACalls Try.prog 61 [s, iV 0, iV 0, iV m, .fn g []] H (fun v H' => v = .tup [] ∧ H' = H) := by
  obtain ⟨bs, os, cs, rfl, hbs⟩ := hs
  have hbls := getElem?_lt hbs
  have hb0s := fun l => get_app (l := l) hbs
  refine AcT true Try.func61 ?_; intro hbel Q hQ
  have g'2 := (jn @hbs @hb0s)
  refine runTf g'2 ?_
  refine glp (fun k F Hx => ∃ z : Unit, k = 0 ∧ F = [(0, .sl (some (bs, 0)) 0 cs), (1, iV 0), (2, iV 0), (3, iV m), (4, .fn g []), (10, .bool true), (11, .bool true)] ∧ H = Hx) (0) ?_ ?_
  · refine ⟨_, _, _, ⟨(), by omega, rfl, rfl⟩, Abs.by0 hbel ?_⟩
    exact absW
  rintro k0 F Hx ⟨z, hm0, rfl, rfl⟩ J0 hJ0
  refine runTf g'2 ?_
  refine cvr g'2 (inse0_c _ _ g (⟨_, _, _, rfl, by first | exact hb0s _ | exact hbs⟩)) ?_
  exact eQ hQ hbel (.tup []) Try.results61 ⟨rfl, rfl⟩
theorem srte0_c (H : AHeap) (s : AV) (g : FuncId) (hs : Sl H 4 s 0 []) : ACalls Try.prog 37 [s, .fn g []] H (fun v H' => v = .tup [] ∧ H' = H) := by
  obtain ⟨bs, os, cs, rfl, hbs⟩ := hs
  have hbls := getElem?_lt hbs
  have hb0s := fun l => get_app (l := l) hbs
  refine AcN true Try.func37 ?_; intro hbel Q hQ
  have g'3 := (jn @hbs @hb0s)
  refine runTf g'3 ?_
  refine cvr g'3 (bits0_c _) ?_
  refine cvr g'3 (pdqe0_c _ _ 0 g (⟨_, _, _, rfl, by first | exact hb0s _ | exact hbs⟩)) ?_
  exact hQ _ _ (end_plain0 (by first | exact .inl rfl | exact .inr rfl) hbel (x := .tup []) (resT Try.results37) rfl ⟨rfl, rfl⟩)
theorem ACalls.seen {P : Program} {f : FuncId} {args : List AV} {H : AHeap} {R : AV → AHeap → Prop} {b es : Nat} {o : Bool} {xs zs : List AV} (hb : H[b]? = some (.cells o es (xs ++ zs))) (h : ACalls P f args (H.set b (.cells o es xs)) R) : ACalls P f args H R := fun E w vs hE hv => by
  have hk : BlkOk E w (E.loc b) (.cells o es xs) := BW.ok (m := 0) (Nat.zero_le _) (BW.pre (zs := zs)) (hE.blk b _ hb)
  cases o with
  | true => exact h E w vs (hE.seen hb rfl hk) hv
  | false =>
    have hbl := getElem?_lt hb
    have hget : ∀ c x, (H.set b (.cells false es xs))[c]? = some x → (c = b ∧ x = .cells false es xs) ∨ (c ≠ b ∧ H[c]? = some x) := fun c x hx => by
      rw [List.getElem?_set] at hx
      by_cases e : b = c
      · subst e; simp [hbl] at hx; exact .inl ⟨rfl, hx.symm⟩
      rw [if_neg e] at hx; exact .inr ⟨fun e' => e e'.symm, hx⟩
    refine h E w vs ⟨by simp [hE.n], hE.below, hE.base, fun c x hx => ?_, fun c d x y hx hy ox oy hcd => ?_⟩ hv
    · rcases hget c x hx with ⟨rfl, rfl⟩ | ⟨_, hx⟩
      · exact hk
      exact hE.blk c x hx
    rcases hget c x hx with ⟨rfl, rfl⟩ | ⟨_, hx⟩
    · cases ox
    rcases hget d y hy with ⟨rfl, rfl⟩ | ⟨_, hy⟩
    · cases oy
    exact hE.inj c d x y hx hy ox oy hcd
theorem srtE_eq {ys zs : List T4} (hp : ys.Perm zs) (hs : ys.Pairwise (fun x y => ¬ befE y x)) (hn : (zs.map cel).Nodup) : ys = srtE zs := by
  have hn' : (ys.map cel).Nodup := (hp.map cel).nodup_iff.2 hn
  refine eq_strict (r := befE) (fun a => befP_irr) befP_asymm (strict_of hs hn') (srtE_strict hn) fun x => ?_
  rw [hp.mem_iff, (srtE_perm zs).mem_iff]
theorem sortu_k (H : AHeap) (b : Nat) (cap : Option Nat) (o : Bool) (zs pad : List T4) (hb : H[b]? = some (.cells o 4 (r4 (zs ++ pad)))) (ho : 0 < zs.length → o = true) (hn : (zs.map cel).Nodup) (hl : zs.length ≤ 1000000) :
    ACalls Try.prog 37 [.sl (some (b, 0)) zs.length cap, .fn 38 []] H (fun v H' => v = .tup [] ∧ H' = H.set b (.cells o 4 (r4 (srtE zs)))) := by
  have hbl := getElem?_lt hb
  rw [r4_append] at hb
  refine ACalls.seen hb ?_
  have hb' : (H.set b (.cells o 4 (r4 zs)))[b]? = some (.cells o 4 (r4 zs)) := List.getElem?_set_self hbl
  rcases Nat.eq_zero_or_pos zs.length with h0 | h0
  · have hz := List.eq_nil_of_length_eq_zero h0
    subst hz
    refine (srte0_c _ _ 38 ⟨b, o, cap, rfl, hb'⟩).mono ?_
    rintro v H' ⟨rfl, rfl⟩
    exact ⟨rfl, rfl⟩
  obtain rfl := ho h0
  refine (sortu_c _ b cap zs hb' h0 hl).mono ?_
  rintro v H' ⟨rfl, ys, hp, hs, rfl⟩
  exact ⟨rfl, by rw [srtE_eq hp hs hn, List.set_set]⟩
theorem sortr_k (H : AHeap) (b : Nat) (cap : Option Nat) (o : Bool) (zs pad : List T4) (hb : H[b]? = some (.cells o 4 (r4 (zs ++ pad)))) (ho : 0 < zs.length → o = true) (hn : (zs.map cel).Nodup) (hl : zs.length ≤ 1000000) :
    ACalls Try.prog 37 [.sl (some (b, 0)) zs.length cap, .fn 43 []] H (fun v H' => v = .tup [] ∧ H' = H.set b (.cells o 4 (r4 (srtE zs)))) := by
  have hbl := getElem?_lt hb
  rw [r4_append] at hb
  refine ACalls.seen hb ?_
  have hb' : (H.set b (.cells o 4 (r4 zs)))[b]? = some (.cells o 4 (r4 zs)) := List.getElem?_set_self hbl
  rcases Nat.eq_zero_or_pos zs.length with h0 | h0
  · have hz := List.eq_nil_of_length_eq_zero h0
    subst hz
    refine (srte0_c _ _ 43 ⟨b, o, cap, rfl, hb'⟩).mono ?_
    rintro v H' ⟨rfl, rfl⟩
    exact ⟨rfl, rfl⟩
  obtain rfl := ho h0
  refine (sortr_c _ b cap zs hb' h0 hl).mono ?_
  rintro v H' ⟨rfl, ys, hp, hs, rfl⟩
  exact ⟨rfl, by rw [srtE_eq hp hs hn, List.set_set]⟩
theorem sortl_k (H : AHeap) (b : Nat) (cap : Option Nat) (o : Bool) (zs pad : List T4) (hb : H[b]? = some (.cells o 4 (r4 (zs ++ pad)))) (ho : 0 < zs.length → o = true) (hn : (zs.map cel).Nodup) (hl : zs.length ≤ 1000000) :
    ACalls Try.prog 37 [.sl (some (b, 0)) zs.length cap, .fn 107 []] H (fun v H' => v = .tup [] ∧ H' = H.set b (.cells o 4 (r4 (srtE zs)))) := by
  have hbl := getElem?_lt hb
  rw [r4_append] at hb
  refine ACalls.seen hb ?_
  have hb' : (H.set b (.cells o 4 (r4 zs)))[b]? = some (.cells o 4 (r4 zs)) := List.getElem?_set_self hbl
  rcases Nat.eq_zero_or_pos zs.length with h0 | h0
  · have hz := List.eq_nil_of_length_eq_zero h0
    subst hz
    refine (srte0_c _ _ 107 ⟨b, o, cap, rfl, hb'⟩).mono ?_
    rintro v H' ⟨rfl, rfl⟩
    exact ⟨rfl, rfl⟩
  obtain rfl := ho h0
  refine (sortl_c _ b cap zs hb' h0 hl).mono ?_
  rintro v H' ⟨rfl, ys, hp, hs, rfl⟩
  exact ⟨rfl, by rw [srtE_eq hp hs hn, List.set_set]⟩
open Go.Shelf
/-- An entry as a value. -/
def encA (e : T4) : Value := .agg #[.int .i64 e.1, .int .i64 e.2.1, .int .i64 e.2.2.1, .int .i64 e.2.2.2]
section
variable {F : Fence} {n : Nat} {P : Program} {w : World} {ops : Array Oper} {rest : List Oper} {o : Oper} {a : Act} {Q : Exit → Act → World → Prop}
theorem wpListIn_rangeM (hg : o.guard = none) (m : Operand) (t k e : TypeId) (hop : o.op = Op.range t m) (ht : P.underlying t = some (.map k e)) (b : Nat) (ents : Array MapEntry) (ck : Nat) (hm : a.eval m = .map (some b)) (hb : w.heap[b]? = some (.map ents ck))
    (hK : wpListIn F n P ops Q rest (a.put o.dst (.pointer (some ⟨w.heap.size, 0, none⟩))) (w.alloc (.mapIter (some b) ck #[] ck))) : wpListIn F n P ops Q (o :: rest) a w := by
  refine wpListIn_plain hg fun K' hK' => ?_
  have hrun : (Instr.range t (.map (some b))).run P w = .ok (.pointer (some ⟨w.heap.size, 0, none⟩)) (w.alloc (.mapIter (some b) ck #[] ck)) := by
    have hget : (getObj b).run P w = .ok (.map ents ck) w := by simp [getObj, Sem.run, hb]
    simp [Instr.range, run_underlying ht, hget]
  unfold Oper.wpIn
  refine ⟨?_, ?_⟩
  · simp [Oper.about, hop]
  rw [Oper.semAt_plain F _ _ (by rw [hop]; intro c hc'; cases hc')]
  simp [execOp, hop, hm, hrun, Result.andThen]
  exact hK' _ _ hK
theorem wpListIn_nextM (hg : o.guard = none) (it : Operand) (hop : o.op = Op.next it false) (r bm ck : Nat) (seen : Array Nat) (es : Array MapEntry) (hit : a.eval it = .pointer (some ⟨r, 0, none⟩)) (hr : w.heap[r]? = some (.mapIter (some bm) ck seen ck)) (hb : w.heap[bm]? = some (.map es ck)) (hold : ∀ x ∈ es.toList, x.born < ck)
    (hDone : (∀ x ∈ es.toList, x.born ∈ seen.toList) → wpListIn F n P ops Q rest (a.put o.dst (.tuple #[.bool false])) w)
    (hMore : ∀ e ∈ es.toList, e.born ∉ seen.toList → ∀ w2 : World, w.grownBy w2 (some r) → w2.heap[r]? = some (.mapIter (some bm) ck (seen.push e.born) ck) → wpListIn F n P ops Q rest (a.put o.dst (.tuple #[.bool true, e.key, e.val])) w2) :
    wpListIn F n P ops Q (o :: rest) a w := by
  refine wpListIn_plain hg fun K' hK' => ?_
  unfold Oper.wpIn
  refine ⟨by simp [Oper.about, hop], ?_⟩
  rw [Oper.semAt_plain F _ _ (by rw [hop]; intro c hc'; cases hc')]
  rcases run_nextI (P := P) w o.type r bm ck seen es hr hb hold with ⟨h0, hrun⟩ | ⟨e, he, w1, hw1, hrun⟩
  · simp [execOp, hop, hit, hrun, Result.andThen]
    refine hK' _ _ (hDone fun x hx => ?_)
    refine Classical.byContradiction fun hn => ?_
    have hm : x ∈ (es.filter fun e => !seen.contains e.born) := by
      rw [Array.mem_filter]
      exact ⟨Array.mem_toList_iff.1 hx, by simpa using hn⟩
    rw [Array.eq_empty_of_size_eq_zero h0] at hm
    simp at hm
  simp [execOp, hop, hit, hrun, Result.andThen]
  have hrl : r < w.heap.size := (Array.getElem?_eq_some_iff.1 hr).1
  have he' : e ∈ es.toList ∧ e.born ∉ seen.toList := by simpa using he
  refine hK' _ _ (hMore e he'.1 he'.2 _ ?_ ?_)
  · have hh : w1.heap = w.heap ∧ w1.os = w.os ∧ w1.tape = w.tape ∧ w1.output = w.output := by rcases hw1 with rfl | rfl <;> exact ⟨rfl, rfl, rfl, rfl⟩
    exact ⟨hh.2.1, hh.2.2.1, hh.2.2.2, by simp only [hh.1]; simp, fun k _ hk => by simp only [hh.1]; rw [Array.getElem?_setIfInBounds_ne (fun q => hk (by rw [q]))]⟩
  have hh : w1.heap = w.heap := by rcases hw1 with rfl | rfl <;> rfl
  simp only [hh]
  rw [Array.getElem?_setIfInBounds_self_of_lt hrl]
theorem wpListIn_entryM (hg : o.guard = none) (it : Operand) (hop : o.op = Op.entry it) (r bm ck : Nat) (seen : Array Nat) (es : Array MapEntry) (e : MapEntry) (hit : a.eval it = .pointer (some ⟨r, 0, none⟩)) (hr : w.heap[r]? = some (.mapIter (some bm) ck (seen.push e.born) ck)) (hb : w.heap[bm]? = some (.map es ck)) (he : e ∈ es.toList) (hnd : (es.toList.map (·.born)).Nodup)
    (hK : wpListIn F n P ops Q rest (a.put o.dst (.tuple #[e.key, e.val])) w) : wpListIn F n P ops Q (o :: rest) a w := by
  refine wpListIn_plain hg fun K' hK' => ?_
  have hf : es.find? (·.born == e.born) = some e := by rw [← Array.find?_toList]; exact find_born e es.toList hnd he
  have hrun : (Instr.entry (.pointer (some ⟨r, 0, none⟩))).run P w = .ok (.tuple #[e.key, e.val]) w := by
    simp only [Instr.entry, getObj, Sem.run_bind, Sem.run, hr, hb, Result.andThen, Array.back?_push, bne_self_eq_false, Bool.false_eq_true, if_false, hf]
    rfl
  unfold Oper.wpIn
  refine ⟨by simp [Oper.about, hop], ?_⟩
  rw [Oper.semAt_plain F _ _ (by rw [hop]; intro c hc'; cases hc')]
  simp [execOp, hop, hit, hrun, Result.andThen]
  exact hK' _ _ hK
end

/-- What has not been seen (as leftE, of any list). -/
def leftN {α : Type} (es : List α) (bs sn : List Nat) : List α := ((es.zip bs).filter fun p => !sn.contains p.2).map (·.1)
theorem leftN_all {α : Type} : ∀ {es : List α} {bs : List Nat}, es.length = bs.length → leftN es bs [] = es
  | [], [], _ => rfl
  | x :: es, b :: bs, h => by
    have := leftN_all (es := es) (bs := bs) (by simpa using h)
    unfold leftN at this ⊢
    simpa using this
  | [], _ :: _, h => by simp at h
  | _ :: _, [], h => by simp at h
theorem leftN_cons {α : Type} {x : α} {es : List α} {b : Nat} {bs sn : List Nat} : leftN (x :: es) (b :: bs) sn = if b ∈ sn then leftN es bs sn else x :: leftN es bs sn := by
  unfold leftN
  by_cases h : b ∈ sn
  · simp [h]
  simp [h]
theorem leftN_other {α : Type} : ∀ {es : List α} {bs sn : List Nat} {st : Nat}, st ∉ bs → leftN es bs (sn ++ [st]) = leftN es bs sn
  | [], _, _, _, _ => by simp [leftN]
  | _ :: _, [], _, _, _ => by simp [leftN]
  | x :: es, b :: bs, sn, st, h => by
    have hb : b ≠ st := fun e => h (by simp [e])
    have ih := leftN_other (es := es) (bs := bs) (sn := sn) (st := st) (fun q => h (List.mem_cons_of_mem _ q))
    rw [leftN_cons, leftN_cons, ih]
    simp [hb]
theorem leftN_at {α : Type} : ∀ {es : List α} {bs sn : List Nat} {i : Nat} {x : α} {st : Nat}, bs.Nodup → es[i]? = some x → bs[i]? = some st → st ∉ sn → ∃ l1 l2, leftN es bs sn = l1 ++ x :: l2 ∧ leftN es bs (sn ++ [st]) = l1 ++ l2
  | y :: es, b :: bs, sn, 0, x, st, hn, hx, hs, hm => by
    simp only [List.getElem?_cons_zero, Option.some.injEq] at hx hs
    subst hx hs
    refine ⟨[], leftN es bs sn, ?_, ?_⟩
    · rw [leftN_cons, if_neg hm]; rfl
    rw [leftN_cons, if_pos (by simp)]; exact leftN_other (List.nodup_cons.1 hn).1
  | y :: es, b :: bs, sn, i + 1, x, st, hn, hx, hs, hm => by
    simp only [List.getElem?_cons_succ] at hx hs
    obtain ⟨l1, l2, h1, h2⟩ := leftN_at (List.nodup_cons.1 hn).2 hx hs hm
    have hb : b ≠ st := fun e => (List.nodup_cons.1 hn).1 (e ▸ List.mem_of_getElem? hs)
    by_cases hq : b ∈ sn
    · refine ⟨l1, l2, ?_, ?_⟩
      · rw [leftN_cons, if_pos hq, h1]
      rw [leftN_cons, if_pos (by simp [hq]), h2]
    refine ⟨y :: l1, l2, ?_, ?_⟩
    · rw [leftN_cons, if_neg hq, h1]; rfl
    rw [leftN_cons, if_neg (by simp [hq, hb]), h2]; rfl
  | [], _, _, _, _, _, _, hx, _, _ => by simp at hx
  | _ :: _, [], _, _, _, _, _, _, hs, _ => by simp at hs
theorem leftN_none {α : Type} {es : List α} {bs sn : List Nat} (h : ∀ x ∈ bs, x ∈ sn) : leftN es bs sn = [] := by
  unfold leftN
  rw [List.map_eq_nil_iff, List.filter_eq_nil_iff]
  intro p hp
  have := h p.2 (List.of_mem_zip (a := p.1) (b := p.2) hp).2
  simp [this]
/-- How many entries an iterator has not handed out: for the loop's measure. -/
def leftM (ents : Array MapEntry) (w : World) (r : Nat) : Nat := match w.heap[r]? with | some (.mapIter _ _ seen _) => (ents.filter fun e => !seen.contains e.born).size | _ => 0
theorem leftM_eq {ents : Array MapEntry} {w : World} {r : Nat} {a : Option Nat} {b c : Nat} {seen : Array Nat} (h : w.heap[r]? = some (.mapIter a b seen c)) : leftM ents w r = (ents.filter fun e => !seen.contains e.born).size := by
  unfold leftM; rw [h]
theorem leftM_step {es : Array MapEntry} {seen : Array Nat} {e : MapEntry} (he : e ∈ (es.filter fun e => !seen.contains e.born).toList) : (es.filter fun x => !(seen.push e.born).contains x.born).size < (es.filter fun e => !seen.contains e.born).size := left_shrinks es seen e he
set_option maxRecDepth 100000 in
set_option maxHeartbeats 1000000 in
/-- maps.Values' iterator, for every loop body. -/
theorem vals1_in (F : Fence) (n : Nat) (hf : F.fn 114) (hro : F.round = none) (hn : 1 ≤ n) (l Bm Bo b ck : Nat) (ents : Array MapEntry) (vs : List T4) (hlen : ents.toList.map (·.val) = vs.map encA) (hok : MOk ents ck) (J Jx : List T4 → World → Prop)
    (hY : ∀ pre x W, J pre W → pre.length < vs.length → YieldAt F (n - 1) Try.prog l #[encA x] W fun e W' =>
      (e = .returned (.bool true) ∧ J (pre ++ [x]) W' ∧ KeepsWalks W W') ∨ (e = .returned (.bool false) ∧ Jx (pre ++ [x]) W'))
    (W : World) (hJ : AbidesFrom W.heap.size J) (hm : W.cell? ⟨Bm, Bo, none⟩ = some (.map (some b))) (hb : W.heap[b]? = some (.map ents ck)) (h0 : J [] W) :
    CallsIn F n Try.prog 114 #[.func (.yield l) #[] #[], .pointer (some ⟨Bm, Bo, none⟩)] W fun e W' => (∃ v, e = .returned v) ∧
      ((∃ xs, List.Perm xs vs ∧ J xs W') ∨ (∃ pre, True ∧ Jx pre W')) := by
  refine callsIn_of_wp Try.func114 rfl hf ?_ hro
  simp only [Try.ntmps114, List.size_toArray, List.length_cons, List.length_nil, Nat.reduceAdd, Nat.reduceSub, Array.replicate_succ, Array.replicate_zero, List.push_toArray, List.append_toArray, List.nil_append, List.cons_append]
  have hbl : b < W.heap.size := (Array.getElem?_eq_some_iff.1 hb).1
  gi_wp2_with (first
    | (gi_at_range; refine wpListIn_rangeM rfl _ _ _ _ rfl Try.underlying106 b ents ck rfl hb ?_)
    | gi_in)
  go_frame
  have hW0 : W.grownBy (W.alloc (.mapIter (some b) ck #[] ck)) none := World.grownBy_alloc W _ none
  have hbs0 : (ents.toList.map (·.born)).length = vs.length := by have := congrArg List.length hlen; simpa using this
  gi_loopw [4] (fun _ wr => ∃ (sn : List Nat) (pre ls : List T4), wr.heap[W.heap.size]? = some (.mapIter (some b) ck sn.toArray ck) ∧ wr.heap[b]? = some (.map ents ck) ∧ W.heap.size < wr.heap.size ∧ leftN vs (ents.toList.map (·.born)) sn = ls ∧ List.Perm (pre ++ ls) vs ∧ J pre wr)
    (fun _ wr => leftM ents wr W.heap.size)
  case atStart =>
    refine ⟨[], [], vs, World.alloc_heap_new W _, (Below.heap_alloc W _ b hbl).trans hb, by simp, leftN_all (by simpa using hbs0.symm), by simp, hJ [] W _ none h0 hW0 (fun r e => by cases e)⟩
  case round =>
    obtain ⟨sn, pre, ls, hri, hrb, hrs, hls, hpm, hJs⟩ := hrel
    gi_wp2_with (first
      | (gi_at_next; refine wpListIn_nextM rfl _ rfl W.heap.size b ck sn.toArray ents rfl hri hrb hok.1 ?_ ?_)
      | gi_in)
    · intro hz
      gi_wp2
      go_end0
      refine ⟨⟨_, rfl⟩, .inl ⟨pre, ?_, hJs⟩⟩
      have hl0 : ls = [] := by
        rw [← hls]
        refine leftN_none fun x hx => ?_
        obtain ⟨e, he, rfl⟩ := List.mem_map.1 hx
        exact hz e (by simpa using he)
      rw [hl0, List.append_nil] at hpm
      exact hpm
    intro e hem0 hns w2 hg2 hr2
    have hem : e ∈ ents.toList := by simpa using hem0
    obtain ⟨i, hi⟩ := List.mem_iff_getElem?.1 hem
    have hil := (List.getElem?_eq_some_iff.1 hi).1
    have hvl : vs.length = ents.toList.length := by have := congrArg List.length hlen; simpa using this.symm
    have hvx : vs[i]? = some (vs[i]'(by omega)) := List.getElem?_eq_getElem _
    obtain ⟨x, hx⟩ : ∃ x, vs[i]'(by omega) = x := ⟨_, rfl⟩
    rw [hx] at hvx
    have hev : e.val = encA x := by
      have := congrArg (fun l => l[i]?) hlen
      simp only [List.getElem?_map, hi, hvx, Option.map_some, Option.some.injEq] at this
      exact this
    obtain ⟨l1, l2, hl1, hl2⟩ := leftN_at hok.2 hvx (by rw [List.getElem?_map, hi]; rfl) hns
    rw [hls] at hl1
    have hb2 : w2.heap[b]? = some (.map ents ck) := (hg2.block b (by omega) (by simp; omega)).trans hrb
    have hs2 := hg2.size
    have hJ2 : J pre w2 := hJ pre wr w2 (some W.heap.size) hJs hg2 (fun r e => by cases e; exact ⟨Nat.le_refl _, _, hri, rfl⟩)
    have hJ3 : J pre (w2.alloc (.cells #[.int .i64 x.1, .int .i64 x.2.1, .int .i64 x.2.2.1, .int .i64 x.2.2.2] 44)) := hJ pre w2 _ none hJ2 (World.grownBy_alloc w2 _ none) (fun r e => by cases e)
    have hpl : pre.length < vs.length := by
      have := hpm.length_eq
      rw [List.length_append, hl1, List.length_append, List.length_cons] at this
      omega
    obtain ⟨fn, tmps, assign, body, hy, hR⟩ := hY pre x _ hJ3 hpl
    dsimp only [encA] at hy
    gi_wp2_with (first
      | (refine wpListIn_entryM rfl _ rfl W.heap.size b ck sn.toArray ents e rfl (by simpa using hr2) hb2 hem hok.2 ?_; rw [hev]; unfold encA)
      | gi_in)
    refine hR.mono ?_
    rintro e' W3 (⟨rfl, hJ4, hk3⟩ | ⟨rfl, hJx3⟩)
    · gi_wp2
      have hk4 : KeepsWalks w2 W3 := (KeepsWalks.alloc w2 _).trans hk3
      have hr2' : w2.heap[W.heap.size]? = some (.mapIter (some b) ck (sn ++ [e.born]).toArray ck) := by simpa using hr2
      have hri3 := hk4.same _ _ hr2' rfl
      have hrb3 := hk4.same _ _ hb2 rfl
      go_roundw
      case rel =>
        refine ⟨sn ++ [e.born], pre ++ [x], l1 ++ l2, hri3, hrb3, by have := hk4.size; omega, hl2, ?_, hJ4⟩
        refine List.Perm.trans ?_ hpm
        rw [hl1, List.append_assoc]
        refine List.Perm.append_left pre ?_
        simpa using (List.perm_middle (l₁ := l1) (l₂ := l2) (a := x)).symm
      case measure =>
        rw [leftM_eq hri3, leftM_eq hri]
        have := leftM_step (es := ents) (seen := sn.toArray) (e := e) (by simpa using ⟨hem0, hns⟩)
        simpa using this
    gi_wp2
    refine bodyPost_ret (results_none rfl _ _ _) rfl ?_
    exact ⟨⟨_, rfl⟩, .inr ⟨pre ++ [x], trivial, hJx3⟩⟩
/-- maps.Values(m) hands back a value that gives the map's values, in some order. -/
theorem vals_stops (F : Fence) (n : Nat) (hf : F.fn 114) (hro : F.round = none) (hn : 1 ≤ n) (Bm Bo b ck : Nat) (ents : Array MapEntry) (vs : List T4) (hlen : ents.toList.map (·.val) = vs.map encA) (hok : MOk ents ck) (w : World) (hBm : Bm < w.heap.size)
    (hm : w.cell? ⟨Bm, Bo, none⟩ = some (.map (some b))) (hb : w.heap[b]? = some (.map ents ck)) :
    SeqStopsK F n Try.prog 114 #[.pointer (some ⟨Bm, Bo, none⟩)] (fun x : T4 => #[encA x]) KeepsWalks (fun xs => List.Perm xs vs) (fun _ => True) vs.length w := fun l J Jx W hW hJ _ hY h0 => by
  have hbl : b < w.heap.size := (Array.getElem?_eq_some_iff.1 hb).1
  exact vals1_in F n hf hro hn l Bm Bo b ck ents vs hlen hok J Jx hY W hJ ((hW.cell (p := ⟨Bm, Bo, none⟩) hBm).trans hm) ((hW.block b hbl).trans hb) h0
theorem cell_four_new (w : World) (x : T4) (t : TypeId) : ∀ j u, (encG x)[j]? = some u → (w.alloc (.cells #[.int .i64 x.1, .int .i64 x.2.1, .int .i64 x.2.2.1, .int .i64 x.2.2.2] t)).cell? ((⟨w.heap.size, 0, none⟩ : Addr).add j) = some u := by
  intro j u hj
  have e : (w.alloc (.cells #[.int .i64 x.1, .int .i64 x.2.1, .int .i64 x.2.2.1, .int .i64 x.2.2.2] t)).heap[w.heap.size]? = some (.cells #[.int .i64 x.1, .int .i64 x.2.1, .int .i64 x.2.2.1, .int .i64 x.2.2.2] t (0, 0)) := World.alloc_heap_new w _
  have hj4 : j < 4 := by have := getElem?_lt hj; simpa [encG] using this
  have ha : (⟨w.heap.size, 0, none⟩ : Addr).add j = ⟨w.heap.size, 0 + j, none⟩ := add_addr ..
  rw [ha, cell_of_row _ _ _ _ _ _ e, Nat.zero_add, ← hj]
  simp [encG]
theorem enc4_snoc (l : List T4) (x : T4) : enc4 (l ++ [x]) = enc4 l ++ encG x := by simp [enc4, encG]
theorem infoE : (Try.prog.info? 44).map (fun i => (i.zero, i.size, i.bytes)) = some (some (.agg #[.int .i64 0, .int .i64 0, .int .i64 0, .int .i64 0]), 4, 32) := by kernel_rfl
set_option maxRecDepth 100000 in
set_option maxHeartbeats 4000000 in
/-- slices.AppendSeq(nil, seq). -/
theorem appendSeq_in (F : Fence) (n : Nat) (hf : F.fn 113) (hro : F.round = none) (hn : 3 ≤ n) (g : Nat) (lb : Array Value) (hFg : F.fn g) (eg : ∀ args w, (callFunc g args).run Try.prog w = .ok (.enter g args) w)
    (S : List T4 → Prop) (N : Nat) (hN : N ≤ 1000000) (w : World) (hseq : SeqStopsK F (n - 1) Try.prog g lb (fun x : T4 => #[encA x]) KeepsWalks S (fun _ => True) N w) :
    CallsIn F n Try.prog 113 #[.slice none 0 0, .func (.func g) #[] lb] w fun e w' => ∃ (v : Value) (ss : List T4), e = .returned v ∧ S ss ∧ w'.ownsRow w.heap.size 44 4 v ss.length (enc4 ss) ∧ (v = .slice none 0 0 ↔ ss = []) ∧ Below w.heap.size w w' := by
  have h1 : 1 ≤ n := by omega
  refine callsIn_of_wp_marks Try.func113 rfl hf ?_ hro
  simp only [Try.ntmps113, List.size_toArray, List.length_cons, List.length_nil, Nat.reduceAdd, Nat.reduceSub, Array.replicate_succ, Array.replicate_zero, List.push_toArray, List.append_toArray, List.nil_append, List.cons_append]
  gi_wp2
  obtain ⟨i0, hi, hz0, hz1, hz2⟩ := info_parts infoE
  have bS := Boxed.new w 22 (.slice none 0 0)
  have hB0 : Below w.heap.size w (w.alloc (.cells #[.slice none 0 0] 22)) := (Below.refl _ w).alloc (Nat.le_refl _) _
  refine wpIn_rangeFunc_ownH hro h1 (gf := g) (lb := lb) rfl hFg eg (w0 := w) hseq walksK_t walksK_b hB0 (fun _ => rfl)
    (fun pre W => (∃ v, Boxed W w.heap.size 22 v ∧ W.ownsRow w.heap.size 44 4 v pre.length (enc4 pre) ∧ (v = .slice none 0 0 ↔ pre = [])) ∧ Below w.heap.size w W)
    (fun _ _ _ => False)
    (OwnFrom.and (Own.from (holdsRow_own w.heap.size w.heap.size 22 44 4 (fun pre : List T4 => pre.length) (fun pre => enc4 pre) (fun pre v => v = .slice none 0 0 ↔ pre = [])) _) (ownFrom_below (Nat.le_refl _) (by simp)))
    (fun _ _ _ _ _ hs _ _ => hs)
    ⟨⟨_, bS, World.ownsRow_nil _ _ _ _, by simp⟩, hB0⟩
    (fun x a' W => ∃ Bx, w.heap.size < Bx ∧ W.heap[Bx]? = some (.cells #[.int .i64 x.1, .int .i64 x.2.1, .int .i64 x.2.2.1, .int .i64 x.2.2.2] 44 (0, 0)) ∧ a' = { tmps := #[.slice none 0 0, .func (.func g) #[] lb, .pointer (some ⟨w.heap.size, 0, none⟩), undef, .slice none 0 0, .pointer (some ⟨Bx, 0, none⟩), .func (.func g) #[] lb, encA x, undef, undef, undef, undef, undef], defers := [] })
    (fun x a' _ X Y row hs hg hr => by
      obtain ⟨Bx, h1, h2, h3⟩ := hs
      refine ⟨Bx, h1, (hg.block Bx (Array.getElem?_eq_some_iff.1 h2).1 (fun e => ?_)).trans h2, h3⟩
      obtain ⟨-, o, ho, hc⟩ := hr Bx e.symm
      rw [h2] at ho; cases ho; cases hc)
    ?assign ?body ?done ?stop
  case assign =>
    rintro l pre x W K ⟨⟨v, bS1, hrow, hnil⟩, hB1⟩ hK
    unfold encA
    gi_wp2_with (rw [Oper.semAt_eq _ _ _ (fun c h => by cases h)]; go_simp; try go_bits)
    exact hK _ _ ((KeepsOthers.alloc _ _).from _) (KeepsWalks.alloc _ _) ⟨⟨v, bS1.alloc _, hrow.alloc _, hnil⟩, hB1.alloc hB1.size _⟩ ⟨W.heap.size, bS1.lt, World.alloc_heap_new W _, rfl⟩
  case body =>
    rintro l pre x a' W hl ⟨r, hr⟩ ⟨⟨v, hv, hrow, hnil⟩, hB⟩ ⟨Bx, hBx, bX, rfl⟩ hlt
    have hc := hv.cell
    have hcX : ∀ j, W.cell? ⟨Bx, j, none⟩ = (#[.int .i64 x.1, .int .i64 x.2.1, .int .i64 x.2.2.1, .int .i64 x.2.2.2] : Array Value)[j]? := fun j => by unfold World.cell?; rw [bX]; rfl
    gi_wp2_with (first
      | (gi_at_builtin; refine wpListIn_append_own _ rfl _ _ 22 rfl w.heap.size 44 i0 (.agg #[.int .i64 0, .int .i64 0, .int .i64 0, .int .i64 0]) 4 32 Try.underlying22 hi hz0 hz1 hz2 rfl (by decide) _ _ _ rfl (hrow.alloc _) ⟨W.heap.size, 0, none⟩ 1 1 (encG x) rfl rfl (cell_four_new _ _ _) (fun u hu => by simp [encG] at hu; rcases hu with rfl | rfl | rfl | rfl <;> rfl) (by simp [maxLen]; omega) (by omega) (by have := hB.size; simp; omega) ?_; intro v' w1 hown' hgrow _; obtain ⟨g', cap', rfl⟩ := ownsRow_succ hown'; obtain ⟨hv1, hv2, hr2, hk2, hb2⟩ := hv.appended (by decide) hrow hB.size (Nat.le_refl _) hown' hgrow; have hc1 := hv1.cell; have hf1 := hv1.frozen)
      | (rw [Oper.semAt_eq _ _ _ (fun c h => by cases h)]; go_simp; try go_bits))
    exact ⟨hk2.from _, hk2.walks, ⟨_, hv2, by rw [enc4_snoc]; simpa using hr2, by simp⟩, hB.trans hb2⟩
  case done =>
    rintro D ss W hD hS ⟨⟨v, hv, hrow, hnil⟩, hB⟩ hK
    have hc := hv.cell
    gi_wp2
    refine ⟨by simp, .inl ⟨_, _, rfl, run_takeDeferred hK, ?_⟩⟩
    exact ⟨_, results_tmp rfl _ _ _, v, ss, rfl, hS, ownsRow_putObj hrow _ hK rfl, hnil, hB.trans (belowK_b (w := w) (Nat.le_refl _) W D _ _ (by simp at hD; omega) hK rfl rfl)⟩
  case stop =>
    rintro D c pre W _ _ h _
    exact h.elim
set_option maxHeartbeats 1000000 in
/-- slices.Collect(seq). -/
theorem collect_in (F : Fence) (n : Nat) (h8 : F.fn 103) (h11 : F.fn 113) (hro : F.round = none) (hn : 4 ≤ n) (g : Nat) (lb : Array Value) (hFg : F.fn g) (eg : ∀ args w, (callFunc g args).run Try.prog w = .ok (.enter g args) w)
    (S : List T4 → Prop) (N : Nat) (hN : N ≤ 1000000) (w : World) (hseq : SeqStopsK F (n - 1 - 1) Try.prog g lb (fun x : T4 => #[encA x]) KeepsWalks S (fun _ => True) N w) :
    CallsIn F n Try.prog 103 #[.func (.func g) #[] lb] w fun e w' => ∃ (v : Value) (ss : List T4), e = .returned v ∧ S ss ∧ w'.ownsRow w.heap.size 44 4 v ss.length (enc4 ss) ∧ (v = .slice none 0 0 ↔ ss = []) ∧ Below w.heap.size w w' := by
  have h1 : 1 ≤ n := by omega
  refine callsIn_of_wp Try.func103 rfl h8 ?_ hro
  simp only [Try.ntmps103, List.size_toArray, List.length_cons, List.length_nil, Nat.reduceAdd, Nat.reduceSub, Array.replicate_succ, Array.replicate_zero, List.push_toArray, List.append_toArray, List.nil_append, List.cons_append]
  gi_wp2_with (gi_at_call 113; refine (appendSeq_in F (n - 1) h11 hro (by omega) g lb hFg eg S N hN _ hseq).mono ?_; rintro e w' ⟨v, ss, rfl, hS, hrow, hnil, hb⟩)
  go_ret
  exact ⟨v, ss, rfl, hS, hrow, hnil, hb⟩
theorem collect_h (Bm Bo b ck : Nat) (ents : Array MapEntry) (vs : List T4) (hlen : ents.toList.map (·.val) = vs.map encA) (hok : MOk ents ck) (hN : vs.length ≤ 1000000) (w : World) (hm : w.cell? ⟨Bm, Bo, none⟩ = some (.map (some b))) (hb : w.heap[b]? = some (.map ents ck)) :
    Calls Try.prog 103 #[.func (.func 114) #[] #[.pointer (some ⟨Bm, Bo, none⟩)]] w fun e w' => ∃ (v : Value) (ss : List T4), e = .returned v ∧ List.Perm ss vs ∧ w'.ownsRow w.heap.size 44 4 v ss.length (enc4 ss) ∧ (v = .slice none 0 0 ↔ ss = []) ∧ Below w.heap.size w w' := by
  have hBm : Bm < w.heap.size := by
    refine Classical.byContradiction fun hn => ?_
    unfold World.cell? at hm
    rw [Array.getElem?_eq_none (by simpa using hn)] at hm
    cases hm
  exact callsIn_wide.1 (collect_in Fence.wide 4 trivial trivial rfl (Nat.le_refl _) _ _ trivial (enters_of Try.func114 (by kernel_rfl) rfl) _ vs.length hN w (vals_stops Fence.wide 2 trivial rfl (by decide) Bm Bo b ck ents vs hlen hok w hBm hm hb))
/-- An entry, for the machine. -/
def entA (e : T4) : AV := .agg [.int .i64 e.1, .int .i64 e.2.1, .int .i64 e.2.2.1, .int .i64 e.2.2.2]
theorem rel_entA {E : Env} {e : T4} {v : Value} (h : Rel E (entA e) v) : v = encA e := by
  obtain ⟨vs, rfl, hr⟩ := rel_agg_inv h
  match vs, hr with
  | [a, b, c, d], hr =>
    obtain ⟨h1, hr⟩ := hr.uncons
    obtain ⟨h2, hr⟩ := hr.uncons
    obtain ⟨h3, hr⟩ := hr.uncons
    obtain ⟨h4, -⟩ := hr.uncons
    rw [rel_int h1, rel_int h2, rel_int h3, rel_int h4]; rfl
  | [], hr => have := hr.1; simp at this
  | [_], hr => have := hr.1; simp at this
  | [_, _], hr => have := hr.1; simp at this
  | [_, _, _], hr => have := hr.1; simp at this
  | _ :: _ :: _ :: _ :: _ :: _, hr => have := hr.1; simp at this
theorem relL_entA {E : Env} : ∀ {l : List T4} {vs : List Value}, RelL E (l.map entA) vs → vs = l.map encA
  | [], [], _ => rfl
  | [], _ :: _, h => by have := h.1; simp at this
  | _ :: _, [], h => by have := h.1; simp at this
  | e :: l, v :: vs, h => by
    obtain ⟨h1, h2⟩ := h.uncons
    rw [List.map_cons, rel_entA h1, relL_entA h2]
/-- Collect of a map's values. -/
theorem collect_c (H : AHeap) (bm b : Nat) (l : List T4) (es : List (AV × AV)) {o : Bool} (hbm : H[bm]? = some (.cells o 0 [.mp (some b)])) (hb : H[b]? = some (.map es)) (hes : es.map (·.2) = l.map entA) (hl : l.length ≤ 1000000) :
    ACalls Try.prog 103 [.fn 114 [.ptr (some (bm, 0))]] H (fun v H' => ∃ ss : List T4, List.Perm ss l ∧ v = .sl (some (H.length, 0)) ss.length (capG ss.length) ∧ H' = H ++ [.cells (ownG ss.length) 4 (r4 ss)]) := fun E w vs hE hv => by
  obtain ⟨v1, l1, rfl, k1, h1'⟩ := rels_cons hv
  obtain rfl := rels_nil h1'
  obtain ⟨-, -, ents, ck, q3, -, q5, q6⟩ := hE.blk b _ hb
  obtain ⟨m1, -, -, -⟩ := hE.blk bm _ hbm
  obtain ⟨-, mv, hmc, hmr⟩ := m1 0 _ rfl
  rw [Nat.add_zero] at hmc
  have hlen : ents.toList.map (·.val) = l.map encA := relL_entA (by rw [← hes]; exact q5)
  cases hmr with
  | mp _ hbn =>
  cases k1 with
  | fn _ _ cs hl1 hcs =>
  have hc1 : ∃ p, cs = #[p] ∧ Rel E (.ptr (some (bm, 0))) p := by
    have hs : cs.size = 1 := by simpa using hl1.symm
    refine ⟨cs[0]'(by omega), ?_, hcs 0 _ _ rfl (by simp)⟩
    apply Array.ext
    · simp [hs]
    intro i h1 h2
    have : i = 0 := by omega
    subst this; rfl
  obtain ⟨p, rfl, hp⟩ := hc1
  cases hp with
  | ptr _ _ hbmn =>
  refine (collect_h (E.loc bm).blk ((E.loc bm).off + 0) (E.loc b).blk ck ents l hlen q6 hl w hmc q3).mono ?_
  rintro e w' ⟨v, ss, rfl, hp, hown, hnil, hbw⟩
  have hup := hE.up hbw
  cases ss with
  | nil =>
    obtain rfl : v = .slice none 0 0 := hnil.2 rfl
    have hph := hup.phantom (es := 4) rfl
    refine ⟨_, _, _, _, rfl, ⟨[], hp, rfl, rfl⟩, E.le_push _, ?_, hph⟩
    exact .nils _ _ (by simp [Env.push, hE.n]) (.inr rfl)
  | cons a r =>
    obtain ⟨E', hle, hrel, hemb⟩ := hE.row (xs := r4 (a :: r)) hbw hown (Nat.le_refl _) (by simp) (rels_r4 _) (fun x hx => List.all_eq_true.1 (r4_onef _) x hx)
    exact ⟨E', _, _, _, rfl, ⟨a :: r, hp, rfl, rfl⟩, hle, hrel, hemb⟩
def zerB (e : T4) : Bool := e.2.2.1 == 0 && e.2.2.2 == 0
/-- A tally's entries in order, without those that are 0. -/
def lstE (l : List T4) : List T4 := srtE (delL zerB l)
theorem delL_nodup {p : T4 → Bool} {l : List T4} (h : (l.map cel).Nodup) : ((delL p l).map cel).Nodup := h.sublist ((List.filter_sublist).map cel)
theorem lstE_congr {l m : List T4} (hp : l.Perm m) (hn : (l.map cel).Nodup) : lstE l = lstE m := srtE_congr (hp.filter _) (delL_nodup hn)
theorem lstE_len (l : List T4) : (lstE l).length = (delL zerB l).length := srtE_len _
theorem mapE_vals (l : List T4) : (mapE l).map (·.2) = l.map entA := by unfold mapE; rw [List.map_map]; rfl
theorem values_c (H : AHeap) (b : Nat) (hb : b < H.length) : ACalls Try.prog 104 [.mp (some b)] H (fun v H' => v = .fn 114 [.ptr (some (H.length, 0))] ∧ H' = H ++ [.cells true 0 [.mp (some b)]]) := by
  (refine ACalls_run try_mixed Try.func104 false _ rfl (Nat.le_of_ble_eq_true (by kernel_rfl)) (by kernel_rfl) ?_; intro hbel Q hQ hQ' c hc; unfold Try.f104 at hc; simp only [Option.some.injEq] at hc; subst hc; clear hQ')
  simp -implicitDefEqProofs (disch := omega) only [simprocAttr, amset, tyset, Function.comp_apply, one1, lenV, calleeOf, lateOk, belowV, aop, AV.ofValue, AV.ofCell, AV.cells, AV.flat, AV.one, arep, aBin, aAppend, aConv]
  refine hQ _ _ (end_byG (.inl rfl) hbel (x1 := .fn 114 [.ptr (some (H.length, 0))]) (l2 := [.cells true 0 [.mp (some b)]]) (.fn 114 [.ptr (some (H.length, 0))]) (resT Try.results104) [] rfl [0] (by decide) ⟨rfl, rfl⟩ ?_)
  exact absT
theorem lst1_c (H : AHeap) (x y h p : Int) : ACalls Try.prog 106 [.agg [iV x, iV y, iV h, iV p]] H (fun v H' => v = .bool (zerB (x, y, h, p)) ∧ H' = H) := by
  (refine ACalls_run try_mixed Try.func106 true _ rfl (Nat.le_of_ble_eq_true (by kernel_rfl)) (by kernel_rfl) ?_; intro hbel Q hQ hQ' c hc; unfold Try.f106 at hc; simp only [Option.some.injEq] at hc; subst hc; clear hQ')
  simp -implicitDefEqProofs (disch := omega) only [simprocAttr, amset, tyset, Function.comp_apply, one1, lenV, calleeOf, lateOk, belowV, aop, AV.ofValue, AV.ofCell, AV.cells, AV.flat, AV.one, arep, aBin, aAppend, aConv]
  cases hz : (h == 0)
  · simp -implicitDefEqProofs (disch := omega) only [hz, simprocAttr, amset, tyset, Function.comp_apply, one1, lenV, calleeOf, lateOk, belowV, aop, AV.ofValue, AV.ofCell, AV.cells, AV.flat, AV.one, arep, aBin, aAppend, aConv]
    exact eP hQ hbel (.bool false) Try.results106 ⟨by unfold zerB; rw [hz]; rfl, rfl⟩
  simp -implicitDefEqProofs (disch := omega) only [hz, simprocAttr, amset, tyset, Function.comp_apply, one1, lenV, calleeOf, lateOk, belowV, aop, AV.ofValue, AV.ofCell, AV.cells, AV.flat, AV.one, arep, aBin, aAppend, aConv]
  exact eP hQ hbel (.bool (p == 0)) Try.results106 ⟨by unfold zerB; rw [hz]; rfl, rfl⟩
theorem BW_own {m n : Nat} {X : List T4} (h : X.length ≤ n) : BW m (some (.cells (ownG n) 4 (r4 X))) (.cells (ownG X.length) 4 (r4 X)) := by
  rcases Nat.eq_zero_or_pos X.length with h0 | h0
  · obtain rfl := List.eq_nil_of_length_eq_zero h0
    exact BW.emp
  rw [ownG_p h0, ownG_p (by omega)]
  have := BW.pre (m := m) (e := 4) (o := true) (ys := r4 X) (zs := [])
  rwa [List.append_nil] at this
theorem list_c (H : AHeap) (b : Nat) (l : List T4) (hb : H[b]? = some (.map (mapE l))) (hn : (l.map cel).Nodup) (hl : l.length ≤ 1000000) : ACalls Try.prog 87 [.mp (some b)] H (fun v H' => v = .sl (some (H.length, 0)) (lstE l).length none ∧ H' = H ++ [.cells (ownG (lstE l).length) 4 (r4 (lstE l))]) := by
  have hbl := getElem?_lt hb
  have hb0 := fun l => get_app (l := l) hb
  (refine ACalls_run try_mixed Try.func87 false _ rfl (Nat.le_of_ble_eq_true (by kernel_rfl)) (by kernel_rfl) ?_; intro hbel Q hQ hQ' c hc; unfold Try.f87 at hc; simp only [Option.some.injEq] at hc; subst hc; clear hQ')
  simp -implicitDefEqProofs (disch := omega) only [hb, hb0, simprocAttr, amset, tyset, Function.comp_apply, one1, lenV, calleeOf, lateOk, belowV, aop, AV.ofValue, AV.ofCell, AV.cells, AV.flat, AV.one, arep, aBin, aAppend, aConv]
  refine cv (values_c _ b hbl) ?_
  simp -implicitDefEqProofs (disch := omega) only [hb, hb0, simprocAttr, amset, tyset, Function.comp_apply, one1, lenV, calleeOf, lateOk, belowV, aop, AV.ofValue, AV.ofCell, AV.cells, AV.flat, AV.one, arep, aBin, aAppend, aConv]
  refine call_of (by kernel_rfl) (collect_c _ H.length b l (mapE l) (by first | rfl | (rw [get_new0]; rfl)) (hb0 _) (mapE_vals l) hl) ?_
  rintro _ _ ⟨ss, hp, rfl, rfl⟩
  have hsn : (ss.map cel).Nodup := (hp.map cel).nodup_iff.2 hn
  have hsl : ss.length ≤ 1000000 := by rw [hp.length_eq]; exact hl
  simp -implicitDefEqProofs (disch := omega) only [hb, hb0, simprocAttr, amset, tyset, Function.comp_apply, one1, lenV, calleeOf, lateOk, belowV, aop, AV.ofValue, AV.ofCell, AV.cells, AV.flat, AV.one, arep, aBin, aAppend, aConv]
  refine call_of (by kernel_rfl) (del_ent _ (H.length + 1) _ ss (by simp) (by omega) 106 [] (by kernel_rfl) rfl zerB (fun X e L _ => lst1_c _ e.1 e.2.1 e.2.2.1 e.2.2.2)) ?_
  rintro _ _ ⟨rfl, rfl⟩
  simp -implicitDefEqProofs (disch := omega) only [hb, hb0, simprocAttr, amset, tyset, Function.comp_apply, one1, lenV, calleeOf, lateOk, belowV, aop, AV.ofValue, AV.ofCell, AV.cells, AV.flat, AV.one, arep, aBin, aAppend, aConv]
  refine call_of (by kernel_rfl) (sortl_k _ (H.length + 1) none (ownG ss.length) (delL zerB ss) (List.replicate (ss.length - (delL zerB ss).length) (0, 0, 0, 0)) (by simp [padE]) (fun h => ownG_p (by have := delL_le (p := zerB) (l := ss); omega)) (delL_nodup hsn) (by have := delL_le (p := zerB) (l := ss); omega)) ?_
  rintro _ _ ⟨rfl, rfl⟩
  have hll : (delL zerB ss).length = (lstE l).length := by rw [← lstE_len ss, lstE_congr hp hsn]
  have hse : srtE (delL zerB ss) = lstE l := lstE_congr hp hsn
  have hle : (lstE l).length ≤ ss.length := by rw [← hll]; exact delL_le
  rw [hse, hll]
  simp -implicitDefEqProofs (disch := omega) only [hb, hb0, simprocAttr, amset, tyset, Function.comp_apply, one1, lenV, calleeOf, lateOk, belowV, aop, AV.ofValue, AV.ofCell, AV.cells, AV.flat, AV.one, arep, aBin, aAppend, aConv]
  refine hQ _ _ (end_byG (.inl rfl) hbel (x1 := .sl (some (H.length + 1, 0)) (lstE l).length none) (l2 := [.cells (ownG (lstE l).length) 4 (r4 (lstE l))]) (.sl (some (H.length, 0)) (lstE l).length none) (resT Try.results87) [] rfl [1] (by decide) ⟨rfl, rfl⟩ ?_)
  simp -implicitDefEqProofs (disch := omega) only [absF, absH, W_refl', W_any', W_agg, W_tup, Ws_cons, Ws_refl', Wc_refl', Wcs_cons, Wcs_nil, look, List.cons_append, List.nil_append, List.append_nil, List.length_cons, List.length_nil, Nat.zero_add, Nat.reduceAdd, AV.mv, AV.mvs, ABlk.mv, sig_new0, sig_newk, sig_lt, List.getElem?_cons_zero, List.getElem?_cons_succ, mvs_ints, mvs_bools, mvs_prs, mvs_append, cond_true, cond_false, beq_self_eq_true, Nat.reduceBEq, true_and, and_true, or_true, true_or, and_self, decide_true, Nat.add_zero, reduceCtorEq, false_or, or_false]
  exact .inr (by rw [mvs_r4]; exact BW_own hle)
/-- The sum of the counters at a cell. -/
def cnt : List T4 → Int × Int → Int × Int
  | [], _ => (0, 0)
  | e :: r, c => if cel e = c then (e.2.2.1 + (cnt r c).1, e.2.2.2 + (cnt r c).2) else cnt r c
theorem cnt_perm {l m : List T4} (h : l.Perm m) (c : Int × Int) : cnt l c = cnt m c := by
  induction h with
  | nil => rfl
  | cons x _ ih => simp only [cnt, ih]
  | swap x y l => simp only [cnt]; split <;> split <;> first | rfl | exact Prod.ext (by simp only; omega) (by simp only; omega)
  | trans _ _ a b => rw [a, b]
theorem cnt_not : ∀ {l : List T4} {c : Int × Int}, c ∉ l.map cel → cnt l c = (0, 0)
  | [], _, _ => rfl
  | e :: l, c, h => by
    simp only [List.map_cons, List.mem_cons, not_or] at h
    rw [cnt, if_neg fun q => h.1 q.symm, cnt_not h.2]
theorem cnt_mem : ∀ {l : List T4}, (l.map cel).Nodup → ∀ {e : T4}, e ∈ l → cnt l (cel e) = e.2.2
  | [], _, _, h => by simp at h
  | a :: l, hn, e, h => by
    rw [List.map_cons, List.nodup_cons] at hn
    rw [cnt]
    rcases List.mem_cons.1 h with q | q
    · subst q
      rw [if_pos rfl, cnt_not hn.1]
      exact Prod.ext (Int.add_zero _) (Int.add_zero _)
    rw [if_neg (fun k : cel a = cel e => hn.1 (by rw [k]; exact List.mem_map_of_mem q)), cnt_mem hn.2 q]
theorem cnt_del : ∀ (l : List T4) (c : Int × Int), cnt (delL zerB l) c = cnt l c
  | [], _ => rfl
  | e :: l, c => by
    unfold delL
    rw [List.filter_cons]
    cases hz : zerB e with
    | false => simp only [Bool.not_false, if_true, cnt]; rw [show cnt (l.filter fun e => !zerB e) c = cnt l c from cnt_del l c]
    | true =>
      simp only [Bool.not_true, Bool.false_eq_true, if_false, cnt]
      rw [show cnt (l.filter fun e => !zerB e) c = cnt l c from cnt_del l c]
      unfold zerB at hz
      rw [Bool.and_eq_true, beq_iff_eq, beq_iff_eq] at hz
      split
      · rw [hz.1, hz.2, Int.zero_add, Int.zero_add]
      rfl
theorem cnt_lst (l : List T4) (c : Int × Int) : cnt (lstE l) c = cnt l c := by
  unfold lstE; rw [cnt_perm (srtE_perm _), cnt_del]
/-- A list without entries that are 0. -/
def nzE (l : List T4) : Prop := ∀ e ∈ l, e.2.2 ≠ (0, 0)
theorem lst_strict {l : List T4} (h : (l.map cel).Nodup) : (lstE l).Pairwise befE := srtE_strict (delL_nodup h)
theorem lst_mem {l : List T4} {e : T4} : e ∈ lstE l ↔ e ∈ l ∧ e.2.2 ≠ (0, 0) := by
  unfold lstE delL
  rw [(srtE_perm _).mem_iff, List.mem_filter]
  unfold zerB
  constructor
  · rintro ⟨a, b⟩
    refine ⟨a, fun q => ?_⟩
    rw [q] at b; exact absurd b (by decide)
  rintro ⟨a, b⟩
  refine ⟨a, ?_⟩
  cases hz : (e.2.2.1 == 0 && e.2.2.2 == 0) with
  | false => rfl
  | true =>
    rw [Bool.and_eq_true, beq_iff_eq, beq_iff_eq] at hz
    exact absurd (Prod.ext hz.1 hz.2) b
theorem lst_nz (l : List T4) : nzE (lstE l) := fun _ he => (lst_mem.1 he).2
theorem lkE_cons (p : T4) (r : List T4) (x y : Int) : lkE (p :: r) x y = if cel p = (x, y) then p else lkE r x y := by
  unfold lkE
  rw [show fdE4 (p :: r) x y = bif ((x == p.1) && ((y == p.2.1) && true)) then some (0, p) else (fdE4 r x y).map fun q => (q.1 + 1, q.2) from rfl]
  by_cases h : cel p = (x, y)
  · rw [if_pos h]
    have e1 : p.1 = x := congrArg (·.1) h
    have e2 : p.2.1 = y := congrArg (·.2) h
    rw [show ((x == p.1) && ((y == p.2.1) && true)) = true by simp [e1, e2]]; rfl
  rw [if_neg h]
  rw [show ((x == p.1) && ((y == p.2.1) && true)) = false by
    cases q : ((x == p.1) && ((y == p.2.1) && true)) with
    | false => rfl
    | true => simp at q; exact absurd (Prod.ext q.1.symm q.2.symm) h]
  simp only [cond_false]
  cases fdE4 r x y <;> rfl
theorem upE_cons (p : T4) (r : List T4) (e : T4) : upE (p :: r) e = if cel p = cel e then e :: r else p :: upE r e := by
  unfold upE
  rw [show fdE4 (p :: r) e.1 e.2.1 = bif ((e.1 == p.1) && ((e.2.1 == p.2.1) && true)) then some (0, p) else (fdE4 r e.1 e.2.1).map fun q => (q.1 + 1, q.2) from rfl]
  by_cases h : cel p = cel e
  · rw [if_pos h]
    have e1 : p.1 = e.1 := congrArg (·.1) h
    have e2 : p.2.1 = e.2.1 := congrArg (·.2) h
    rw [show ((e.1 == p.1) && ((e.2.1 == p.2.1) && true)) = true by simp [e1, e2]]; rfl
  rw [if_neg h]
  rw [show ((e.1 == p.1) && ((e.2.1 == p.2.1) && true)) = false by
    cases q : ((e.1 == p.1) && ((e.2.1 == p.2.1) && true)) with
    | false => rfl
    | true => simp at q; exact absurd (show cel p = cel e from Prod.ext q.1.symm q.2.symm) h]
  simp only [cond_false]
  cases fdE4 r e.1 e.2.1 <;> rfl
theorem upE_cells : ∀ (l : List T4) (e : T4), (upE l e).map cel = if cel e ∈ l.map cel then l.map cel else l.map cel ++ [cel e]
  | [], e => rfl
  | p :: r, e => by
    rw [upE_cons]
    by_cases h : cel p = cel e
    · rw [if_pos h, if_pos (by rw [List.map_cons, h]; exact List.mem_cons_self ..)]
      simp only [List.map_cons, h]
    rw [if_neg h, List.map_cons, upE_cells r e]
    by_cases q : cel e ∈ r.map cel
    · rw [if_pos q, if_pos (by rw [List.map_cons]; exact List.mem_cons_of_mem _ q)]; rfl
    rw [if_neg q, if_neg (by rw [List.map_cons, List.mem_cons, not_or]; exact ⟨fun k => h k.symm, q⟩)]; rfl
theorem upE_nodup {l : List T4} {e : T4} (h : (l.map cel).Nodup) : ((upE l e).map cel).Nodup := by
  rw [upE_cells]
  split
  · exact h
  rename_i q
  rw [List.nodup_append]
  refine ⟨h, by simp, fun a ha b hb k => ?_⟩
  rw [List.mem_singleton.1 hb] at k; exact q (k ▸ ha)
theorem upE_len (l : List T4) (e : T4) : (upE l e).length ≤ l.length + 1 := by
  have := congrArg List.length (upE_cells l e)
  rw [List.length_map] at this
  rw [this]; split <;> simp
theorem addE_nodup {l : List T4} {x y h p : Int} (hn : (l.map cel).Nodup) : ((addE l x y h p).map cel).Nodup := upE_nodup hn
theorem lkE_cnt : ∀ {l : List T4} {x y : Int}, (l.map cel).Nodup → (lkE l x y).2.2 = cnt l (x, y)
  | [], _, _, _ => rfl
  | p :: r, x, y, hn => by
    rw [List.map_cons, List.nodup_cons] at hn
    rw [lkE_cons, cnt]
    by_cases h : cel p = (x, y)
    · rw [if_pos h, if_pos h, cnt_not (h ▸ hn.1)]
      exact Prod.ext (Int.add_zero _).symm (Int.add_zero _).symm
    rw [if_neg h, if_neg h, lkE_cnt hn.2]
theorem cnt_up : ∀ {l : List T4} {e : T4} (c : Int × Int), (l.map cel).Nodup → cnt (upE l e) c = if cel e = c then e.2.2 else cnt l c
  | [], e, c, _ => by
    show cnt [e] c = _
    simp only [cnt]; split
    · exact Prod.ext (Int.add_zero _) (Int.add_zero _)
    rfl
  | p :: r, e, c, hn => by
    rw [List.map_cons, List.nodup_cons] at hn
    rw [upE_cons]
    by_cases h : cel p = cel e
    · rw [if_pos h, cnt, cnt, h]
      by_cases q : cel e = c
      · rw [if_pos q, if_pos q, ← q, cnt_not (h ▸ hn.1)]; exact Prod.ext (Int.add_zero _) (Int.add_zero _)
      rw [if_neg q, if_neg q, if_neg q]
    rw [if_neg h, cnt, cnt, cnt_up c hn.2]
    by_cases q : cel e = c
    · rw [if_pos q, if_neg (fun k => h (k.trans q.symm)), if_pos q]
    rw [if_neg q, if_neg q]
theorem cnt_add {l : List T4} {x y h p : Int} (c : Int × Int) (hn : (l.map cel).Nodup) : cnt (addE l x y h p) c = if (x, y) = c then ((cnt l c).1 + h, (cnt l c).2 + p) else cnt l c := by
  unfold addE
  rw [cnt_up c hn]
  show (if (x, y) = c then _ else _) = _
  split
  · rename_i q
    rw [← q, ← lkE_cnt hn]
  rfl
/-- All entries of a list are added, one by one. -/
def addL (l m : List T4) : List T4 := m.foldl (fun a e => addE a e.1 e.2.1 e.2.2.1 e.2.2.2) l
theorem addL_nil (l : List T4) : addL l [] = l := rfl
theorem addL_take {l m : List T4} {i : Nat} (h : i < m.length) : addL l (m.take (i + 1)) = addE (addL l (m.take i)) (g41 m i) (g42 m i) (g43 m i) (g44 m i) := by
  have e := g4_eq h
  unfold addL
  rw [List.take_succ_eq_append_getElem h, List.foldl_append, ← e]
  rfl
theorem addL_nodup : ∀ (m : List T4) {l : List T4}, (l.map cel).Nodup → ((addL l m).map cel).Nodup
  | [], _, h => h
  | e :: m, l, h => addL_nodup m (l := addE l e.1 e.2.1 e.2.2.1 e.2.2.2) (addE_nodup h)
theorem addL_len : ∀ (m l : List T4), (addL l m).length ≤ l.length + m.length
  | [], _ => Nat.le_refl _
  | e :: m, l => by
    have h1 := addL_len m (addE l e.1 e.2.1 e.2.2.1 e.2.2.2)
    have h2 : (addE l e.1 e.2.1 e.2.2.1 e.2.2.2).length ≤ l.length + 1 := upE_len _ _
    show (addL (addE l e.1 e.2.1 e.2.2.1 e.2.2.2) m).length ≤ _
    rw [List.length_cons]; omega
theorem cnt_addL : ∀ (m : List T4) {l : List T4} (c : Int × Int), (l.map cel).Nodup → cnt (addL l m) c = ((cnt l c).1 + (cnt m c).1, (cnt l c).2 + (cnt m c).2)
  | [], l, c, _ => Prod.ext (Int.add_zero _).symm (Int.add_zero _).symm
  | e :: m, l, c, hn => by
    show cnt (addL (addE l e.1 e.2.1 e.2.2.1 e.2.2.2) m) c = _
    rw [cnt_addL m c (addE_nodup hn), cnt_add c hn, cnt]
    show _ = ((cnt l c).1 + (if (e.1, e.2.1) = c then _ else _ : Int × Int).1, _)
    split
    · rename_i q
      rw [if_pos (show cel e = c from q)]
      exact Prod.ext (by simp only; omega) (by simp only; omega)
    rename_i q
    rw [if_neg (show ¬ cel e = c from q)]
/-- All counters are at most B in magnitude. -/
def bdE (B : Int) (l : List T4) : Prop := ∀ e ∈ l, (-B ≤ e.2.2.1 ∧ e.2.2.1 ≤ B) ∧ -B ≤ e.2.2.2 ∧ e.2.2.2 ≤ B
theorem bdE.mono {B C : Int} {l : List T4} (h : bdE B l) (hBC : B ≤ C) : bdE C l := fun e he => by have := h e he; omega
theorem bdE.lk {B : Int} (h0 : 0 ≤ B) : ∀ {l : List T4}, bdE B l → ∀ x y, (-B ≤ (lkE l x y).2.2.1 ∧ (lkE l x y).2.2.1 ≤ B) ∧ -B ≤ (lkE l x y).2.2.2 ∧ (lkE l x y).2.2.2 ≤ B
  | [], _, _, _ => by show (-B ≤ 0 ∧ 0 ≤ B) ∧ -B ≤ 0 ∧ 0 ≤ B; omega
  | p :: r, h, x, y => by
    rw [lkE_cons]
    split
    · exact h p (List.mem_cons_self ..)
    exact bdE.lk h0 (fun e he => h e (List.mem_cons_of_mem _ he)) x y
theorem upE_bd {B : Int} : ∀ {l : List T4} {e : T4}, bdE B l → ((-B ≤ e.2.2.1 ∧ e.2.2.1 ≤ B) ∧ -B ≤ e.2.2.2 ∧ e.2.2.2 ≤ B) → bdE B (upE l e)
  | [], e, _, he => fun a ha => by rw [List.mem_singleton.1 (show a ∈ [e] from ha)]; exact he
  | p :: r, e, h, he => fun a ha => by
    rw [upE_cons] at ha
    split at ha
    · rcases List.mem_cons.1 ha with q | q
      · rw [q]; exact he
      exact h a (List.mem_cons_of_mem _ q)
    rcases List.mem_cons.1 ha with q | q
    · rw [q]; exact h p (List.mem_cons_self ..)
    exact upE_bd (fun e he => h e (List.mem_cons_of_mem _ he)) he a q
theorem addE_bd {B C : Int} {l : List T4} {x y h p : Int} (h0 : 0 ≤ B) (hC : 0 ≤ C) (hl : bdE B l) (h1 : -C ≤ h ∧ h ≤ C) (h2 : -C ≤ p ∧ p ≤ C) : bdE (B + C) (addE l x y h p) := by
  have k := bdE.lk h0 hl x y
  exact upE_bd (hl.mono (by omega)) (by simp only; omega)
theorem tadd_c (H : AHeap) (b : Nat) (l : List T4) (x y h p : Int) (hb : H[b]? = some (.map (mapE l))) (h1 : -1152921504606846976 ≤ (lkE l x y).2.2.1 ∧ (lkE l x y).2.2.1 ≤ 1152921504606846976) (h2 : -1152921504606846976 ≤ (lkE l x y).2.2.2 ∧ (lkE l x y).2.2.2 ≤ 1152921504606846976) (h3 : -1152921504606846976 ≤ h ∧ h ≤ 1152921504606846976) (h4 : -1152921504606846976 ≤ p ∧ p ≤ 1152921504606846976) :
    ACalls Try.prog 86 [.mp (some b), .agg [iV x, iV y], iV h, iV p] H (fun v H' => v = .tup [] ∧ H' = H.set b (.map (mapE (addE l x y h p)))) := by
  have hbl := getElem?_lt hb
  have hb0 := fun l => get_app (l := l) hb
  have hl := fun l x y => lk_ment (P := Try.prog) (t := 106) (kt := 42) (et := 44) (by kernel_rfl) tEq42 (by kernel_rfl) (by kernel_rfl) l x y
  have hu := fun l x y h p => up_ment (P := Try.prog) (t := 106) (kt := 42) (et := 44) (by kernel_rfl) tEq42 l x y h p
  refine AcN true Try.func86 ?_; intro hbel Q hQ
  simp -implicitDefEqProofs (disch := omega) only [hb, hb0, hl, hu, lk_gen, lk_mp, up_eq, de_eq, put_old, aApp_nil, aApp_none, aApp_some, aApp_grw, simprocAttr, amset, tyset, Function.comp_apply, one1, lenV, calleeOf, lateOk, belowV, aop, AV.ofValue, AV.ofCell, AV.cells, AV.flat, AV.one, arep, aBin, aConv]
  repeat refine And.intro (by omega) ?_
  refine hQ _ _ (end_put (b1 := .map (mapE (addE l x y h p))) (.map (mapE (addE l x y h p))) (l1 := [.cells true 0 [iV x, iV y], .cells true 0 [iV (lkE l x y).1, iV (lkE l x y).2.1, iV (lkE l x y).2.2.1, iV (lkE l x y).2.2.2]]) (l2 := []) (by first | exact .inl rfl | exact .inr rfl) hbel hbl (by first | rfl | simp) (x1 := .tup []) (.tup []) (resT Try.results86) [] rfl [] (by decide) ⟨rfl, List.append_nil _⟩ ?_)
  refine ⟨W.refl _, ?_, trivial⟩
  simp only [ABlk.mv, mv_mapE]
theorem counted_c (H : AHeap) (x y : Int) (h p : Int) : ACalls Try.prog 70 [.agg [iV x, iV y, iV h, iV p]] H (fun v H' => v = .bool (within h 1099511627776 && within p 1099511627776) ∧ H' = H) := by
  refine AcT true Try.func70 ?_; intro hbel Q hQ
  refine runT ?_
  refine cv (ewithin_c _ h _ (by decide)) ?_
  refine runT ?_
  refine gd_split (fun h1 => ?_) (fun h1 => ?_)
  · have h1d := bsT h1
    have g'1 := (jn h1 @h1d)
    refine runTf g'1 ?_
    refine cvr g'1 (ewithin_c _ p _ (by decide)) ?_
    exact eP hQ hbel (.bool (within p 1099511627776)) Try.results70 ⟨by simp [h1d], rfl⟩
  have h1d := bsT h1
  have g'2 := (jn h1 @h1d)
  exact eR g'2 hQ hbel (.bool false) Try.results70 ⟨by simp [h1d], rfl⟩
theorem good_c (H : AHeap) (x y : Int) (h p : Int) : ACalls Try.prog 48 [.agg [iV x, iV y, iV h, iV p]] H (fun v H' => v = .bool (gdB x y h p) ∧ H' = H) := by
  refine AcT true Try.func48 ?_; intro hbel Q hQ
  refine runT ?_
  refine cv (counted_c _ x y h p) ?_
  refine runT ?_
  refine gd_split (fun h1 => ?_) (fun h1 => ?_)
  · have h1d := bsT h1
    have g'3 := (jn h1 @h1d)
    refine rgs g'3 (fun h2 h2d _ => ?_) (fun h2 h2d _ => ?_)
    · have h2n := bnT h2
      have g'4 := (jn h2 (jn h2n (jn @int_bne (jn @int_beq g'3))))
      refine rgs g'4 (fun h3 h3d _ => ?_) (fun h3 h3d _ => ?_)
      · have h3n := bnT h3
        have g'5 := j2 h3 h3n g'4
        refine runTf g'5 ?_
        refine cv (ewithin_c _ x _ (by decide)) ?_
        refine rgs g'5 (fun h4 h4d g'6 => ?_) (fun h4 h4d g'7 => ?_)
        · refine runTf g'6 ?_
          refine cvr g'6 (ewithin_c _ y _ (by decide)) ?_
          exact eP hQ hbel (.bool (within y 16384)) Try.results48 ⟨by first | (simp only [gdB, h1, h2, h3, h4, h2d, h3d, Bool.false_and]; done) | (simp [gdB, show within 0 1099511627776 = true from rfl, h1d, h4d, h2d, h3d]; done), rfl⟩
        exact eR g'7 hQ hbel (.bool false) Try.results48 ⟨by first | (simp only [gdB, h1, h2, h3, h4, h2d, h3d, Bool.false_and]; done) | (simp [gdB, show within 0 1099511627776 = true from rfl, h1d, h4d, h2d, h3d]; done), rfl⟩
      have h3n := bnT h3
      have g'8 := j2 h3 h3n g'4
      exact eR g'8 hQ hbel (.bool false) Try.results48 ⟨by first | (simp only [gdB, h1, h2, h3, h2d, h3d, Bool.false_and]; done) | (simp [gdB, show within 0 1099511627776 = true from rfl, h1d, h2d, h3d]; done), rfl⟩
    have h2n := bnT h2
    have g'9 := (jn h2 (jn h2n (jn @int_bne (jn @int_beq g'3))))
    refine runTf g'9 ?_
    refine cv (ewithin_c _ x _ (by decide)) ?_
    refine rgs g'9 (fun h5 h5d g'10 => ?_) (fun h5 h5d g'11 => ?_)
    · refine runTf g'10 ?_
      refine cvr g'10 (ewithin_c _ y _ (by decide)) ?_
      exact eP hQ hbel (.bool (within y 16384)) Try.results48 ⟨by first | (simp only [gdB, h1, h2, h5, h2d, Bool.false_and]; done) | (simp [gdB, show within 0 1099511627776 = true from rfl, h1d, h5d, h2d]; done), rfl⟩
    exact eR g'11 hQ hbel (.bool false) Try.results48 ⟨by first | (simp only [gdB, h1, h2, h5, h2d, Bool.false_and]; done) | (simp [gdB, show within 0 1099511627776 = true from rfl, h1d, h5d, h2d]; done), rfl⟩
  have h1d := bsT h1
  have g'12 := (jn h1 @h1d)
  exact eR g'12 hQ hbel (.bool false) Try.results48 ⟨by first | (simp only [gdB, h1, Bool.false_and]; done) | (simp [gdB, show within 0 1099511627776 = true from rfl, h1d]; done), rfl⟩
theorem valid_c (H : AHeap) (s : AV) (l : List T4) (hs : Sl H 4 s l.length (r4 l)) (hl : l.length ≤ 1000000000) : ACalls Try.prog 28 [s] H (fun v H' => v = .bool (vldE l) ∧ H' = H) := by
  obtain ⟨bs, os, cs, rfl, hbs⟩ := hs
  have hbls := getElem?_lt hbs
  have hb0s := fun l => get_app (l := l) hbs
  refine AcT true Try.func28 ?_; intro hbel Q hQ
  have g'13 := (jn @hbs @hb0s)
  refine runTf g'13 ?_
  refine glp (fun k F Hx => ∃ i : Nat, i + k = l.length ∧ okN l i = true ∧ F = [(0, .sl (some (bs, 0)) l.length cs), (5, .sl (some (bs, 0)) l.length cs), (6, iV ((l.length : Nat) : Int)), (7, iV ((i : Nat) : Int))] ∧ H = Hx) (l.length) ?_ ?_
  · refine ⟨_, _, _, ⟨0, by omega, rfl, rfl, rfl⟩, Abs.by0 hbel ?_⟩
    exact absW
  rintro k0 F Hx ⟨i, hm0, ho, rfl, rfl⟩ J0 hJ0
  refine rcs g'13 (fun h1 h1d _ => ?_) (fun h1 h1d g'21 => ?_)
  · have hlt : i < l.length := by omega
    have q2 := r4_load (l := l) (j := i) (by omega)
    have g'14 := (jn h1 (jn h1d (jn @r4_len (jn q2 g'13))))
    refine runTf g'14 ?_
    refine cd (good_c _ _ _ _ _) ?_
    refine rgs g'14 (fun h3 h3d g'15 => ?_) (fun h3 h3d g'20 => ?_)
    · refine rgs g'15 (fun h4 h4d _ => ?_) (fun h4 h4d g'19 => ?_)
      · have hsfj : ((((i : Nat) : Int) - 1).toNat : Nat) < l.length := by omega
        have q5 := r4_p0 (l := l) (j := (((i : Nat) : Int) - 1).toNat) (by omega)
        have g'16 := (jn h4 (jn h4d (jn @hsfj (jn q5 g'15))))
        refine runTf g'16 ?_
        refine cd (evcmp_c _ _ _ _ _) ?_
        refine rcs g'16 (fun h6 h6d g'17 => ?_) (fun h6 h6d g'18 => ?_)
        · have hfin : vldE l = false := okN_bad hlt (okN_cf (j := (((i : Nat) : Int) - 1).toNat) (by omega) (by rw [befB_cfC, h6]; rfl))
          exact eR g'17 hQ hbel (.bool false) Try.results28 ⟨by first | (rw [hfin]; done) | (rw [hfin]; rfl) | (rw [hfin]; congr 1; rw [Bool.eq_iff_iff, decide_eq_true_eq, decide_eq_true_eq]; omega), rfl⟩
        have ho2 := okN_s (j := (((i : Nat) : Int) - 1).toNat) (by omega) ho (by assumption) (by rw [befB_cfC, h6]; rfl)
        refine runTf g'18 ?_
        refine hJ0 _ _ ⟨k0 - 1, by omega, _, _, _, ⟨i + 1, by omega, ho2, rfl, rfl⟩, Abs.byN hbel ?_⟩
        exact absW
      have ho2 := okN_0 (by omega) ho (by assumption)
      refine runTf g'19 ?_
      refine hJ0 _ _ ⟨k0 - 1, by omega, _, _, _, ⟨i + 1, by omega, ho2, rfl, rfl⟩, Abs.byN hbel ?_⟩
      exact absW
    have hfin : vldE l = false := okN_bad hlt (okN_gd h3d)
    exact eR g'20 hQ hbel (.bool false) Try.results28 ⟨by first | (rw [hfin]; done) | (rw [hfin]; rfl) | (rw [hfin]; congr 1; rw [Bool.eq_iff_iff, decide_eq_true_eq, decide_eq_true_eq]; omega), rfl⟩
  obtain rfl : i = l.length := by omega
  have hfin : vldE l = decide (l.length ≤ 1048576) := by unfold vldE; rw [ho, Bool.and_true]
  exact eS g'21 hQ hbel (.bool (decide (((l.length : Nat) : Int) ≤ 1048576))) Try.results28 ⟨by first | (rw [hfin]; done) | (rw [hfin]; rfl) | (rw [hfin]; congr 1; rw [Bool.eq_iff_iff, decide_eq_true_eq, decide_eq_true_eq]; omega), rfl⟩
theorem rvalid_c (H : AHeap) (s : AV) (l : List T4) (hs : Sl H 4 s l.length (r4 l)) (hl : l.length ≤ 1000000000) : ACalls Try.prog 18 [s] H (fun v H' => v = .bool (vldE l) ∧ H' = H) := by
  obtain ⟨bs, os, cs, rfl, hbs⟩ := hs
  have hbls := getElem?_lt hbs
  have hb0s := fun l => get_app (l := l) hbs
  refine AcT true Try.func18 ?_; intro hbel Q hQ
  have g'1 := (jn @hbs @hb0s)
  refine rcs g'1 (fun h1 h1d g'2 => ?_) (fun h1 h1d g'3 => ?_)
  · have hfin : vldE l = false := by unfold vldE; rw [decide_eq_false (by omega), Bool.false_and]
    exact eS g'2 hQ hbel (.bool false) Try.results18 ⟨by rw [hfin], rfl⟩
  refine runTf g'3 ?_
  refine glp (fun k F Hx => ∃ i : Nat, i + k = l.length ∧ okN l i = true ∧ F = [(0, .sl (some (bs, 0)) l.length cs), (3, iV ((i : Nat) : Int))] ∧ H = Hx) (l.length) ?_ ?_
  · refine ⟨_, _, _, ⟨0, by omega, rfl, rfl, rfl⟩, Abs.by0 hbel ?_⟩
    exact absW
  rintro k0 F Hx ⟨i, hm0, ho, rfl, rfl⟩ J0 hJ0
  refine rcs g'3 (fun h2 h2d _ => ?_) (fun h2 h2d g'25 => ?_)
  · have hlt : i < l.length := by omega
    have q3 := r4_load (l := l) (j := i) (by omega)
    have g'4 := (jn h2 (jn h2d (jn @r4_len (jn q3 g'3))))
    refine runTf g'4 ?_
    refine cv (bsize_c _ _ _ (by decide)) ?_
    refine rgs g'4 (fun h4 h4d g'5 => ?_) (fun h4 h4d g'24 => ?_)
    · refine runTf g'5 ?_
      refine cv (bsize_c _ _ _ (by decide)) ?_
      refine rgs g'5 (fun h5 h5d g'6 => ?_) (fun h5 h5d g'23 => ?_)
      · refine runTf g'6 ?_
        refine cv (bsize_c _ _ _ (by decide)) ?_
        refine rgs g'6 (fun h6 h6d g'7 => ?_) (fun h6 h6d g'22 => ?_)
        · refine runTf g'7 ?_
          refine cv (bsize_c _ _ _ (by decide)) ?_
          refine rgs g'7 (fun h7 h7d g'8 => ?_) (fun h7 h7d g'21 => ?_)
          · refine rgs g'8 (fun h8 h8d _ => ?_) (fun h8 h8d _ => ?_)
            · have h8n := bnT h8
              have g'9 := (jn h8 (jn h8n (jn @int_bne (jn @int_beq g'8))))
              refine rcs g'9 (fun h9 h9d _ => ?_) (fun h9 h9d _ => ?_)
              · have h9n := bnT h9
                have hfin : vldE l = false := okN_bad hlt (okN_gd (by simp [gdB, show within 0 1099511627776 = true from rfl, h1d, h2d, h4d, h5d, h6d, h7d, h8d, h9d]))
                have g'10 := j2 h9 h9n g'9
                exact eR g'10 hQ hbel (.bool false) Try.results18 ⟨by rw [hfin], rfl⟩
              have h9n := bnT h9
              have hgd : gdB (g41 l i) (g42 l i) (g43 l i) (g44 l i) = true := by simp [gdB, show within 0 1099511627776 = true from rfl, h1d, h2d, h4d, h5d, h6d, h7d, h8d, h9d]
              have g'11 := j2 h9 h9n g'9
              refine rgs g'11 (fun h10 h10d _ => ?_) (fun h10 h10d g'15 => ?_)
              · have hsfj : ((((i : Nat) : Int) - 1).toNat : Nat) < l.length := by omega
                have q11 := r4_p0 (l := l) (j := (((i : Nat) : Int) - 1).toNat) (by omega)
                have g'12 := (jn h10 (jn h10d (jn @hsfj (jn q11 g'11))))
                refine runTf g'12 ?_
                refine cd (bbef_c _ _ _ _ _) ?_
                refine rcs g'12 (fun h12 h12d g'13 => ?_) (fun h12 h12d g'14 => ?_)
                · have hfin : vldE l = false := okN_bad hlt (okN_cf (j := (((i : Nat) : Int) - 1).toNat) (by omega) h12d)
                  exact eR g'13 hQ hbel (.bool false) Try.results18 ⟨by rw [hfin], rfl⟩
                have ho2 := okN_s (j := (((i : Nat) : Int) - 1).toNat) (by omega) ho hgd h12d
                refine runTf g'14 ?_
                refine hJ0 _ _ ⟨k0 - 1, by omega, _, _, _, ⟨i + 1, by omega, ho2, rfl, rfl⟩, Abs.byN hbel ?_⟩
                exact absW
              have ho2 := okN_0 (by omega) ho hgd
              refine runTf g'15 ?_
              refine hJ0 _ _ ⟨k0 - 1, by omega, _, _, _, ⟨i + 1, by omega, ho2, rfl, rfl⟩, Abs.byN hbel ?_⟩
              exact absW
            have h8n := bnT h8
            have hgd : gdB (g41 l i) (g42 l i) (g43 l i) (g44 l i) = true := by simp [gdB, show within 0 1099511627776 = true from rfl, h1d, h2d, h4d, h5d, h6d, h7d, h8d]
            have g'16 := (jn h8 (jn h8n (jn @int_bne (jn @int_beq g'8))))
            refine rgs g'16 (fun h13 h13d _ => ?_) (fun h13 h13d g'20 => ?_)
            · have hsfj : ((((i : Nat) : Int) - 1).toNat : Nat) < l.length := by omega
              have q14 := r4_p0 (l := l) (j := (((i : Nat) : Int) - 1).toNat) (by omega)
              have g'17 := (jn h13 (jn h13d (jn @hsfj (jn q14 g'16))))
              refine runTf g'17 ?_
              refine cd (bbef_c _ _ _ _ _) ?_
              refine rcs g'17 (fun h15 h15d g'18 => ?_) (fun h15 h15d g'19 => ?_)
              · have hfin : vldE l = false := okN_bad hlt (okN_cf (j := (((i : Nat) : Int) - 1).toNat) (by omega) h15d)
                exact eR g'18 hQ hbel (.bool false) Try.results18 ⟨by rw [hfin], rfl⟩
              have ho2 := okN_s (j := (((i : Nat) : Int) - 1).toNat) (by omega) ho hgd h15d
              refine runTf g'19 ?_
              refine hJ0 _ _ ⟨k0 - 1, by omega, _, _, _, ⟨i + 1, by omega, ho2, rfl, rfl⟩, Abs.byN hbel ?_⟩
              exact absW
            have ho2 := okN_0 (by omega) ho hgd
            refine runTf g'20 ?_
            refine hJ0 _ _ ⟨k0 - 1, by omega, _, _, _, ⟨i + 1, by omega, ho2, rfl, rfl⟩, Abs.byN hbel ?_⟩
            exact absW
          have hfin : vldE l = false := okN_bad hlt (okN_gd (by simp [gdB, show within 0 1099511627776 = true from rfl, h1d, h2d, h4d, h5d, h6d, h7d]))
          exact eR g'21 hQ hbel (.bool false) Try.results18 ⟨by rw [hfin], rfl⟩
        have hfin : vldE l = false := okN_bad hlt (okN_gd (by simp [gdB, show within 0 1099511627776 = true from rfl, h1d, h2d, h4d, h5d, h6d]))
        exact eR g'22 hQ hbel (.bool false) Try.results18 ⟨by rw [hfin], rfl⟩
      have hfin : vldE l = false := okN_bad hlt (okN_gd (by simp [gdB, show within 0 1099511627776 = true from rfl, h1d, h2d, h4d, h5d]))
      exact eR g'23 hQ hbel (.bool false) Try.results18 ⟨by rw [hfin], rfl⟩
    have hfin : vldE l = false := okN_bad hlt (okN_gd (by simp [gdB, show within 0 1099511627776 = true from rfl, h1d, h2d, h4d]))
    exact eR g'24 hQ hbel (.bool false) Try.results18 ⟨by rw [hfin], rfl⟩
  obtain rfl : i = l.length := by omega
  have hfin : vldE l = true := by unfold vldE; rw [ho, decide_eq_true (by omega)]; rfl
  exact eS g'25 hQ hbel (.bool true) Try.results18 ⟨by rw [hfin], rfl⟩
theorem take_eq4 {l m : List T4} {i : Nat} (h : i < l.length) (k : i < m.length) (e : l.take i = m.take i) (e1 : g41 l i = g41 m i) (e2 : g42 l i = g42 m i) (e3 : g43 l i = g43 m i) (e4 : g44 l i = g44 m i) : l.take (i + 1) = m.take (i + 1) := by
  rw [List.take_succ_eq_append_getElem h, List.take_succ_eq_append_getElem k, e, ← g4_eq h, ← g4_eq k, e1, e2, e3, e4]
theorem ne_of_g4 {l m : List T4} {i : Nat} (h : ¬ (g41 l i = g41 m i ∧ g42 l i = g42 m i ∧ g43 l i = g43 m i ∧ g44 l i = g44 m i)) : l ≠ m := fun e => h (by subst e; exact ⟨rfl, rfl, rfl, rfl⟩)
/-- The first entry at a cell, or none there. -/
def fndE (l : List T4) (x y : Int) : T4 := match l with
  | [] => (x, y, 0, 0)
  | e :: r => if e.1 = x ∧ e.2.1 = y then e else fndE r x y
theorem entries_c (H : AHeap) (s : AV) (l : List T4) (r : AV) (m : List T4) (hs : Sl H 4 s l.length (r4 l)) (hr : Sl H 4 r m.length (r4 m)) (hl : l.length ≤ 1000000000) (hm : m.length ≤ 1000000000) : ACalls Try.prog 15 [s, r] H (fun v H' => v = .bool (decide (l = m)) ∧ H' = H) := by
  obtain ⟨bs, os, cs, rfl, hbs⟩ := hs
  have hbls := getElem?_lt hbs
  have hb0s := fun l => get_app (l := l) hbs
  obtain ⟨br, or, cr, rfl, hbr⟩ := hr
  have hblr := getElem?_lt hbr
  have hb0r := fun l => get_app (l := l) hbr
  refine AcT true Try.func15 ?_; intro hbel Q hQ
  have g'1 := (jn @hbs (jn @hb0s (jn @hbr @hb0r)))
  refine rcs g'1 (fun h1 h1d _ => ?_) (fun h1 h1d _ => ?_)
  · have h1n := bnT h1
    have hfin : l ≠ m := fun e => by rw [e] at h1d; exact h1d rfl
    have g'2 := (jn h1 (jn h1n (jn @int_bne (jn @int_beq g'1))))
    exact eS g'2 hQ hbel (.bool false) Try.results15 ⟨by first | (rw [decide_eq_true hfin]; done) | (rw [decide_eq_false hfin]), rfl⟩
  have h1n := bnT h1
  have hlm : l.length = m.length := by omega
  have g'3 := (jn h1 (jn h1n (jn @int_bne (jn @int_beq g'1))))
  refine runTf g'3 ?_
  refine glp (fun k F Hx => ∃ i : Nat, i + k = l.length ∧ l.take i = m.take i ∧ F = [(0, .sl (some (bs, 0)) l.length cs), (1, .sl (some (br, 0)) m.length cr), (5, iV ((i : Nat) : Int))] ∧ H = Hx) (l.length) ?_ ?_
  · refine ⟨_, _, _, ⟨0, by omega, rfl, rfl, rfl⟩, Abs.by0 hbel ?_⟩
    exact absW
  rintro k0 F Hx ⟨i, hm0, ho, rfl, rfl⟩ J0 hJ0
  refine rcs g'3 (fun h2 h2d _ => ?_) (fun h2 h2d g'7 => ?_)
  · have hlt : i < l.length := by omega
    have q3 := r4_load (l := l) (j := i) (by omega)
    have q4 := r4_load (l := m) (j := i) (by omega)
    have g'4 := (jn h2 (jn h2d (jn @r4_len (jn q3 (jn q4 g'3)))))
    refine rcs g'4 (fun h5 h5d _ => ?_) (fun h5 h5d _ => ?_)
    · have h5n := bnT h5
      have hfin : l ≠ m := ne_of_g4 (i := i) (fun e => by simp [e] at h5)
      have g'5 := j2 h5 h5n g'4
      exact eS g'5 hQ hbel (.bool false) Try.results15 ⟨by first | (rw [decide_eq_true hfin]; done) | (rw [decide_eq_false hfin]), rfl⟩
    have h5n := bnT h5
    have ho2 : l.take (i + 1) = m.take (i + 1) := take_eq4 (by omega) (by omega) ho (by simp_all) (by simp_all) (by simp_all) (by simp_all)
    have g'6 := j2 h5 h5n g'4
    refine runTf g'6 ?_
    refine hJ0 _ _ ⟨k0 - 1, by omega, _, _, _, ⟨i + 1, by omega, ho2, rfl, rfl⟩, Abs.by0 hbel ?_⟩
    exact absW
  obtain rfl : i = l.length := by omega
  have hfin : l = m := by rwa [List.take_length, hlm, List.take_length] at ho
  exact eS g'7 hQ hbel (.bool true) Try.results15 ⟨by first | (rw [decide_eq_true hfin]; done) | (rw [decide_eq_false hfin]), rfl⟩
/-- How many entries stand ahead of a cell. -/
def lbE (l : List T4) (x y : Int) : Nat := (l.filter fun e => decide (befP (e.1, e.2.1) (x, y))).length
def fdE (l : List T4) (x y : Int) : Bool := decide (lbE l x y < l.length) && (cfC (g41 l (lbE l x y), g42 l (lbE l x y)) (x, y) == 0)
def atE (l : List T4) (x y : Int) : T4 := if vldE l = true then fndE l x y else (x, y, 0, 0)
theorem mid_eq (i j : Nat) : (((i : Nat) : Int) + ((j : Nat) : Int)).fdiv (2 ^ min 1 IntKind.u64.bits) = (((i + j) / 2 : Nat) : Int) := by
  show Int.fdiv _ 2 = _
  rw [Int.fdiv_eq_ediv_of_nonneg _ (by omega)]; omega
theorem bef_mono {l : List T4} {x y : Int} (ho : l.Pairwise befE) {a b : Nat} (hab : a < b) (hb : b < l.length) (h : befP (g41 l b, g42 l b) (x, y)) : befP (g41 l a, g42 l a) (x, y) := by
  rw [g4_cel (by omega : a < l.length)]
  rw [g4_cel hb] at h
  exact befP_trans ((List.pairwise_iff_getElem.1 ho) a b (by omega) hb hab) h
theorem lbE_eq {l : List T4} {x y : Int} {i : Nat} (hi : i ≤ l.length) (h1 : ∀ k, k < i → befP (g41 l k, g42 l k) (x, y)) (h2 : ∀ k, i ≤ k → k < l.length → ¬ befP (g41 l k, g42 l k) (x, y)) : lbE l x y = i := by
  unfold lbE
  have e1 : (l.take i).filter (fun e => decide (befP (e.1, e.2.1) (x, y))) = l.take i := by
    rw [List.filter_eq_self]
    intro e he
    obtain ⟨k, hk, rfl⟩ := List.mem_iff_getElem.1 he
    rw [List.length_take] at hk
    rw [List.getElem_take]
    have := h1 k (by omega)
    rw [g4_cel (by omega : k < l.length)] at this
    exact decide_eq_true this
  have e2 : (l.drop i).filter (fun e => decide (befP (e.1, e.2.1) (x, y))) = [] := by
    rw [List.filter_eq_nil_iff]
    intro e he
    obtain ⟨k, hk, rfl⟩ := List.mem_iff_getElem.1 he
    rw [List.length_drop] at hk
    rw [List.getElem_drop]
    have := h2 (i + k) (by omega) (by omega)
    rw [g4_cel (by omega : i + k < l.length)] at this
    simpa [cel] using this
  have e3 : l.filter (fun e => decide (befP (e.1, e.2.1) (x, y))) = l.take i := by
    conv => lhs; rw [← List.take_append_drop i l]
    rw [List.filter_append, e1, e2, List.append_nil]
  rw [e3, List.length_take]; omega
theorem fndE_none {l : List T4} {x y : Int} (h : ∀ e ∈ l, ¬ (e.1 = x ∧ e.2.1 = y)) : fndE l x y = (x, y, 0, 0) := by
  induction l with
  | nil => rfl
  | cons a l ih =>
    unfold fndE
    rw [if_neg (h a (List.mem_cons_self ..)), ih fun e he => h e (List.mem_cons_of_mem _ he)]
theorem fndE_at {l : List T4} {x y : Int} (ho : l.Pairwise befE) {e : T4} (he : e ∈ l) (h : e.1 = x ∧ e.2.1 = y) : fndE l x y = e := by
  induction l with
  | nil => simp at he
  | cons a l ih =>
    rw [List.pairwise_cons] at ho
    unfold fndE
    split
    · rename_i ha
      rcases List.mem_cons.1 he with q | q
      · exact q.symm
      have := ho.1 e q
      unfold befE at this
      rw [ha.1, ha.2, h.1, h.2] at this
      exact absurd this befP_irr
    rename_i ha
    rcases List.mem_cons.1 he with q | q
    · subst q; exact absurd h ha
    exact ih ho.2 q
theorem fdE_find {l : List T4} {x y : Int} (ho : l.Pairwise befE) : fndE l x y = if fdE l x y = true then (g41 l (lbE l x y), g42 l (lbE l x y), g43 l (lbE l x y), g44 l (lbE l x y)) else (x, y, 0, 0) := by
  unfold fdE
  by_cases hlt : lbE l x y < l.length
  · have e := g4_eq hlt
    split
    · rename_i h
      rw [Bool.and_eq_true, beq_iff_eq, cfC_zero, Prod.mk.injEq] at h
      replace h := h.2
      rw [e]
      have e1 : (l[lbE l x y]).1 = g41 l (lbE l x y) := by rw [← e]
      have e2 : (l[lbE l x y]).2.1 = g42 l (lbE l x y) := by rw [← e]
      exact fndE_at ho (List.getElem_mem hlt) ⟨by rw [e1]; exact h.1, by rw [e2]; exact h.2⟩
    rename_i h
    replace h : ¬ (g41 l (lbE l x y), g42 l (lbE l x y)) = (x, y) := fun q => h (by rw [Bool.and_eq_true, beq_iff_eq, cfC_zero]; exact ⟨decide_eq_true hlt, q⟩)
    refine fndE_none fun a ha hxy => ?_
    obtain ⟨k, hk, rfl⟩ := List.mem_iff_getElem.1 ha
    -- those ahead of it: lbE counts them
    have hkk : lbE l x y = k := lbE_eq (by omega) (fun q hq => by
        have := (List.pairwise_iff_getElem.1 ho) q k (by omega) hk hq
        rw [g4_cel (by omega : q < l.length)]
        unfold befE at this
        rw [hxy.1, hxy.2] at this
        exact this) (fun q hq hql => by
        rw [g4_cel hql]
        rcases Nat.eq_or_lt_of_le hq with r | r
        · subst r
          show ¬ befP (l[k].1, l[k].2.1) (x, y)
          rw [hxy.1, hxy.2]; exact befP_irr
        have := (List.pairwise_iff_getElem.1 ho) k q hk hql r
        unfold befE at this
        rw [hxy.1, hxy.2] at this
        exact befP_asymm this)
    apply h
    rw [hkk, g4_cel hk]
    exact Prod.ext hxy.1 hxy.2
  rw [if_neg (by rw [decide_eq_false hlt, Bool.false_and]; decide)]
  refine fndE_none fun a ha hxy => ?_
  apply hlt
  unfold lbE
  have hle := List.length_filter_le (fun e => decide (befP (e.1, e.2.1) (x, y))) l
  rcases Nat.lt_or_ge (l.filter fun e => decide (befP (e.1, e.2.1) (x, y))).length l.length with r | r
  · exact r
  exfalso
  have hs : (l.filter fun e => decide (befP (e.1, e.2.1) (x, y))) = l := List.filter_eq_self.2 (by
    have := List.length_filter_eq_length_iff.1 (Nat.le_antisymm hle r)
    exact this)
  rw [List.filter_eq_self] at hs
  have := hs a ha
  rw [hxy.1, hxy.2, decide_eq_true_eq] at this
  exact befP_irr this
theorem at1_c (H : AHeap) (x y : Int) (h p : Int) (a b : Int) : ACalls Try.prog 68 [.agg [iV x, iV y, iV h, iV p], .agg [iV a, iV b]] H (fun v H' => v = iV (cfC (x, y) (a, b)) ∧ H' = H) := by
  refine AcT true Try.func68 ?_; intro hbel Q hQ
  refine runT ?_
  refine cv (evcmp_c _ x y a b) ?_
  refine runT ?_
  exact eP hQ hbel (iV (cfC (x, y) (a, b))) Try.results68 ⟨rfl, rfl⟩
theorem bsearch_c (H : AHeap) (s : AV) (l : List T4) (x y : Int)  (hs : Sl H 4 s l.length (r4 l)) (hl : l.length ≤ 1000000000) (hord : l.Pairwise befE) : ACalls Try.prog 67 [s, .agg [iV x, iV y], .fn 68 []] H (fun v H' => v = .tup [iV ((lbE l x y : Nat) : Int), .bool (fdE l x y)] ∧ H' = H) := by
  obtain ⟨bs, os, cs, rfl, hbs⟩ := hs
  have hbls := getElem?_lt hbs
  have hb0s := fun l => get_app (l := l) hbs
  refine AcT true Try.func67 ?_; intro hbel Q hQ
  have g'4 := (jn @hbs (jn @hb0s (jn @wrap_u64 @mid_eq)))
  refine runTf g'4 ?_
  refine glp (fun k F Hx => ∃ i : Nat, ∃ j : Nat, i + k = j ∧ j ≤ l.length ∧ (∀ k, k < i → befP (g41 l k, g42 l k) (x, y)) ∧ (∀ k, j ≤ k → k < l.length → ¬ befP (g41 l k, g42 l k) (x, y)) ∧ F = [(0, .sl (some (bs, 0)) l.length cs), (2, .fn 68 []), (4, .ptr (some (H.length, 0))), (8, iV ((l.length : Nat) : Int)), (9, iV ((i : Nat) : Int)), (10, iV ((j : Nat) : Int))] ∧ Hx = H ++ [.cells true 0 [iV x, iV y]]) (l.length) ?_ ?_
  · refine ⟨_, _, _, ⟨0, l.length, by omega, Nat.le_refl _, (fun k h => absurd h (Nat.not_lt_zero _)), (fun k h h' => absurd h' (by omega)), rfl, rfl⟩, bS hbel [0] absW⟩
  rintro k0 F Hx ⟨i, j, hm0, hjl, hp1, hp2, rfl, rfl⟩ J0 hJ0
  refine rcs g'4 (fun h1 h1d _ => ?_) (fun h1 h1d g'8 => ?_)
  · have q2 := r4_load (l := l) (j := ((i + j) / 2)) (by omega)
    have g'5 := (jn h1 (jn h1d (jn @r4_len (jn q2 g'4))))
    refine runTf g'5 ?_
    refine cd (at1_c _ _ _ _ _ x y) ?_
    refine rcs g'5 (fun h3 h3d g'6 => ?_) (fun h3 h3d g'7 => ?_)
    · have hb1 : befP (g41 l ((i + j) / 2), g42 l ((i + j) / 2)) (x, y) := (cfC_neg _ _).1 (by omega)
      have h1' : ∀ k, k < ((i + j) / 2) + 1 → befP (g41 l k, g42 l k) (x, y) := fun k hk => by rcases Nat.lt_or_ge k ((i + j) / 2) with q | q; exact bef_mono hord q (by omega) hb1; rw [show k = ((i + j) / 2) by omega]; exact hb1
      refine runTf g'6 ?_
      refine hJ0 _ _ ⟨j - (((i + j) / 2) + 1), by omega, _, _, _, ⟨((i + j) / 2) + 1, j, by omega, hjl, h1', hp2, rfl, rfl⟩, bS hbel [0] absW⟩
    have hb1 : ¬ befP (g41 l ((i + j) / 2), g42 l ((i + j) / 2)) (x, y) := fun q => by have := (cfC_neg _ _).2 q; omega
    have h2' : ∀ k, ((i + j) / 2) ≤ k → k < l.length → ¬ befP (g41 l k, g42 l k) (x, y) := fun k hk hkl q => hb1 (by rcases Nat.eq_or_lt_of_le hk with r | r; rw [r]; exact q; exact bef_mono hord r hkl q)
    refine runTf g'7 ?_
    refine hJ0 _ _ ⟨((i + j) / 2) - i, by omega, _, _, _, ⟨i, ((i + j) / 2), by omega, (by omega), hp1, h2', rfl, rfl⟩, bS hbel [0] absW⟩
  obtain rfl : i = j := by omega
  have hlb := lbE_eq hjl hp1 hp2
  refine rgs g'8 (fun h4 h4d _ => ?_) (fun h4 h4d g'10 => ?_)
  · have q5 := r4_load (l := l) (j := i) (by omega)
    have g'9 := (jn h4 (jn h4d (jn @r4_len (jn q5 g'8))))
    refine runTf g'9 ?_
    refine cdr g'9 (at1_c _ _ _ _ _ x y) ?_
    exact eP hQ hbel (.tup [iV ((i : Nat) : Int), .bool ((cfC ((g41 l i), (g42 l i)) (x, y)) == 0)]) Try.results67 ⟨by unfold fdE; rw [hlb]; first | (simp [h1d, h4d]; done) | (simp [h1d, h4d]; omega), rfl⟩
  exact eR g'10 hQ hbel (.tup [iV ((i : Nat) : Int), .bool false]) Try.results67 ⟨by unfold fdE; rw [hlb]; first | (simp [h1d, h4d]; done) | (simp [h1d, h4d]; omega), rfl⟩
theorem fdE_lt {l : List T4} {x y : Int} (h : fdE l x y = true) : lbE l x y < l.length := by
  unfold fdE at h; rw [Bool.and_eq_true, decide_eq_true_eq] at h; exact h.1
theorem atE_t {l : List T4} {x y : Int} (hv : vldE l = true) (h : fdE l x y = true) : atE l x y = (g41 l (lbE l x y), g42 l (lbE l x y), g43 l (lbE l x y), g44 l (lbE l x y)) := by
  unfold atE; rw [if_pos hv, fdE_find (vldE_iff.1 hv).ord, if_pos h]
theorem atE_f {l : List T4} {x y : Int} (hv : vldE l = true) (h : fdE l x y = false) : atE l x y = (x, y, 0, 0) := by
  unfold atE; rw [if_pos hv, fdE_find (vldE_iff.1 hv).ord, h]; rfl
theorem eat_c (H : AHeap) (s : AV) (l : List T4) (x y : Int) (hs : Sl H 4 s l.length (r4 l)) (hl : l.length ≤ 1000000000) (hv : vldE l = true) : ACalls Try.prog 46 [s, .agg [iV x, iV y]] H (fun v H' => v = .agg [iV ((atE l x y).1), iV ((atE l x y).2.1), iV ((atE l x y).2.2.1), iV ((atE l x y).2.2.2)] ∧ H' = H) := by
  obtain ⟨bs, os, cs, rfl, hbs⟩ := hs
  have hbls := getElem?_lt hbs
  have hb0s := fun l => get_app (l := l) hbs
  have hord := (vldE_iff.1 hv).ord
  refine AcT true Try.func46 ?_; intro hbel Q hQ
  have g'1 := (jn @hbs @hb0s)
  refine runTf g'1 ?_
  refine cv (bsearch_c _ _ l x y (⟨_, _, _, rfl, by first | exact hb0s _ | exact hbs⟩) (by omega) hord) ?_
  refine rgs g'1 (fun h1 h1d g'2 => ?_) (fun h1 h1d g'4 => ?_)
  · have hlt := fdE_lt h1d
    have hfin := atE_t hv h1d
    refine runTf g'2 ?_
    refine cv (valid_c _ _ l (⟨_, _, _, rfl, by first | exact hb0s _ | exact hbs⟩) (by omega)) ?_
    refine rcs g'2 (fun h2 h2d _ => ?_) (fun h2 h2d _ => ?_)
    · rw [hv] at h2d; cases h2d
    have q3 := r4_load (l := l) (j := lbE l x y) (by omega)
    have g'3 := (jn h2 (jn h2d (jn @r4_len (jn q3 g'2))))
    exact eR g'3 hQ hbel (.agg [iV (g41 l (lbE l x y)), iV (g42 l (lbE l x y)), iV (g43 l (lbE l x y)), iV (g44 l (lbE l x y))]) Try.results46 ⟨by rw [hfin], rfl⟩
  have hfin := atE_f hv h1d
  exact eR g'4 hQ hbel (.agg [iV x, iV y, iV 0, iV 0]) Try.results46 ⟨by rw [hfin], rfl⟩
/-- evidence.Add -/
def comR (l m : List T4) : List T4 × Int := if (vldE l && vldE m) = true then (if (lstE (addL (addL [] l) m)).any (fun e : T4 => !(within e.2.2.1 1099511627776 && within e.2.2.2 1099511627776)) = true then ([], 2) else (lstE (addL (addL [] l) m), 0)) else ([], 1)
theorem com1_c (H : AHeap) (x y : Int) (h p : Int) : ACalls Try.prog 89 [.agg [iV x, iV y, iV h, iV p]] H (fun v H' => v = .bool (!(within h 1099511627776 && within p 1099511627776)) ∧ H' = H) := by
  refine AcT true Try.func89 ?_; intro hbel Q hQ
  refine runT ?_
  refine cv (counted_c _ x y h p) ?_
  refine runT ?_
  exact eP hQ hbel (.bool (!(within h 1099511627776 && within p 1099511627776))) Try.results89 ⟨rfl, rfl⟩
theorem com_c (H : AHeap) (s : AV) (l : List T4) (r : AV) (m : List T4)  (hs : Sl H 4 s l.length (r4 l)) (hr : Sl H 4 r m.length (r4 m)) (hl : l.length ≤ 100000) (hm : m.length ≤ 100000) : ACalls Try.prog 66 [s, r, iV 1] H (fun v H' => v = .tup [.sl (some (H.length, 0)) (((comR l m).1).length) none, iV ((comR l m).2)] ∧ H' = H ++ [.cells (ownG ((comR l m).1).length) 4 (r4 ((comR l m).1))]) := by
  obtain ⟨bs, os, cs, rfl, hbs⟩ := hs
  have hbls := getElem?_lt hbs
  have hb0s := fun l => get_app (l := l) hbs
  obtain ⟨br, or, cr, rfl, hbr⟩ := hr
  have hblr := getElem?_lt hbr
  have hb0r := fun l => get_app (l := l) hbr
  refine AcT true Try.func66 ?_; intro hbel Q hQ
  simp -implicitDefEqProofs (disch := omega) only [lk_gen, lk_mp, up_eq, de_eq, mset_nil, hbs, hb0s, hbr, hb0r, List.take_length, Int.one_mul, aApp_nil, aApp_none, aApp_some, aApp_grw, simprocAttr, amset, tyset, Function.comp_apply, one1, lenV, calleeOf, lateOk, belowV, aop, AV.ofValue, AV.ofCell, AV.cells, AV.flat, AV.one, arep, aBin, aConv]
  repeat refine And.intro (by omega) ?_
  refine cv (valid_c _ _ l (⟨_, _, _, rfl, by first | exact hb0s _ | exact hbs⟩) (by omega)) ?_
  simp -implicitDefEqProofs (disch := omega) only [lk_gen, lk_mp, up_eq, de_eq, mset_nil, hbs, hb0s, hbr, hb0r, List.take_length, Int.one_mul, aApp_nil, aApp_none, aApp_some, aApp_grw, simprocAttr, amset, tyset, Function.comp_apply, one1, lenV, calleeOf, lateOk, belowV, aop, AV.ofValue, AV.ofCell, AV.cells, AV.flat, AV.one, arep, aBin, aConv]
  repeat refine And.intro (by omega) ?_
  refine gd_split (fun h1 => ?_) (fun h1 => ?_)
  · have h1d := bsT h1
    have hlv := vldE_iff.1 h1d
    simp -implicitDefEqProofs (disch := omega) only [lk_gen, lk_mp, up_eq, de_eq, mset_nil, hbs, hb0s, hbr, hb0r, h1, h1d, List.take_length, Int.one_mul, aApp_nil, aApp_none, aApp_some, aApp_grw, simprocAttr, amset, tyset, Function.comp_apply, one1, lenV, calleeOf, lateOk, belowV, aop, AV.ofValue, AV.ofCell, AV.cells, AV.flat, AV.one, arep, aBin, aConv]
    repeat refine And.intro (by omega) ?_
    refine cv (valid_c _ _ m (⟨_, _, _, rfl, by first | exact hb0r _ | exact hbr⟩) (by omega)) ?_
    simp -implicitDefEqProofs (disch := omega) only [lk_gen, lk_mp, up_eq, de_eq, mset_nil, hbs, hb0s, hbr, hb0r, h1, h1d, List.take_length, Int.one_mul, aApp_nil, aApp_none, aApp_some, aApp_grw, simprocAttr, amset, tyset, Function.comp_apply, one1, lenV, calleeOf, lateOk, belowV, aop, AV.ofValue, AV.ofCell, AV.cells, AV.flat, AV.one, arep, aBin, aConv]
    repeat refine And.intro (by omega) ?_
    refine cond_split (fun h2 => ?_) (fun h2 => ?_)
    · have h2d := bsT h2
      have hfin : comR l m = ([], 1) := by unfold comR; rw [h2d, Bool.and_false]; rfl
      simp -implicitDefEqProofs (disch := omega) only [lk_gen, lk_mp, up_eq, de_eq, mset_nil, hbs, hb0s, hbr, hb0r, h1, h1d, h2, h2d, List.take_length, Int.one_mul, aApp_nil, aApp_none, aApp_some, aApp_grw, simprocAttr, amset, tyset, Function.comp_apply, one1, lenV, calleeOf, lateOk, belowV, aop, AV.ofValue, AV.ofCell, AV.cells, AV.flat, AV.one, arep, aBin, aConv]
      repeat refine And.intro (by omega) ?_
      refine hQ _ _ (end_byE (.inl rfl) hbel (x1 := .tup [.sl none 0 (some 0), iV 1]) (l2 := [.cells false 4 []]) (.tup [.sl (some (H.length, 0)) 0 none, iV 1]) (resT Try.results66) [.cells false 4 []] rfl [0] (by decide) ⟨by first | (rw [hfin]; done) | (rw [hfin]; rfl), by first | (rw [hfin]; done) | (rw [hfin]; rfl)⟩ ?_)
      exact absWf @mvs_r4
    have h2d := bsT h2
    have hmv := vldE_iff.1 h2d
    simp -implicitDefEqProofs (disch := omega) only [lk_gen, lk_mp, up_eq, de_eq, mset_nil, hbs, hb0s, hbr, hb0r, h1, h1d, h2, h2d, List.take_length, Int.one_mul, aApp_nil, aApp_none, aApp_some, aApp_grw, simprocAttr, amset, tyset, Function.comp_apply, one1, lenV, calleeOf, lateOk, belowV, aop, AV.ofValue, AV.ofCell, AV.cells, AV.flat, AV.one, arep, aBin, aConv]
    repeat refine And.intro (by omega) ?_
    refine glp (fun k F Hx => ∃ i : Nat, i + k = l.length ∧ bdE (1099511627776 * (i : Int)) (addL [] (l.take i)) ∧ F = [(1, .sl (some (br, 0)) m.length cr), (2, iV 1), (8, .mp (some (H.length))), (23, .sl (some (bs, 0)) l.length cs), (24, iV ((l.length : Nat) : Int)), (25, iV ((i : Nat) : Int))] ∧ Hx = H ++ [.map (mapE (addL [] (l.take i)))]) (l.length) ?_ ?_
    · refine ⟨_, _, _, ⟨0, by omega, (fun e he => absurd he (by simp [addL])), rfl, rfl⟩, bS hbel [0] (absWf (jn @addL_nil (jn @List.take_zero.{0} (jn @mv_mapE @mapE_nil))))⟩
    rintro k0 F Hx ⟨i, hm0, hbd, rfl, rfl⟩ J0 hJ0
    simp -implicitDefEqProofs (disch := omega) only [lk_gen, lk_mp, up_eq, de_eq, mset_nil, hbs, hb0s, hbr, hb0r, h1, h1d, h2, h2d, List.take_length, Int.one_mul, aApp_nil, aApp_none, aApp_some, aApp_grw, simprocAttr, amset, tyset, Function.comp_apply, one1, lenV, calleeOf, lateOk, belowV, aop, AV.ofValue, AV.ofCell, AV.cells, AV.flat, AV.one, arep, aBin, aConv]
    repeat refine And.intro (by omega) ?_
    refine cond_split (fun h3 => ?_) (fun h3 => ?_)
    · have h3d := bsT h3
      have hlt : i < l.length := by omega
      have hgd := gdB_iff.1 (hlv.good _ (List.getElem_mem hlt))
      have hg4 := g4_eq hlt
      rw [← hg4] at hgd
      simp only at hgd
      have hlk := bdE.lk (by omega) hbd (g41 l i) (g42 l i)
      have hst := addL_take (l := []) hlt
      have q4 := r4_load (l := l) (j := i) (by omega)
      simp -implicitDefEqProofs (disch := omega) only [lk_gen, lk_mp, up_eq, de_eq, mset_nil, hbs, hb0s, hbr, hb0r, h1, h1d, h2, h2d, h3, h3d, r4_len, q4, List.take_length, Int.one_mul, aApp_nil, aApp_none, aApp_some, aApp_grw, simprocAttr, amset, tyset, Function.comp_apply, one1, lenV, calleeOf, lateOk, belowV, aop, AV.ofValue, AV.ofCell, AV.cells, AV.flat, AV.one, arep, aBin, aConv]
      repeat refine And.intro (by omega) ?_
      refine cv (tadd_c _ _ (addL [] (l.take i)) (g41 l i) (g42 l i) (g43 l i) (g44 l i) (by first | rfl | (simp; done)) (by omega) (by omega) (by omega) (by omega)) ?_
      simp -implicitDefEqProofs (disch := omega) only [lk_gen, lk_mp, up_eq, de_eq, mset_nil, hbs, hb0s, hbr, hb0r, h1, h1d, h2, h2d, h3, h3d, r4_len, q4, List.take_length, Int.one_mul, aApp_nil, aApp_none, aApp_some, aApp_grw, simprocAttr, amset, tyset, Function.comp_apply, one1, lenV, calleeOf, lateOk, belowV, aop, AV.ofValue, AV.ofCell, AV.cells, AV.flat, AV.one, arep, aBin, aConv]
      repeat refine And.intro (by omega) ?_
      refine hJ0 _ _ ⟨k0 - 1, by omega, _, _, _, ⟨i + 1, by omega, (by rw [hst]; exact (addE_bd (by omega) (by omega) hbd (C := 1099511627776) (by omega) (by omega)).mono (by omega)), rfl, rfl⟩, bS hbel [0] (absWf (jn @hst (jn @mv_mapE @mapE_nil)))⟩
    have h3d := bsT h3
    obtain rfl : i = l.length := by omega
    rw [List.take_length] at hbd
    simp -implicitDefEqProofs (disch := omega) only [lk_gen, lk_mp, up_eq, de_eq, mset_nil, hbs, hb0s, hbr, hb0r, h1, h1d, h2, h2d, h3, h3d, List.take_length, Int.one_mul, aApp_nil, aApp_none, aApp_some, aApp_grw, simprocAttr, amset, tyset, Function.comp_apply, one1, lenV, calleeOf, lateOk, belowV, aop, AV.ofValue, AV.ofCell, AV.cells, AV.flat, AV.one, arep, aBin, aConv]
    repeat refine And.intro (by omega) ?_
    refine glp (fun k F Hx => ∃ j : Nat, j + k = m.length ∧ bdE (1099511627776 * ((l.length : Int) + (j : Int))) (addL (addL [] l) (m.take j)) ∧ F = [(2, iV 1), (8, .mp (some (H.length))), (38, .sl (some (br, 0)) m.length cr), (39, iV ((m.length : Nat) : Int)), (40, iV ((j : Nat) : Int))] ∧ Hx = H ++ [.map (mapE (addL (addL [] l) (m.take j)))]) (m.length) ?_ ?_
    · refine ⟨_, _, _, ⟨0, by omega, (by simpa [addL_nil] using hbd), rfl, rfl⟩, bS hbel [0] (absWf (jn @addL_nil (jn @List.take_zero.{0} (jn @mv_mapE @mapE_nil))))⟩
    rintro k1 F Hx ⟨j, hm1, hbe, rfl, rfl⟩ J1 hJ1
    simp -implicitDefEqProofs (disch := omega) only [lk_gen, lk_mp, up_eq, de_eq, mset_nil, hbs, hb0s, hbr, hb0r, h1, h1d, h2, h2d, h3, h3d, List.take_length, Int.one_mul, aApp_nil, aApp_none, aApp_some, aApp_grw, simprocAttr, amset, tyset, Function.comp_apply, one1, lenV, calleeOf, lateOk, belowV, aop, AV.ofValue, AV.ofCell, AV.cells, AV.flat, AV.one, arep, aBin, aConv]
    repeat refine And.intro (by omega) ?_
    refine cond_split (fun h5 => ?_) (fun h5 => ?_)
    · have h5d := bsT h5
      have hlt : j < m.length := by omega
      have hgd := gdB_iff.1 (hmv.good _ (List.getElem_mem hlt))
      have hg4 := g4_eq hlt
      rw [← hg4] at hgd
      simp only at hgd
      have hlk := bdE.lk (by omega) hbe (g41 m j) (g42 m j)
      have hst := addL_take (l := (addL [] l)) hlt
      have q6 := r4_load (l := m) (j := j) (by omega)
      simp -implicitDefEqProofs (disch := omega) only [lk_gen, lk_mp, up_eq, de_eq, mset_nil, hbs, hb0s, hbr, hb0r, h1, h1d, h2, h2d, h3, h3d, h5, h5d, r4_len, q6, List.take_length, Int.one_mul, aApp_nil, aApp_none, aApp_some, aApp_grw, simprocAttr, amset, tyset, Function.comp_apply, one1, lenV, calleeOf, lateOk, belowV, aop, AV.ofValue, AV.ofCell, AV.cells, AV.flat, AV.one, arep, aBin, aConv]
      repeat refine And.intro (by omega) ?_
      refine cv (tadd_c _ _ (addL (addL [] l) (m.take j)) (g41 m j) (g42 m j) (g43 m j) (g44 m j) (by first | rfl | (simp; done)) (by omega) (by omega) (by omega) (by omega)) ?_
      simp -implicitDefEqProofs (disch := omega) only [lk_gen, lk_mp, up_eq, de_eq, mset_nil, hbs, hb0s, hbr, hb0r, h1, h1d, h2, h2d, h3, h3d, h5, h5d, r4_len, q6, List.take_length, Int.one_mul, aApp_nil, aApp_none, aApp_some, aApp_grw, simprocAttr, amset, tyset, Function.comp_apply, one1, lenV, calleeOf, lateOk, belowV, aop, AV.ofValue, AV.ofCell, AV.cells, AV.flat, AV.one, arep, aBin, aConv]
      repeat refine And.intro (by omega) ?_
      refine hJ1 _ _ ⟨k1 - 1, by omega, _, _, _, ⟨j + 1, by omega, (by rw [hst]; exact (addE_bd (by omega) (by omega) hbe (C := 1099511627776) (by omega) (by omega)).mono (by omega)), rfl, rfl⟩, bS hbel [0] (absWf (jn @hst (jn @mv_mapE @mapE_nil)))⟩
    have h5d := bsT h5
    obtain rfl : j = m.length := by omega
    rw [List.take_length] at hbe
    have hnl := addL_nodup m (addL_nodup l (l := []) (by simp))
    have hll := addL_len m (addL [] l)
    have hl2 : (addL [] l).length ≤ 0 + l.length := addL_len l []
    have hl3 : (lstE (addL (addL [] l) m)).length ≤ (addL (addL [] l) m).length := by rw [lstE_len]; exact delL_le
    simp -implicitDefEqProofs (disch := omega) only [lk_gen, lk_mp, up_eq, de_eq, mset_nil, hbs, hb0s, hbr, hb0r, h1, h1d, h2, h2d, h3, h3d, h5, h5d, List.take_length, Int.one_mul, aApp_nil, aApp_none, aApp_some, aApp_grw, simprocAttr, amset, tyset, Function.comp_apply, one1, lenV, calleeOf, lateOk, belowV, aop, AV.ofValue, AV.ofCell, AV.cells, AV.flat, AV.one, arep, aBin, aConv]
    repeat refine And.intro (by omega) ?_
    refine cv (list_c _ _ (addL (addL [] l) (m)) (by first | rfl | (simp; done)) hnl (by omega)) ?_
    simp -implicitDefEqProofs (disch := omega) only [lk_gen, lk_mp, up_eq, de_eq, mset_nil, hbs, hb0s, hbr, hb0r, h1, h1d, h2, h2d, h3, h3d, h5, h5d, List.take_length, Int.one_mul, aApp_nil, aApp_none, aApp_some, aApp_grw, simprocAttr, amset, tyset, Function.comp_apply, one1, lenV, calleeOf, lateOk, belowV, aop, AV.ofValue, AV.ofCell, AV.cells, AV.flat, AV.one, arep, aBin, aConv]
    repeat refine And.intro (by omega) ?_
    refine cv (has_ent _ _ (lstE (addL (addL [] l) (m))) (slA) (by omega) 89 [] (by kernel_rfl) rfl (fun e : T4 => !(within e.2.2.1 1099511627776 && within e.2.2.2 1099511627776)) (fun j hj => com1_c _ _ _ _ _)) ?_
    simp -implicitDefEqProofs (disch := omega) only [lk_gen, lk_mp, up_eq, de_eq, mset_nil, hbs, hb0s, hbr, hb0r, h1, h1d, h2, h2d, h3, h3d, h5, h5d, List.take_length, Int.one_mul, aApp_nil, aApp_none, aApp_some, aApp_grw, simprocAttr, amset, tyset, Function.comp_apply, one1, lenV, calleeOf, lateOk, belowV, aop, AV.ofValue, AV.ofCell, AV.cells, AV.flat, AV.one, arep, aBin, aConv]
    repeat refine And.intro (by omega) ?_
    refine cond_split (fun h7 => ?_) (fun h7 => ?_)
    · have h7d := bsT h7
      have hfin : comR l m = ([], 2) := by unfold comR; rw [if_pos (by rw [vldE_iff.2 hlv, vldE_iff.2 hmv]; rfl), if_pos h7d]
      simp -implicitDefEqProofs (disch := omega) only [lk_gen, lk_mp, up_eq, de_eq, mset_nil, hbs, hb0s, hbr, hb0r, h1, h1d, h2, h2d, h3, h3d, h5, h5d, h7, h7d, List.take_length, Int.one_mul, aApp_nil, aApp_none, aApp_some, aApp_grw, simprocAttr, amset, tyset, Function.comp_apply, one1, lenV, calleeOf, lateOk, belowV, aop, AV.ofValue, AV.ofCell, AV.cells, AV.flat, AV.one, arep, aBin, aConv]
      repeat refine And.intro (by omega) ?_
      refine hQ _ _ (end_byG (.inl rfl) hbel (x1 := .tup [.sl none 0 (some 0), iV 2]) (l2 := [.cells false 4 []]) (.tup [.sl (some (H.length, 0)) 0 none, iV 2]) (resT Try.results66) [.cells false 4 []] rfl [2] (by decide) ⟨by first | (rw [hfin]; done) | (rw [hfin]; rfl), by first | (rw [hfin]; done) | (rw [hfin]; rfl)⟩ ?_)
      exact absWf @mvs_r4
    have h7d := bsT h7
    have hfin : comR l m = (lstE (addL (addL [] l) m), 0) := by unfold comR; rw [if_pos (by rw [vldE_iff.2 hlv, vldE_iff.2 hmv]; rfl), if_neg (by rw [h7d]; decide)]
    simp -implicitDefEqProofs (disch := omega) only [lk_gen, lk_mp, up_eq, de_eq, mset_nil, hbs, hb0s, hbr, hb0r, h1, h1d, h2, h2d, h3, h3d, h5, h5d, h7, h7d, List.take_length, Int.one_mul, aApp_nil, aApp_none, aApp_some, aApp_grw, simprocAttr, amset, tyset, Function.comp_apply, one1, lenV, calleeOf, lateOk, belowV, aop, AV.ofValue, AV.ofCell, AV.cells, AV.flat, AV.one, arep, aBin, aConv]
    repeat refine And.intro (by omega) ?_
    refine cond_split (fun h8 => ?_) (fun h8 => ?_)
    · have h8d := bsT h8
      omega
    have h8d := bsT h8
    simp -implicitDefEqProofs (disch := omega) only [lk_gen, lk_mp, up_eq, de_eq, mset_nil, hbs, hb0s, hbr, hb0r, h1, h1d, h2, h2d, h3, h3d, h5, h5d, h7, h7d, h8, h8d, List.take_length, Int.one_mul, aApp_nil, aApp_none, aApp_some, aApp_grw, simprocAttr, amset, tyset, Function.comp_apply, one1, lenV, calleeOf, lateOk, belowV, aop, AV.ofValue, AV.ofCell, AV.cells, AV.flat, AV.one, arep, aBin, aConv]
    repeat refine And.intro (by omega) ?_
    refine hQ _ _ (end_byG (.inl rfl) hbel (x1 := .tup [.sl (some (H.length + 1, 0)) ((lstE (addL (addL [] l) (m))).length) none, iV 0]) (l2 := [.cells (ownG (lstE (addL (addL [] l) (m))).length) 4 (r4 (lstE (addL (addL [] l) (m))))]) (.tup [.sl (some (H.length, 0)) ((lstE (addL (addL [] l) (m))).length) none, iV 0]) (resT Try.results66) [] rfl [1] (by decide) ⟨by first | (rw [hfin]; done) | (rw [hfin]; rfl), by first | (rw [hfin]; done) | (rw [hfin]; rfl)⟩ ?_)
    exact absWf @mvs_r4
  have h1d := bsT h1
  have hfin : comR l m = ([], 1) := by unfold comR; rw [h1d]; rfl
  simp -implicitDefEqProofs (disch := omega) only [lk_gen, lk_mp, up_eq, de_eq, mset_nil, hbs, hb0s, hbr, hb0r, h1, h1d, List.take_length, Int.one_mul, aApp_nil, aApp_none, aApp_some, aApp_grw, simprocAttr, amset, tyset, Function.comp_apply, one1, lenV, calleeOf, lateOk, belowV, aop, AV.ofValue, AV.ofCell, AV.cells, AV.flat, AV.one, arep, aBin, aConv]
  repeat refine And.intro (by omega) ?_
  refine hQ _ _ (end_byE (.inl rfl) hbel (x1 := .tup [.sl none 0 (some 0), iV 1]) (l2 := [.cells false 4 []]) (.tup [.sl (some (H.length, 0)) 0 none, iV 1]) (resT Try.results66) [.cells false 4 []] rfl [0] (by decide) ⟨by first | (rw [hfin]; done) | (rw [hfin]; rfl), by first | (rw [hfin]; done) | (rw [hfin]; rfl)⟩ ?_)
  exact absWf @mvs_r4
theorem drop_g4 {l : List T4} {i : Nat} (h : i < l.length) : l.drop i = (g41 l i, g42 l i, g43 l i, g44 l i) :: l.drop (i + 1) := by
  rw [List.drop_eq_getElem_cons h, g4_eq h]
theorem eadd_c (H : AHeap) (s : AV) (l : List T4) (r : AV) (m : List T4) (hs : Sl H 4 s l.length (r4 l)) (hr : Sl H 4 r m.length (r4 m)) (hl : l.length ≤ 100000) (hm : m.length ≤ 100000) : ACalls Try.prog 42 [s, r] H (fun v H' => v = .tup [.sl (some (H.length, 0)) (((comR l m).1).length) none, iV ((comR l m).2)] ∧ H' = H ++ [.cells (ownG ((comR l m).1).length) 4 (r4 ((comR l m).1))]) := by
  obtain ⟨bs, os, cs, rfl, hbs⟩ := hs
  have hbls := getElem?_lt hbs
  have hb0s := fun l => get_app (l := l) hbs
  obtain ⟨br, or, cr, rfl, hbr⟩ := hr
  have hblr := getElem?_lt hbr
  have hb0r := fun l => get_app (l := l) hbr
  refine AcT true Try.func42 ?_; intro hbel Q hQ
  have g'1 := (jn @hbs (jn @hb0s (jn @hbr @hb0r)))
  refine runTf g'1 ?_
  refine cvr g'1 (com_c _ _ l _ m (⟨_, _, _, rfl, by first | exact hb0s _ | exact hbs⟩) (⟨_, _, _, rfl, by first | exact hb0r _ | exact hbr⟩) (by omega) (by omega)) ?_
  refine hQ _ _ (end_byG (.inl rfl) hbel (x1 := .tup [.sl (some (H.length, 0)) (((comR l m).1).length) none, iV ((comR l m).2)]) (l2 := [.cells (ownG ((comR l m).1).length) 4 (r4 ((comR l m).1))]) (.tup [.sl (some (H.length, 0)) (((comR l m).1).length) none, iV ((comR l m).2)]) (resT Try.results42) [] rfl [0] (by decide) ⟨rfl, rfl⟩ ?_)
  exact absWf @mvs_r4
theorem insc0_c (H : AHeap) (s : AV)   (g : FuncId) (hs : Sl H 2 s 0 []) : ACalls Try.prog 90 [s, iV 0, iV 0, .fn g []] H (fun v H' => v = .tup [] ∧ H' = H) := by
  obtain ⟨bs, os, cs, rfl, hbs⟩ := hs
  have hbls := getElem?_lt hbs
  have hb0s := fun l => get_app (l := l) hbs
  refine AcN true Try.func90 ?_; intro hbel Q hQ
  have g'1 := (jn @hbs @hb0s)
  refine runTf g'1 ?_
  refine glp (fun k F Hx => ∃ z : Unit, k = 0 ∧ F = [(0, .sl (some (bs, 0)) 0 cs), (1, iV 0), (2, iV 0), (3, .fn g []), (8, iV 1)] ∧ H = Hx) (0) ?_ ?_
  · refine ⟨_, _, _, ⟨(), by omega, rfl, rfl⟩, Abs.by0 hbel ?_⟩
    exact absW
  rintro k0 F Hx ⟨z, hm0, rfl, rfl⟩ J0 hJ0
  refine runTf g'1 ?_
  exact hQ _ _ (end_plain0 (by first | exact .inl rfl | exact .inr rfl) hbel (x := .tup []) (resT Try.results90) rfl ⟨rfl, rfl⟩)
theorem pdqc0_c (H : AHeap) (s : AV)   (m : Int) (g : FuncId) (hs : Sl H 2 s 0 []) : ACalls Try.prog 72 [s, iV 0, iV 0, iV m, .fn g []] H (fun v H' => v = .tup [] ∧ H' = H) := by
  obtain ⟨bs, os, cs, rfl, hbs⟩ := hs
  have hbls := getElem?_lt hbs
  have hb0s := fun l => get_app (l := l) hbs
  refine AcT true Try.func72 ?_; intro hbel Q hQ
  have g'2 := (jn @hbs @hb0s)
  refine runTf g'2 ?_
  refine glp (fun k F Hx => ∃ z : Unit, k = 0 ∧ F = [(0, .sl (some (bs, 0)) 0 cs), (1, iV 0), (2, iV 0), (3, iV m), (4, .fn g []), (10, .bool true), (11, .bool true)] ∧ H = Hx) (0) ?_ ?_
  · refine ⟨_, _, _, ⟨(), by omega, rfl, rfl⟩, Abs.by0 hbel ?_⟩
    exact absW
  rintro k0 F Hx ⟨z, hm0, rfl, rfl⟩ J0 hJ0
  refine runTf g'2 ?_
  refine cvr g'2 (insc0_c _ _ g (⟨_, _, _, rfl, by first | exact hb0s _ | exact hbs⟩)) ?_
  exact eQ hQ hbel (.tup []) Try.results72 ⟨rfl, rfl⟩
theorem srtc0_c (H : AHeap) (s : AV) (g : FuncId) (hs : Sl H 2 s 0 []) : ACalls Try.prog 51 [s, .fn g []] H (fun v H' => v = .tup [] ∧ H' = H) := by
  obtain ⟨bs, os, cs, rfl, hbs⟩ := hs
  have hbls := getElem?_lt hbs
  have hb0s := fun l => get_app (l := l) hbs
  refine AcN true Try.func51 ?_; intro hbel Q hQ
  have g'3 := (jn @hbs @hb0s)
  refine runTf g'3 ?_
  refine cvr g'3 (bits0_c _) ?_
  refine cvr g'3 (pdqc0_c _ _ 0 g (⟨_, _, _, rfl, by first | exact hb0s _ | exact hbs⟩)) ?_
  exact hQ _ _ (end_plain0 (by first | exact .inl rfl | exact .inr rfl) hbel (x := .tup []) (resT Try.results51) rfl ⟨rfl, rfl⟩)
theorem datF_B {tx ty : Int} : ∀ (l : List T4) (nx : Nat), ∀ c ∈ datF tx ty nx l, 0 ≤ c ∧ c ≤ 255
  | [], _, c, h => by cases h
  | e :: l, nx, c, h => by
    unfold datF at h
    split at h
    · rcases List.mem_append.1 h with q | q
      · rcases List.mem_append.1 q with r | r
        · rcases List.mem_append.1 r with s | s
          · exact form_bd _ c s
          exact form_bd _ c s
        exact form_bd _ c r
      exact datF_B l _ c q
    exact datF_B l _ c h
theorem datF_le {tx ty : Int} : ∀ (l : List T4) (nx : Nat), (∀ e ∈ l, gdB e.1 e.2.1 e.2.2.1 e.2.2.2 = true) → (datF tx ty nx l).length ≤ 30 * l.length
  | [], _, _ => Nat.le_refl _
  | e :: l, nx, h => by
    have hg := gdB_iff.1 (h e (List.mem_cons_self ..))
    have hn := numI_bd (e.1, e.2.1)
    have f1 := form_len 9 (numI (e.1, e.2.1) - (nx : Int)).toNat (by omega)
    have z1 := zig_lt (n := e.2.2.1) (by omega)
    have z2 := zig_lt (n := e.2.2.2) (by omega)
    have f2 := form_len 9 (zig e.2.2.1) (by omega)
    have f3 := form_len 9 (zig e.2.2.2) (by omega)
    have hl : ∀ x ∈ l, gdB x.1 x.2.1 x.2.2.1 x.2.2.2 = true := fun x hx => h x (List.mem_cons_of_mem _ hx)
    unfold datF
    split
    · have ih := datF_le (tx := tx) (ty := ty) l (numI (e.1, e.2.1) + 1).toNat hl
      simp only [List.length_append, List.length_cons]
      omega
    have ih := datF_le (tx := tx) (ty := ty) l nx hl
    simp only [List.length_cons]
    omega
theorem datF_filter' {tx ty : Int} : ∀ (l : List T4) (nx : Nat), datF tx ty nx (l.filter (inT tx ty)) = datF tx ty nx l
  | [], _ => rfl
  | e :: l, nx => by
    rw [List.filter_cons]
    by_cases h : e.1 / 16 = tx ∧ e.2.1 / 16 = ty
    · rw [if_pos (show inT tx ty e = true from decide_eq_true h), datF, datF, if_pos h, if_pos h, datF_filter' l]
    rw [if_neg (by rw [show inT tx ty e = false from decide_eq_false h]; decide), datF_filter' l]
    rw [datF, if_neg h]
/-- Tiles that lie in the memory. -/
structure TAt (H : AHeap) (L : List (Int × Int × List Int)) (a : AV) (H' : AHeap) : Prop where
  ex : ∃ X, H' = H ++ X
  bel : HBel H'.length H'
  ts : ∃ ts : List Tl, ts.map tl3 = L ∧ Sl H' 3 a ts.length (tlR ts) ∧ tlOk H' ts
theorem PkI.ex {H G : AHeap} {bm bo : Nat} {ps : List Pt} {ord : List (Int × Int)} (I : PkI H G bm bo ps ord) : ∃ X, G = H ++ X := ⟨G.drop H.length, List.ext_getElem? fun i => by
  rcases Nat.lt_or_ge i H.length with q | q
  · rw [List.getElem?_append_left q]; exact I.pre i q
  rw [List.getElem?_append_right q, List.getElem?_drop, Nat.add_sub_cancel' q]⟩
theorem pack_2 (H : AHeap) (l : List T4) (hl : l.length ≤ 100000) (hv : vldE l = true) (hbel : HBel H.length H) (Q : Exit → Fr → AHeap → Prop) (hQ : ∀ F H', AEnd Try.prog Try.f29 H.length (fun v H' => TAt H (packL l) v H') .ret F H' → ARet Q F H') (G : AHeap) (bm bo : Nat) (ps : List Pt) (hI : PkI H G bm bo ps (homs l)) (hC : ∀ c ∈ homs l, ∃ j p, fdQ ps c.1 c.2 = some (j, p) ∧ ps[j]? = some p ∧ p.l = l.filter (inT c.1 c.2))
    {a0 a1 a2 a3 a4 a5 c : Code} (hb : Try.f29.body = some (.seq a0 (.seq a1 (.seq a2 (.seq a3 (.seq a4 (.seq a5 c))))))) :
    AW Try.prog Try.f29.ntmps H.length c Q [(3, .sl none 0 (some 0)), (4, .sl (some (bo, 0)) (homs l).length (capG (homs l).length)), (5, .mp (some bm))] G := by
  have hb' : Try.f29.body = some (.seq _ (.seq _ (.seq _ (.seq _ (.seq _ (.seq _ _)))))) := rfl
  have hc := hb'.symm.trans hb
  simp only [Option.some.injEq, Code.seq.injEq] at hc
  obtain ⟨-, -, -, -, -, -, rfl⟩ := hc
  clear hb hb'
  have hV := vldE_iff.1 hv
  have hhl := homs_len (l := l)
  obtain ⟨T, hT⟩ : ∃ T, homs l = T := ⟨_, rfl⟩
  rw [hT] at hI hC hhl ⊢
  have h0bel := hbel
  have hbel_b := hI.bel
  have hle_b := hI.len
  have hpre_b := hI.ex
  have hbo_b := hI.ho
  have hblo_b := getElem?_lt hbo_b
  have hb0o_b := fun l => get_app (l := l) hbo_b
  have hbm_b := hI.hm
  have hblm_b := getElem?_lt hbm_b
  have hb0m_b := fun l => get_app (l := l) hbm_b
  obtain ⟨n0, hn0⟩ : ∃ n, n = G.length := ⟨_, rfl⟩
  refine fnF ?_
  have g'1 := (jn @hbo_b (jn @hb0o_b (jn @hbm_b (jn @hb0m_b (jn @lk_gen (jn @lk_mp (jn @ints_t2 (jn @ints_t3 @ints_t4))))))))
  refine runTf g'1 ?_
  have hmvs : ∀ m k sel, AV.mvs (sig m k sel) (tlR (tls n0 [])) = tlR (tls n0 []) := fun _ _ _ => rfl
  refine glp (fun k F Hx => ∃ j : Nat, ∃ ts : List (Int × Int × List Int), ∃ Hg0 : AHeap, ∃ XX0 : AHeap, j + k = T.length ∧ Hg0 = G ++ XX0 ∧ (∀ x ∈ XX0, ABlk.bel Hg0.length x = true) ∧ ts = (T.take j).map (fun t => (t.1, t.2, datF t.1 t.2 0 l)) ∧ n0 + ts.length = Hg0.length ∧ XX0 = ts.map tlb ∧ F = [(3, .sl (some (Hg0.length, 0)) ts.length (capG ts.length)), (5, .mp (some (bm))), (50, .sl (some (bo, 0)) T.length (capG T.length)), (51, iV ((T.length : Nat) : Int)), (52, iV ((j : Nat) : Int))] ∧ Hx = Hg0 ++ [.cells (ownG ts.length) 3 (tlR (tls n0 ts))]) (T.length) ?_ ?_
  · refine ⟨_, _, _, ⟨0, [], G, [], by omega, (List.append_nil _).symm, (fun x h => by cases h), rfl, hn0, rfl, rfl, rfl⟩, (Abs.byE hbel_b [.cells false 3 []] rfl [0] (by decide) ?_).le hle_b⟩
    exact absRf @tls_nil
  rintro k0 F Hx ⟨j, ts, Hg0, XX0, hm0, hgX0, hXb_g0, hts, hgl, hXX, rfl, rfl⟩ J0 hJ0
  have hbel_g0 := hbel_grow hgX0 hbel_b hXb_g0
  have hbo_g0 := grow1 hgX0 hb0o_b
  have hblo_g0 := getElem?_lt hbo_g0
  have hb0o_g0 := fun l => get_app (l := l) hbo_g0
  have hbm_g0 := grow1 hgX0 hb0m_b
  have hblm_g0 := getElem?_lt hbm_g0
  have hb0m_g0 := fun l => get_app (l := l) hbm_g0
  have hpre_g0 := pre_trans hpre_b hgX0
  have hle_g0 := pre_le hpre_g0
  have hmvs := fun k sel => mvs_tls (m := Hg0.length) (k := k) (sel := sel) (n := n0) (ts := ts) (by omega)
  have htl : ts.length ≤ j := by rw [hts, List.length_map, List.length_take]; omega
  have g'2 := (jn @hbo_g0 (jn @hb0o_g0 (jn @hbm_g0 (jn @hb0m_g0 (jn @lk_gen (jn @lk_mp (jn @tls_len (jn @tls_ones (jn @ints_t2 (jn @ints_t3 @ints_t4))))))))))
  refine rcs g'2 (fun h1 h1d _ => ?_) (fun h1 h1d g'8 => ?_)
  · have hlj : j < T.length := by omega
    obtain ⟨jp, p, hfp, hpj, hpl⟩ := hC (g1 T j, g2 T j) (by rw [pr_eq hlj]; exact List.getElem_mem hlj)
    obtain ⟨hp1, hp2, hp3⟩ := hI.hp jp p hpj
    obtain ⟨pl, hple⟩ : ∃ x, x = p.l := ⟨_, rfl⟩
    obtain ⟨bp, hbpe⟩ : ∃ x, x = p.b := ⟨_, rfl⟩
    rw [← hple] at hpl hp2 hp3
    rw [← hbpe] at hp3
    have hpX : Hg0[bp]? = some (.cells true 4 (r4 pl)) := by rw [hgX0]; exact get_app hp3
    have hplX := getElem?_lt hpX
    have hsfbp := fun (L : AHeap) => get_app (l := L) hpX
    have hsflk : lkM Try.prog 72 (some (.map (pE ps))) (.agg [iV (g1 T j), iV (g2 T j)]) = some (.sl (some (bp, 0)) pl.length none) := by rw [lk_pE (P := Try.prog) (t := 72) (kt := 42) (et := 22) (by kernel_rfl) tEq42 (by kernel_rfl) (by kernel_rfl) ps, hfp, hbpe, hple]; rfl
    have hpo : pl.Pairwise befE := by rw [hpl]; exact hV.ord.filter _
    have hpg : ∀ e ∈ pl, gdB e.1 e.2.1 e.2.2.1 e.2.2.2 = true := fun e he => by rw [hpl] at he; exact hV.good e (List.mem_filter.1 he).1
    have hpi : ∀ e ∈ pl, e.1 / 16 = g1 T j ∧ e.2.1 / 16 = g2 T j := fun e he => by rw [hpl] at he; exact of_decide_eq_true (show decide _ = true from (List.mem_filter.1 he).2)
    have hpll : pl.length ≤ 100000 := by rw [hpl]; exact Nat.le_trans (List.length_filter_le _ _) hl
    have hpd : datF (g1 T j) (g2 T j) 0 pl = datF (g1 T j) (g2 T j) 0 l := by rw [hpl]; exact datF_filter' l 0
    have q2 := prs_load (l := T) (j := j) (by omega)
    have g'3 := (jn h1 (jn h1d (jn @hsfbp (jn @hsflk (jn q2 g'2)))))
    refine runTf g'3 ?_
    refine glp (fun k F Hx => ∃ u : Nat, ∃ nx : Nat, ∃ o : List Int, u + k = pl.length ∧ o ++ datF (g1 T j) (g2 T j) nx (pl.drop u) = datF (g1 T j) (g2 T j) 0 pl ∧ numOk (g1 T j) (g2 T j) nx (pl.drop u) ∧ nx ≤ 256 ∧ o.length ≤ 30 * u ∧ F = [(3, .sl (some (Hg0.length, 0)) ts.length (capG ts.length)), (5, .mp (some (bm))), (12, .ptr (some (Hg0.length + 1, 0))), (13, iV ((nx : Nat) : Int)), (50, .sl (some (bo, 0)) T.length (capG T.length)), (51, iV ((T.length : Nat) : Int)), (52, iV ((j : Nat) : Int)), (63, .sl (some (bp, 0)) pl.length none), (64, iV ((pl.length : Nat) : Int)), (65, iV ((u : Nat) : Int))] ∧ Hx = Hg0 ++ [.cells (ownG ts.length) 3 (tlR (tls n0 ts)), .cells true 0 [iV (g1 T j), iV (g2 T j), .sl (some (Hg0.length + 2, 0)) o.length (capG o.length)], .cells (ownG o.length) 1 (ints .u8 o)]) (pl.length) ?_ ?_
    · refine ⟨_, _, _, ⟨0, 0, [], by omega, rfl, numOk.zero, (by omega), Nat.le_refl _, rfl, rfl⟩, (Abs.byG hbel_g0 [.cells false 1 []] rfl [0, 2, 3] (by decide) ?_).le hle_g0⟩
      exact absRf (jn @hmvs @tls_nil)
    rintro k1 F Hx ⟨u, nx, o, hm1, hda, hno, hnx, hol, rfl, rfl⟩ J1 hJ1
    have g'4 := (jn @ints_len (jn @ints_ones g'3))
    refine rcs g'4 (fun h3 h3d _ => ?_) (fun h3 h3d _ => ?_)
    · have hul : u < pl.length := by omega
      have hdr := drop_g4 hul
      have hgd := gdB_iff.1 (hpg _ (List.getElem_mem hul))
      have hm := hpi _ (List.getElem_mem hul)
      have hg4 := g4_eq hul
      rw [← hg4] at hgd hm
      simp only at hgd hm
      have hpo2 : ((g41 pl u, g42 pl u, g43 pl u, g44 pl u) :: pl.drop (u + 1)).Pairwise befE := by rw [← hdr]; exact hpo.sublist (List.drop_sublist ..)
      have hn1 : ((nx : Nat) : Int) ≤ numI ((g41 pl u), (g42 pl u)) := hno (g41 pl u, g42 pl u, g43 pl u, g44 pl u) (by rw [hdr]; exact List.mem_cons_self ..) hm
      have hn2 := numI_bd ((g41 pl u), (g42 pl u))
      have hsfu : IntKind.u64.wrap (numI ((g41 pl u), (g42 pl u)) - ((nx : Nat) : Int)) = (((numI ((g41 pl u), (g42 pl u)) - ((nx : Nat) : Int)).toNat : Nat) : Int) := by rw [IntKind.wrap_u64]; omega
      have hsn : ((((numI ((g41 pl u), (g42 pl u)) + 1).toNat : Nat)) : Int) = numI ((g41 pl u), (g42 pl u)) + 1 := by omega
      have hz1 := zig_lt (n := g43 pl u) (by omega)
      have hz2 := zig_lt (n := g44 pl u) (by omega)
      have hda2 : datF (g1 T j) (g2 T j) nx (pl.drop u) = (form (numI ((g41 pl u), (g42 pl u)) - ((nx : Nat) : Int)).toNat ++ form (zig (g43 pl u)) ++ form (zig (g44 pl u))) ++ datF (g1 T j) (g2 T j) (numI ((g41 pl u), (g42 pl u)) + 1).toNat (pl.drop (u + 1)) := by rw [hdr]; simp only [datF]; rw [if_pos hm]
      have hfp0 := form_pos ((numI ((g41 pl u), (g42 pl u)) - ((nx : Nat) : Int)).toNat)
      have hsfp0 : decide (0 < (form (numI ((g41 pl u), (g42 pl u)) - ((nx : Nat) : Int)).toNat).length) = true := decide_eq_true hfp0
      have hfl0 := form_len 9 ((numI ((g41 pl u), (g42 pl u)) - ((nx : Nat) : Int)).toNat) (by omega)
      have hfp1 := form_pos (zig (g43 pl u))
      have hsfp1 : decide (0 < (form (zig (g43 pl u))).length) = true := decide_eq_true hfp1
      have hfl1 := form_len 9 (zig (g43 pl u)) (by omega)
      have hfp2 := form_pos (zig (g44 pl u))
      have hsfp2 : decide (0 < (form (zig (g44 pl u))).length) = true := decide_eq_true hfp2
      have hfl2 := form_len 9 (zig (g44 pl u)) (by omega)
      have hsfe1 : (o.length + (form (numI ((g41 pl u), (g42 pl u)) - ((nx : Nat) : Int)).toNat).length + (form (zig (g43 pl u))).length == 0) = false := beq_eq_false_iff_ne.2 (by omega)
      have hsfe2 : (o.length + (form (numI ((g41 pl u), (g42 pl u)) - ((nx : Nat) : Int)).toNat).length + (form (zig (g43 pl u))).length + (form (zig (g44 pl u))).length == 0) = false := beq_eq_false_iff_ne.2 (by omega)
      have hcg := capG_p (n := o.length + ((form (numI ((g41 pl u), (g42 pl u)) - ((nx : Nat) : Int)).toNat).length + ((form (zig (g43 pl u))).length + (form (zig (g44 pl u))).length))) (by omega)
      have hog := ownG_p (n := o.length + ((form (numI ((g41 pl u), (g42 pl u)) - ((nx : Nat) : Int)).toNat).length + ((form (zig (g43 pl u))).length + (form (zig (g44 pl u))).length))) (by omega)
      have q4 := r4_load (l := pl) (j := u) (by omega)
      have g'5 := (jn h3 (jn h3d (jn @hsfu (jn @hsfp0 (jn @hsfp1 (jn @hsfp2 (jn @hsfe1 (jn @hsfe2 (jn @r4_len (jn q4 g'4))))))))))
      refine runTf g'5 ?_
      refine cvr g'5 (home_c _ _ _ (by omega) (by omega)) ?_
      refine cx (wuint_c _ (((numI ((g41 pl u), (g42 pl u))) - ((nx : Nat) : Int)).toNat) (by omega)) ?_
      have g'6 := (jn @ints_all g'5)
      refine runTf g'6 ?_
      refine cx (wint_c _ _ (by omega)) ?_
      refine runTf g'6 ?_
      refine cx (wint_c _ _ (by omega)) ?_
      refine runTf g'6 ?_
      refine hJ1 _ _ ⟨k1 - 1, by omega, _, _, _, ⟨u + 1, (numI ((g41 pl u), (g42 pl u)) + 1).toNat, (o ++ (form (numI ((g41 pl u), (g42 pl u)) - ((nx : Nat) : Int)).toNat ++ (form (zig (g43 pl u)) ++ form (zig (g44 pl u))))), by omega, (by rw [← hda, hda2]; simp only [List.append_assoc]), (numOk.next hpo2 hm), (by omega), (by simp only [List.length_append]; omega), rfl, rfl⟩, (Abs.byG hbel_g0 [] rfl [0, 1, 10] (by decide) ?_).le hle_g0⟩
      exact absRf (jn @hmvs (jn @hsn (jn @hcg (jn @hog (jn @ints_t4 (jn @List.append_assoc.{0} (jn @Nat.add_assoc (jn @ints_t5 @tls_nil))))))))
    have hdz : pl.drop u = [] := List.drop_of_length_le (by omega)
    have hfo : o = datF (g1 T j) (g2 T j) 0 l := by rw [← hpd, ← hda, hdz]; exact (List.append_nil _).symm
    have hdp : 0 < o.length := by rw [hfo]; exact datF_pos (homs_mem.1 (by rw [hT, pr_eq hlj]; exact List.getElem_mem hlj))
    have hcap := capG_p hdp
    have how := ownG_p hdp
    have g'7 := (jn h3 (jn h3d (jn @prs_len (jn @capG_s g'4))))
    refine runTf g'7 ?_
    refine hJ0 _ _ ⟨k0 - 1, by omega, _, _, _, ⟨j + 1, (ts ++ [(g1 T j, g2 T j, o)]), (Hg0 ++ [.cells (ownG o.length) 1 (ints .u8 o)]), (XX0 ++ [.cells (ownG o.length) 1 (ints .u8 o)]), by omega, (by rw [hgX0, List.append_assoc]), grow_bel hXb_g0 (by simp only [ABlk.bel, bels_prs, bels_ints]), (by rw [hts, hfo, List.take_succ_eq_append_getElem hlj, List.map_append, ← pr_eq hlj]; rfl), (by rw [List.length_append, List.length_singleton, List.length_append, List.length_singleton]; omega), (by rw [List.map_append, ← hXX, how]; rfl), rfl, rfl⟩, Abs.byX hle_g0 hbel_g0 [] rfl [2, 4] (by decide) ?_⟩
    exact absRf (jn @hmvs (jn @tls_snoc (jn @hgl (jn @hcap (jn @how (jn @grow_len (jn @Nat.add_assoc @tls_nil)))))))
  obtain rfl : j = T.length := by omega
  have hcs : packL l = ts := by unfold packL; rw [hT, hts, List.take_length]
  refine runTf g'8 ?_
  have hsub : n0 + ts.length ≤ (Hg0 ++ ([.cells (ownG ts.length) 3 (tlR (tls n0 ts))] : AHeap)).length := by rw [hgl, List.length_append]; omega
  have hM : HBel (Hg0 ++ ([.cells (ownG ts.length) 3 (tlR (tls n0 ts))] : AHeap)).length (Hg0 ++ [.cells (ownG ts.length) 3 (tlR (tls n0 ts))]) := (hbel_g0.up (by rw [List.length_append]; omega)).app (fun x hx => by rw [List.mem_singleton.1 hx]; exact bels_tls hsub)
  have hok : tsOk ts := fun t ht => by
    rw [← hcs] at ht
    obtain ⟨c, -, rfl⟩ := List.mem_map.1 ht
    refine ⟨?_, datF_B l 0⟩
    have q := datF_le (tx := c.1) (ty := c.2) l 0 hV.good
    show (datF c.1 c.2 0 l).length ≤ _
    omega
  have hmem : Hg0 ++ ([.cells (ownG ts.length) 3 (tlR (tls n0 ts))] : AHeap) = G ++ (ts.map tlb ++ [.cells (ownG ts.length) 3 (tlR (tls n0 ts))]) := by rw [hgX0, hXX, List.append_assoc]
  refine hQ _ _ (AEnd.le (m := (Hg0 ++ ([.cells (ownG ts.length) 3 (tlR (tls n0 ts))] : AHeap)).length) (end_byE (.inl rfl) hM (x1 := .sl (some (Hg0.length, 0)) ts.length (capG ts.length)) (l2 := []) (.sl (some (Hg0.length, 0)) ts.length (capG ts.length)) (resT Try.results29) [] rfl [] (by decide) ⟨?_, ?_, ?_⟩ ?_) (by rw [List.length_append]; omega))
  · obtain ⟨X, hX⟩ := hpre_g0
    exact ⟨X ++ [.cells (ownG ts.length) 3 (tlR (tls n0 ts))], by rw [List.append_nil, hX, List.append_assoc]⟩
  · rw [List.append_nil]; exact hM
  · rw [List.append_nil]
    refine ⟨tls n0 ts, by rw [tls_tl3, hcs], ⟨Hg0.length, _, _, by rw [tls_length], get_new0.trans rfl⟩, ?_⟩
    rw [hmem, hn0]
    exact tls_ok hok
  exact absTf (jn @List.length_append.{0} (jn @List.length_cons.{0} @List.length_nil.{0}))
theorem pack_c (H : AHeap) (s : AV) (l : List T4) (hs : Sl H 4 s l.length (r4 l)) (hl : l.length ≤ 100000) (hv : vldE l = true) : ACalls Try.prog 29 [s] H (fun v H' => TAt H (packL l) v H') := by
  obtain ⟨bs, os, cs, rfl, hbs⟩ := hs
  have hbls := getElem?_lt hbs
  have hb0s := fun l => get_app (l := l) hbs
  (refine ACalls_pieces Try.func29 _ rfl (Nat.le_of_ble_eq_true (by kernel_rfl)) rfl ?_; intro hbel Q hQ hQ' c hc; unfold Try.f29 at hc; simp only [Option.some.injEq] at hc; subst hc; clear hQ')
  refine sqR hQ fun Q1 hn1 hQ1 he1 => ?_
  refine fnF ?_
  simp -implicitDefEqProofs (disch := omega) only [hbs, hb0s, simprocAttr, amset, tyset, Function.comp_apply, one1, lenV, calleeOf, lateOk, belowV, aop, AV.ofValue, AV.ofCell, AV.cells, AV.flat, AV.one, arep, aBin, aAppend, aConv]
  refine hn1 _ _ ?_
  refine sqR hQ fun Q2 hn2 hQ2 he2 => ?_
  refine fnF ?_
  simp -implicitDefEqProofs (disch := omega) only [hbs, hb0s, simprocAttr, amset, tyset, Function.comp_apply, one1, lenV, calleeOf, lateOk, belowV, aop, AV.ofValue, AV.ofCell, AV.cells, AV.flat, AV.one, arep, aBin, aAppend, aConv]
  refine hn2 _ _ ?_
  refine sqR hQ fun Q3 hn3 hQ3 he3 => ?_
  refine fnF ?_
  simp -implicitDefEqProofs (disch := omega) only [hbs, hb0s, simprocAttr, amset, tyset, Function.comp_apply, one1, lenV, calleeOf, lateOk, belowV, aop, AV.ofValue, AV.ofCell, AV.cells, AV.flat, AV.one, arep, aBin, aAppend, aConv]
  refine hn3 _ _ ?_
  refine sqR hQ fun Q4 hn4 hQ4 he4 => ?_
  refine fnF ?_
  simp -implicitDefEqProofs (disch := omega) only [hbs, hb0s, simprocAttr, amset, tyset, Function.comp_apply, one1, lenV, calleeOf, lateOk, belowV, aop, AV.ofValue, AV.ofCell, AV.cells, AV.flat, AV.one, arep, aBin, aAppend, aConv]
  refine hn4 _ _ ?_
  refine sqR hQ fun Q5 hn5 hQ5 he5 => ?_
  refine sqR hQ5 fun Q6 hn6 hQ6 he6 => ?_
  refine fnF ?_
  simp -implicitDefEqProofs (disch := omega) only [hbs, hb0s, simprocAttr, amset, tyset, Function.comp_apply, one1, lenV, calleeOf, lateOk, belowV, aop, AV.ofValue, AV.ofCell, AV.cells, AV.flat, AV.one, arep, aBin, aAppend, aConv]
  refine hn6 _ _ ?_
  refine bkR hQ5 fun Q7 hn7 hQ7 he7 hb7 => ?_
  refine AW_loopA (fun k F Hx => ∃ (i bm bo : Nat) (ps : List Pt) (ord : List (Int × Int)), i + k = l.length ∧ ord.length ≤ i ∧ PkC ps ord (l.take i) ∧ PkI H Hx bm bo ps ord ∧ F = [(3, .sl none 0 (some 0)), (4, .sl (some (bo, 0)) ord.length (capG ord.length)), (5, .mp (some bm)), (19, .sl (some (bs, 0)) l.length cs), (20, .int .i64 (l.length : Nat)), (21, .int .i64 (i : Nat))]) l.length ?_ ?_
  · refine ⟨_, _, H ++ [.map [], .cells false 2 []], ⟨0, H.length, H.length + 1, [], [], by omega, Nat.le_refl _, PkC.nil, ?_, rfl⟩, Abs.byG hbel [.cells false 2 []] rfl [0, 1] (by decide) ?_⟩
    · refine ⟨by simp, fun b hb => List.getElem?_append_left hb, (hbel.up (by simp)).app (fun x hx => ?_), Nat.le_refl _, by omega, by simp [pE], by simp [prs, ownG], fun i p h => by simp at h, fun i j p q h => by simp at h⟩
      simp only [List.mem_cons, List.not_mem_nil, or_false] at hx
      rcases hx with rfl | rfl <;> rfl
    exact absTf (jn @capG_0 @List.length_nil.{0})
  rintro k0 F Hx ⟨i, bm, bo, ps, ord, hm0, hol, hC, hI, rfl⟩ Q8 hJ8 hr8 he8
  have hbsG : Hx[bs]? = some (.cells os 4 (r4 l)) := by rw [hI.pre bs hbls]; exact hbs
  have hb0G := fun l => get_app (l := l) hbsG
  have hmx0 := fun l => get_app (l := l) hI.hm
  have ho0 := fun l => get_app (l := l) hI.ho
  refine AW_seqQ fun Q9 hn9 hr9 he9 => ?_
  refine fnF ?_
  simp -implicitDefEqProofs (disch := omega) only [hbsG, hb0G, simprocAttr, amset, tyset, Function.comp_apply, one1, lenV, calleeOf, lateOk, belowV, aop, AV.ofValue, AV.ofCell, AV.cells, AV.flat, AV.one, arep, aBin, aAppend, aConv]
  refine hn9 _ _ ?_
  refine AW_seqQ fun Q10 hn10 hr10 he10 => ?_
  by_cases hlt : i < l.length
  · have hc : decide ((i : Int) < (l.length : Int)) = true := decide_eq_true (by omega)
    refine AW_cond true (by simp [aev, look]; exact hlt) (fun _ => ?_) (fun h => by cases h)
    refine fnF ?_
    simp -implicitDefEqProofs (disch := omega) only [simprocAttr, amset, tyset, Function.comp_apply, one1, lenV, calleeOf, lateOk, belowV, aop, AV.ofValue, AV.ofCell, AV.cells, AV.flat, AV.one, arep, aBin, aAppend, aConv]
    refine hn10 _ _ ?_
    refine AW_seqQ fun Q11 hn11 hr11 he11 => ?_
    refine AW_blockQ fun Q12 hn12 hr12 he12 hb12 => ?_
    refine AW_seqQ fun Q13 hn13 hr13 he13 => ?_
    refine fnF ?_
    have q1 := r4_load (l := l) (j := i) hlt
    simp -implicitDefEqProofs (disch := omega) only [hbsG, hb0G, q1, r4_len, simprocAttr, amset, tyset, Function.comp_apply, one1, lenV, calleeOf, lateOk, belowV, aop, AV.ofValue, AV.ofCell, AV.cells, AV.flat, AV.one, arep, aBin, aAppend, aConv]
    repeat refine And.intro (by omega) ?_
    refine hn13 _ _ ?_
    have hV := vldE_iff.1 hv
    have hgd := gdB_iff.1 (hV.good _ (List.getElem_mem hlt))
    have hg4 := g4_eq hlt
    rw [← hg4] at hgd
    simp only at hgd
    refine AW_seqQ fun Q14 hn14 hr14 he14 => ?_
    refine fnF ?_
    simp -implicitDefEqProofs (disch := omega) only [hbsG, hb0G, simprocAttr, amset, tyset, Function.comp_apply, one1, lenV, calleeOf, lateOk, belowV, aop, AV.ofValue, AV.ofCell, AV.cells, AV.flat, AV.one, arep, aBin, aAppend, aConv]
    refine cv (home_c _ _ _ (by omega) (by omega)) ?_
    simp -implicitDefEqProofs (disch := omega) only [hbsG, hb0G, simprocAttr, amset, tyset, Function.comp_apply, one1, lenV, calleeOf, lateOk, belowV, aop, AV.ofValue, AV.ofCell, AV.cells, AV.flat, AV.one, arep, aBin, aAppend, aConv]
    refine hn14 _ _ ?_
    refine AW_seqQ fun Q15 hn15 hr15 he15 => ?_
    refine AW_seqQ fun Q16 hn16 hr16 he16 => ?_
    obtain ⟨G, hG⟩ : ∃ G, G = Hx ++ [.cells true 0 [.int .i64 (g41 l i), .int .i64 (g42 l i), .int .i64 (g43 l i), .int .i64 (g44 l i)], .cells true 0 [.int .i64 (g41 l i / 16), .int .i64 (g42 l i / 16)]] := ⟨_, rfl⟩
    have hGe : G[Hx.length]? = some (.cells true 0 [.int .i64 (g41 l i), .int .i64 (g42 l i), .int .i64 (g43 l i), .int .i64 (g44 l i)]) := by rw [hG]; simp
    have hGt : G[Hx.length + 1]? = some (.cells true 0 [.int .i64 (g41 l i / 16), .int .i64 (g42 l i / 16)]) := by rw [hG]; simp
    have hGm : G[bm]? = some (.map (pE ps)) := by rw [hG]; exact hmx0 _
    have hGo : G[bo]? = some (.cells (ownG ord.length) 2 (prs ord)) := by rw [hG]; exact ho0 _
    have hGl : G.length = Hx.length + 2 := by rw [hG]; simp
    rw [← hG]
    obtain ⟨be, hbe⟩ : ∃ b, b = Hx.length := ⟨_, rfl⟩
    rw [← hbe] at hGe hGt hGl ⊢
    have hGe0 := fun L => get_app (l := L) hGe
    have hGt0 := fun L => get_app (l := L) hGt
    have hGm0 := fun L => get_app (l := L) hGm
    have hGo0 := fun L => get_app (l := L) hGo
    have hbmG := getElem?_lt hGm
    have hboG := getElem?_lt hGo
    obtain ⟨px, hpx⟩ : ∃ x, x = g41 l i / 16 := ⟨_, rfl⟩
    obtain ⟨py, hpy⟩ : ∃ y, y = g42 l i / 16 := ⟨_, rfl⟩
    rw [← hpx, ← hpy] at hGt hGt0 ⊢
    have hlk0 := lk_pE (P := Try.prog) (t := 72) (kt := 42) (et := 22) (by kernel_rfl) tEq42 (by kernel_rfl) (by kernel_rfl) ps px py
    have hfd0 := find_pE (P := Try.prog) (kt := 42) tEq42 px py ps
    cases hfd : fdQ ps px py with
    | none =>
      rw [hfd] at hlk0 hfd0
      simp only [Option.map_none] at hlk0 hfd0
      refine fnF ?_
      simp -implicitDefEqProofs (disch := omega) only [lk_gen, lk_mp, hGe, hGt, hGm, hGo, hGe0, hGt0, hGm0, hGo0, hlk0, simprocAttr, amset, tyset, Function.comp_apply, one1, lenV, calleeOf, lateOk, belowV, aop, AV.ofValue, AV.ofCell, AV.cells, AV.flat, AV.one, arep, aBin, aAppend, aConv]
      repeat refine And.intro (by omega) ?_
      refine hn16 _ _ ?_
      refine AW_cond true (by rfl) (fun _ => ?_) (fun h => by cases h)
      refine fnF ?_
      have g'1 := (jn @hGe (jn @hGt (jn @hGm (jn @hGo (jn @hGe0 (jn @hGt0 (jn @hGm0 (jn @hGo0 (jn @hbmG (jn @hboG (jn @put_old (jn @prs_len @prs_one))))))))))))
      refine runTf g'1 ?_
      refine hn15 _ _ ?_
      have hboX := getElem?_lt hI.ho
      have hbmX := getElem?_lt hI.hm
      have hbne : bm ≠ bo := fun e => by have := hI.hm; rw [e, hI.ho] at this; cases this
      obtain ⟨K, hK⟩ : ∃ K, K = killG ord.length (.cells (ownG ord.length) 2 (prs ord)) := ⟨_, rfl⟩
      obtain ⟨G1, hG1⟩ : ∃ G1, G1 = List.set G bo K ++ [.cells true 2 [.int .i64 px, .int .i64 py], .cells true 2 (prs ord ++ [.int .i64 px, .int .i64 py])] := ⟨_, rfl⟩
      have hold : ∀ c x, c ≠ bo → G[c]? = some x → G1[c]? = some x := fun c x hc hx => by
        rw [hG1, List.getElem?_append_left (by rw [List.length_set]; exact getElem?_lt hx), List.getElem?_set_ne (fun e => hc e.symm)]; exact hx
      have h1e := hold _ _ (by omega) hGe
      have h1t := hold _ _ (by omega) hGt
      have h1m := hold _ _ hbne hGm
      have h1l : G1.length = be + 4 := by rw [hG1, List.length_append, List.length_set, hGl]; rfl
      have h1e0 := fun L => get_app (l := L) h1e
      have h1t0 := fun L => get_app (l := L) h1t
      have h1m0 := fun L => get_app (l := L) h1m
      rw [← hK, ← hG1]
      refine AW_rest ?_
      refine ARest_pre (q := false) (l := [_, _, _, _]) rfl (fun J hJ => ?_)
      simp -implicitDefEqProofs (disch := omega) only [h1e, h1t, h1m, h1e0, h1t0, h1m0, simprocAttr, amset, tyset, Function.comp_apply, one1, lenV, calleeOf, lateOk, belowV, aop, AV.ofValue, AV.ofCell, AV.cells, AV.flat, AV.one, arep, aBin, aConv]
      repeat refine And.intro (by omega) ?_
      refine inv_of (hJ _ _ ?_)
      refine ARest_mapNew (b := bm) (kk := .agg [.int .i64 px, .int .i64 py]) (kt := 42) (et := 22) (z := .sl none 0 (some 0)) (es := pE ps) rfl rfl rfl rfl (h1m0 _) (key_mblk tEq42 px py) hfd0 (fun bs0 ck hb1 hb2 hb3 => ?_)
      obtain ⟨M1, hM1⟩ : ∃ M1, M1 = List.set (G1 ++ [.cells true 4 [.int .i64 (g41 l i), .int .i64 (g42 l i), .int .i64 (g43 l i), .int .i64 (g44 l i)]]) bm (.fmap (pE ps ++ [(.agg [.int .i64 px, .int .i64 py], .sl none 0 (some 0))]) (bs0 ++ [ck]) (ck + 1)) := ⟨_, rfl⟩
      have hb1m := getElem?_lt h1m
      have hMm : M1[bm]? = some (.fmap (pE ps ++ [(.agg [.int .i64 px, .int .i64 py], .sl none 0 (some 0))]) (bs0 ++ [ck]) (ck + 1)) := by rw [hM1]; exact List.getElem?_set_self (by rw [List.length_append]; omega)
      have hMn : M1[G1.length]? = some (.cells true 4 [.int .i64 (g41 l i), .int .i64 (g42 l i), .int .i64 (g43 l i), .int .i64 (g44 l i)]) := by rw [hM1, List.getElem?_set_ne (by omega)]; simp
      have hMl : M1.length = G1.length + 1 := by rw [hM1, List.length_set, List.length_append]; rfl
      have hMm0 := fun L => get_app (l := L) hMm
      have hMn0 := fun L => get_app (l := L) hMn
      rw [← hM1]
      refine ARest_pre (q := false) (l := [_, _, _]) rfl (fun J2 hJ2 => ?_)
      have g'2 := (jn @hMm (jn @hMn (jn @hMm0 @hMn0)))
      refine runTf g'2 ?_
      refine inv_of (hJ2 _ _ ?_)
      refine ARest_store (kk := .agg [.int .i64 px, .int .i64 py]) (y := .sl none 0 (some 0)) (i := ps.length) (st := ck) (bs := bs0 ++ [ck]) (ck := ck + 1) (es := pE ps ++ [(.agg [.int .i64 px, .int .i64 py], .sl none 0 (some 0))]) rfl rfl rfl rfl rfl rfl (hMm0 _) (by have q := hb1; unfold pE at q; rw [List.length_map] at q; rw [← q]; simp) (by unfold pE; rw [List.getElem?_append_right (by simp)]; simp) hb2 hb3 ?_
      refine ARest_fin (q := false) rfl ?_
      simp -implicitDefEqProofs (disch := omega) only [simprocAttr, amset, tyset, Function.comp_apply, one1, lenV, calleeOf, lateOk, belowV, aop, AV.ofValue, AV.ofCell, AV.cells, AV.flat, AV.one, arep, aBin, aAppend, aConv]
      refine hn12 _ _ ?_
      obtain ⟨e, he⟩ : ∃ e : T4, e = (g41 l i, g42 l i, g43 l i, g44 l i) := ⟨_, rfl⟩
      have her : [AV.int .i64 (g41 l i), .int .i64 (g42 l i), .int .i64 (g43 l i), .int .i64 (g44 l i)] = r4 [e] := by rw [he]; rfl
      have hes : List.set (α := AV × AV) (pE ps ++ [(.agg [.int .i64 px, .int .i64 py], .sl none 0 (some 0))]) ps.length (.agg [.int .i64 px, .int .i64 py], .sl (some (M1.length, 0)) 1 none) = pE (ps ++ [⟨px, py, M1.length, [e]⟩]) := by
        unfold pE
        rw [List.set_append_right _ _ (by simp)]
        simp [pkE, pkv]
      obtain ⟨M2, hM2⟩ : ∃ M2, M2 = List.set (M1 ++ [.cells true 4 (r4 [e])]) bm (.map (pE (ps ++ [⟨px, py, M1.length, [e]⟩]))) := ⟨_, rfl⟩
      rw [hes, her, ← hM2]
      have hM2l : M2.length = M1.length + 1 := by rw [hM2, List.length_set, List.length_append]; rfl
      have hb2m := getElem?_lt hMm
      have keep1 : ∀ c x, c ≠ bm → G1[c]? = some x → M2[c]? = some x := fun c x hc hx => by
        rw [hM2, List.getElem?_set_ne (fun q => hc q.symm), List.getElem?_append_left (by have := getElem?_lt hx; omega), hM1, List.getElem?_set_ne (fun q => hc q.symm)]
        exact get_app hx
      have keep : ∀ c x, c ≠ bo → c ≠ bm → Hx[c]? = some x → M2[c]? = some x := fun c x hc hd hx => keep1 c x hd (hold c x hc (by rw [hG]; exact get_app hx))
      have hxb : be = Hx.length := hbe
      have hI2 : PkI H M2 bm (G.length + 1) (ps ++ [⟨px, py, M1.length, [e]⟩]) (ord ++ [(px, py)]) := by
        have hN : Hx.length ≤ M2.length := by omega
        refine hI.step (fun _ => False) (fun _ h => h.elim) hN (fun c x h1 h2 _ h4 => keep c x h1 h2 h4) ?_ (by have := hI.len; omega) (by rw [hM2]; exact List.getElem?_set_self (by rw [List.length_append]; omega)) ?_ (fun j p hj => ?_) (fun j k p q hj hk hb => ?_)
        · have b1 : ∀ p ∈ ps, p.b < M2.length := fun p hp => by have := hI.blt p hp; omega
          have b2 : ∀ p ∈ ps ++ [⟨px, py, M1.length, [e]⟩], p.b < M2.length := fun p hp => by
            rcases List.mem_append.1 hp with q | q
            · exact b1 p q
            rw [List.mem_singleton.1 q]; show M1.length < _; omega
          have k0 : HBel M2.length G := by
            rw [hG]
            exact (hI.bel.up hN).app (fun x hx => by
              simp only [List.mem_cons, List.not_mem_nil, or_false] at hx
              rcases hx with rfl | rfl <;> rfl)
          have k1 : HBel M2.length G1 := by
            rw [hG1]
            refine (k0.put bo (by rw [hK]; unfold killG; split; exact bels_prs; rfl)).app (fun x hx => ?_)
            simp only [List.mem_cons, List.not_mem_nil, or_false] at hx
            rcases hx with rfl | rfl
            · rfl
            show AV.bels _ (prs ord ++ prs [(px, py)]) = true
            rw [← prs_append]; exact bels_prs
          have k2 : HBel M2.length M1 := by
            rw [hM1]
            refine (k1.app (fun x hx => ?_)).put bm (bel_es (fun p hp => ?_)).2
            · rw [List.mem_singleton.1 hx]; rfl
            rcases List.mem_append.1 hp with q | q
            · exact pE_bel b1 p q
            rw [List.mem_singleton.1 q]; exact ⟨rfl, rfl⟩
          have k3 : HBel M2.length (M1 ++ [.cells true 4 (r4 [e])]) := k2.app (fun x hx => by rw [List.mem_singleton.1 hx]; exact bels_r4)
          have := k3.put bm (bel_es (bs := []) (ck := 0) (pE_bel b2)).1
          rw [← hM2] at this
          exact this
        · refine keep1 _ _ (by have := hbmX; omega) ?_
          rw [hG1, List.getElem?_append_right (by rw [List.length_set]; omega), List.length_set, Nat.add_sub_cancel_left]
          rw [ownG_p (by simp), prs_append]; rfl
        · rcases Nat.lt_or_ge j ps.length with q | q
          · rw [List.getElem?_append_left q] at hj
            obtain ⟨p1, p2, p3⟩ := hI.hp j p hj
            obtain ⟨n1, n2, n3⟩ := hI.pne hj
            exact ⟨p1, p2, keep _ _ n1 n2 p3⟩
          rw [List.getElem?_append_right q] at hj
          have := List.mem_of_getElem? hj
          rw [List.mem_singleton.1 this]
          refine ⟨by have := hI.len; show H.length ≤ M1.length; omega, Nat.one_pos, ?_⟩
          show M2[M1.length]? = _
          rw [hM2, List.getElem?_set_ne (by omega)]
          simp
        rcases Nat.lt_or_ge j ps.length with r | r <;> rcases Nat.lt_or_ge k ps.length with t | t
        · rw [List.getElem?_append_left r] at hj
          rw [List.getElem?_append_left t] at hk
          exact hI.inj j k p q hj hk hb
        · rw [List.getElem?_append_left r] at hj
          rw [List.getElem?_append_right t] at hk
          have h1 := (hI.pne hj).2.2
          rw [hb, List.mem_singleton.1 (List.mem_of_getElem? hk)] at h1
          have : M1.length < Hx.length := h1
          omega
        · rw [List.getElem?_append_right r] at hj
          rw [List.getElem?_append_left t] at hk
          have h1 := (hI.pne hk).2.2
          rw [← hb, List.mem_singleton.1 (List.mem_of_getElem? hj)] at h1
          have : M1.length < Hx.length := h1
          omega
        have h1 := getElem?_lt hj
        have h2 := getElem?_lt hk
        simp at h1 h2
        omega
      have htk : l.take (i + 1) = l.take i ++ [e] := by rw [List.take_succ_eq_append_getElem hlt, ← g4_eq hlt, he]
      have hC2 : PkC (ps ++ [⟨px, py, M1.length, [e]⟩]) (ord ++ [(px, py)]) (l.take (i + 1)) := by rw [htk]; exact hC.new _ (by rw [hpx, he]) (by rw [hpy, he]) hfd
      refine hn11 _ _ ?_
      refine fnF ?_
      simp -implicitDefEqProofs (disch := omega) only [simprocAttr, amset, tyset, Function.comp_apply, one1, lenV, calleeOf, lateOk, belowV, aop, AV.ofValue, AV.ofCell, AV.cells, AV.flat, AV.one, arep, aBin, aAppend, aConv]
      repeat refine And.intro (by omega) ?_
      have hb1 := hI2.lm
      have hb2 := getElem?_lt hI2.hm
      have hb3 := getElem?_lt hI2.ho
      refine hJ8 _ _ ⟨k0 - 1, by omega, _, _, _, ⟨i + 1, bm, _, _, _, by omega, by simp; omega, hC2, hI2, rfl⟩, (Abs.by0 hI2.bel ?_).le hI2.len⟩
      exact absTf (jn @List.length_append.{0} (jn @List.length_cons.{0} (jn @List.length_nil.{0} @capG_s)))
    | some q =>
      obtain ⟨j, p⟩ := q
      obtain ⟨hj, hx, hy⟩ := fdQ_some hfd
      simp only at hj hx hy
      rw [hfd] at hlk0 hfd0
      simp only [Option.map_some] at hlk0 hfd0
      have hpv : pkv p = .sl (some (p.b, 0)) p.l.length none := rfl
      rw [hpv] at hlk0 hfd0
      obtain ⟨p1, p2, p3⟩ := hI.hp j p hj
      obtain ⟨n1, n2, n3⟩ := hI.pne hj
      have hnk : nilKnown (some (p.b, 0)) p.l.length none = true := by
        obtain ⟨n, hn⟩ : ∃ n, p.l.length = n + 1 := ⟨p.l.length - 1, by omega⟩
        rw [hn]; rfl
      refine fnF ?_
      simp -implicitDefEqProofs (disch := omega) only [lk_gen, lk_mp, hGe, hGt, hGm, hGo, hGe0, hGt0, hGm0, hGo0, hlk0, hnk, Option.isNone_some.{0}, simprocAttr, amset, tyset, Function.comp_apply, one1, lenV, calleeOf, lateOk, belowV, aop, AV.ofValue, AV.ofCell, AV.cells, AV.flat, AV.one, arep, aBin, aAppend, aConv]
      repeat refine And.intro (by omega) ?_
      refine hn16 _ _ ?_
      refine AW_cond false (by rfl) (fun h => by cases h) (fun _ => ?_)
      refine fnF ?_
      simp -implicitDefEqProofs (disch := omega) only [simprocAttr, amset, tyset, Function.comp_apply, one1, lenV, calleeOf, lateOk, belowV, aop, AV.ofValue, AV.ofCell, AV.cells, AV.flat, AV.one, arep, aBin, aAppend, aConv]
      refine hn15 _ _ ?_
      have hboX := getElem?_lt hI.ho
      have hbmX := getElem?_lt hI.hm
      refine AW_rest ?_
      refine ARest_pre (q := false) (l := [_, _, _, _]) rfl (fun J hJ => ?_)
      simp -implicitDefEqProofs (disch := omega) only [hGe, hGt, hGm, hGe0, hGt0, hGm0, simprocAttr, amset, tyset, Function.comp_apply, one1, lenV, calleeOf, lateOk, belowV, aop, AV.ofValue, AV.ofCell, AV.cells, AV.flat, AV.one, arep, aBin, aConv]
      repeat refine And.intro (by omega) ?_
      refine inv_of (hJ _ _ ?_)
      have hes0 : (pE ps)[j]? = some (AV.agg [.int .i64 px, .int .i64 py], .sl (some (p.b, 0)) p.l.length none) := by
        unfold pE
        rw [List.getElem?_map, hj, ← hx, ← hy]; rfl
      refine ARest_mapOld (b := bm) (kk := .agg [.int .i64 px, .int .i64 py]) (kt := 42) (et := 22) (es := pE ps) rfl rfl rfl rfl (hGm0 _) (key_mblk tEq42 px py) hfd0 (by rw [hes0]; simp [sameInts]) (fun bs0 ck st hb1 hb2 hb3 hb4 => ?_)
      obtain ⟨M1, hM1⟩ : ∃ M1, M1 = List.set (G ++ [.cells true 4 [.int .i64 (g41 l i), .int .i64 (g42 l i), .int .i64 (g43 l i), .int .i64 (g44 l i)]]) bm (.fmap (pE ps) bs0 ck) := ⟨_, rfl⟩
      have hMm : M1[bm]? = some (.fmap (pE ps) bs0 ck) := by rw [hM1]; exact List.getElem?_set_self (by rw [List.length_append]; omega)
      have hMn : M1[G.length]? = some (.cells true 4 [.int .i64 (g41 l i), .int .i64 (g42 l i), .int .i64 (g43 l i), .int .i64 (g44 l i)]) := by rw [hM1, List.getElem?_set_ne (by omega)]; simp
      have hMp : M1[p.b]? = some (.cells true 4 (r4 p.l)) := by rw [hM1, List.getElem?_set_ne (fun e => n2 e.symm)]; exact get_app (by rw [hG]; exact get_app p3)
      have hMl : M1.length = G.length + 1 := by rw [hM1, List.length_set, List.length_append]; rfl
      have hMm0 := fun L => get_app (l := L) hMm
      have hMn0 := fun L => get_app (l := L) hMn
      have hMp0 := fun L => get_app (l := L) hMp
      rw [← hM1]
      refine ARest_pre (q := false) (l := [_, _, _]) rfl (fun J2 hJ2 => ?_)
      have hpl : p.l.length ≤ i := by have q := hC.len (List.mem_of_getElem? hj); rw [List.length_take] at q; omega
      have g'3 := (jn @hMm (jn @hMn (jn @hMp (jn @hMm0 (jn @hMn0 (jn @hMp0 (jn @r4_len (jn @r4_all @r4_one))))))))
      refine runTf g'3 ?_
      refine inv_of (hJ2 _ _ ?_)
      have hbl0 : bm < M1.length := getElem?_lt hMm
      refine ARest_store (kk := .agg [.int .i64 px, .int .i64 py]) (y := .sl (some (p.b, 0)) p.l.length none) (i := j) (st := st) (bs := bs0) (ck := ck) (es := pE ps) rfl rfl rfl rfl rfl rfl (by rw [List.getElem?_append_left (by rw [List.length_set]; exact hbl0), List.getElem?_set_ne n2]; exact hMm) hb4 hes0 hb2 hb3 ?_
      refine ARest_fin (q := false) rfl ?_
      simp -implicitDefEqProofs (disch := omega) only [simprocAttr, amset, tyset, Function.comp_apply, one1, lenV, calleeOf, lateOk, belowV, aop, AV.ofValue, AV.ofCell, AV.cells, AV.flat, AV.one, arep, aBin, aAppend, aConv]
      refine hn12 _ _ ?_
      obtain ⟨e, he⟩ : ∃ e : T4, e = (g41 l i, g42 l i, g43 l i, g44 l i) := ⟨_, rfl⟩
      have her : r4 p.l ++ [AV.int .i64 (g41 l i), .int .i64 (g42 l i), .int .i64 (g43 l i), .int .i64 (g44 l i)] = r4 (p.l ++ [e]) := by rw [r4_append, he]; rfl
      have hes : List.set (α := AV × AV) (pE ps) j (.agg [.int .i64 px, .int .i64 py], .sl (some (M1.length, 0)) (p.l.length + 1) none) = pE (ps.set j ⟨px, py, M1.length, p.l ++ [e]⟩) := by
        unfold pE
        rw [List.map_set]
        simp [pkE, pkv]
      obtain ⟨M2, hM2⟩ : ∃ M2, M2 = List.set (M1.set p.b .dead ++ [.cells true 4 (r4 (p.l ++ [e]))]) bm (.map (pE (ps.set j ⟨px, py, M1.length, p.l ++ [e]⟩))) := ⟨_, rfl⟩
      rw [hes, her, ← hM2]
      have hM2l : M2.length = M1.length + 1 := by rw [hM2, List.length_set, List.length_append, List.length_set]; rfl
      have hxb : be = Hx.length := hbe
      have keep : ∀ c x, c ≠ bm → c ≠ p.b → Hx[c]? = some x → M2[c]? = some x := fun c x hc hd hx => by
        have hcl := getElem?_lt hx
        rw [hM2, List.getElem?_set_ne (fun q => hc q.symm), List.getElem?_append_left (by rw [List.length_set]; omega), List.getElem?_set_ne (fun q => hd q.symm), hM1, List.getElem?_set_ne (fun q => hc q.symm)]
        exact get_app (by rw [hG]; exact get_app hx)
      have hjl := getElem?_lt hj
      have hget : ∀ k q, (ps.set j ⟨px, py, M1.length, p.l ++ [e]⟩)[k]? = some q → (k = j ∧ q = ⟨px, py, M1.length, p.l ++ [e]⟩) ∨ (k ≠ j ∧ ps[k]? = some q) := fun k q hk => by
        rw [List.getElem?_set] at hk
        by_cases h : j = k
        · subst h
          simp only [if_true, if_pos hjl, Option.some.injEq] at hk
          exact .inl ⟨rfl, hk.symm⟩
        rw [if_neg h] at hk
        exact .inr ⟨fun q => h q.symm, hk⟩
      have hpbo : p.b ≠ bo := n1
      have hI2 : PkI H M2 bm bo (ps.set j ⟨px, py, M1.length, p.l ++ [e]⟩) ord := by
        have hN : Hx.length ≤ M2.length := by omega
        refine hI.step (fun c => c = p.b) (fun c h => by rw [h]; exact p1) hN (fun c x h1 h2 h3 h4 => keep c x h2 h3 h4) ?_ hI.lo (by rw [hM2]; exact List.getElem?_set_self (by rw [List.length_append, List.length_set]; omega)) ?_ (fun k q hk => ?_) (fun k1 k2 q1 q2 hk1 hk2 hb => ?_)
        · have b1 : ∀ p ∈ ps, p.b < M2.length := fun p hp => by have := hI.blt p hp; omega
          have b2 : ∀ q ∈ ps.set j ⟨px, py, M1.length, p.l ++ [e]⟩, q.b < M2.length := fun q hq => by
            obtain ⟨k, hk⟩ := List.mem_iff_getElem?.1 hq
            rcases hget k q hk with ⟨-, r⟩ | ⟨-, r⟩
            · rw [r]; show M1.length < _; omega
            exact b1 q (List.mem_of_getElem? r)
          have k0 : HBel M2.length G := by
            rw [hG]
            exact (hI.bel.up hN).app (fun x hx => by
              simp only [List.mem_cons, List.not_mem_nil, or_false] at hx
              rcases hx with rfl | rfl <;> rfl)
          have k2 : HBel M2.length M1 := by
            rw [hM1]
            exact (k0.app (fun x hx => by rw [List.mem_singleton.1 hx]; rfl)).put bm (bel_es (pE_bel b1)).2
          have k3 : HBel M2.length (M1.set p.b .dead ++ [.cells true 4 (r4 (p.l ++ [e]))]) := (k2.put p.b (x := .dead) rfl).app (fun x hx => by rw [List.mem_singleton.1 hx]; exact bels_r4)
          have := k3.put bm (bel_es (bs := []) (ck := 0) (pE_bel b2)).1
          rw [← hM2] at this
          exact this
        · exact keep _ _ (fun e => by have := hI.hm; rw [← e, hI.ho] at this; cases this) (fun e => hpbo e.symm) hI.ho
        · rcases hget k q hk with ⟨-, r⟩ | ⟨h1, r⟩
          · rw [r]
            refine ⟨by have := hI.len; show H.length ≤ M1.length; omega, by show 0 < (p.l ++ [e]).length; simp, ?_⟩
            show M2[M1.length]? = _
            rw [hM2, List.getElem?_set_ne (by omega), List.getElem?_append_right (by rw [List.length_set]; exact Nat.le_refl _), List.length_set, Nat.sub_self]; rfl
          obtain ⟨a1, a2, a3⟩ := hI.hp k q r
          obtain ⟨c1, c2, c3⟩ := hI.pne r
          exact ⟨a1, a2, keep _ _ c2 (fun e => h1 (hI.inj k j q p r hj e)) a3⟩
        rcases hget k1 q1 hk1 with ⟨s1, r1⟩ | ⟨s1, r1⟩ <;> rcases hget k2 q2 hk2 with ⟨s2, r2⟩ | ⟨s2, r2⟩
        · rw [s1, s2]
        · have h1 := (hI.pne r2).2.2
          rw [← hb, r1] at h1
          have : M1.length < Hx.length := h1
          omega
        · have h1 := (hI.pne r1).2.2
          rw [hb, r2] at h1
          have : M1.length < Hx.length := h1
          omega
        exact hI.inj k1 k2 q1 q2 r1 r2 hb
      have htk : l.take (i + 1) = l.take i ++ [e] := by rw [List.take_succ_eq_append_getElem hlt, ← g4_eq hlt, he]
      have hC2 : PkC (ps.set j ⟨px, py, M1.length, p.l ++ [e]⟩) ord (l.take (i + 1)) := by rw [htk]; exact hC.more _ (by rw [hpx, he]) (by rw [hpy, he]) hj hx hy
      refine hn11 _ _ ?_
      refine fnF ?_
      simp -implicitDefEqProofs (disch := omega) only [simprocAttr, amset, tyset, Function.comp_apply, one1, lenV, calleeOf, lateOk, belowV, aop, AV.ofValue, AV.ofCell, AV.cells, AV.flat, AV.one, arep, aBin, aAppend, aConv]
      repeat refine And.intro (by omega) ?_
      have hb1 := hI2.lm
      have hb2 := getElem?_lt hI2.hm
      have hb3 := getElem?_lt hI2.ho
      refine hJ8 _ _ ⟨k0 - 1, by omega, _, _, _, ⟨i + 1, bm, _, _, _, by omega, by omega, hC2, hI2, rfl⟩, (Abs.by0 hI2.bel ?_).le hI2.len⟩
      exact absTf (jn @List.length_append.{0} (jn @List.length_cons.{0} (jn @List.length_nil.{0} @capG_s)))
  refine AW_cond false (by simp [aev, look]; omega) (fun h => by cases h) (fun _ => ?_)
  refine fnF ?_
  simp -implicitDefEqProofs (disch := omega) only [simprocAttr, amset, tyset, Function.comp_apply, one1, lenV, calleeOf, lateOk, belowV, aop, AV.ofValue, AV.ofCell, AV.cells, AV.flat, AV.one, arep, aBin, aAppend, aConv]
  refine he10 _ _ _ ?_
  refine he8 _ _ _ ?_
  refine hb7 _ _ ?_
  refine hn5 _ _ ?_
  rw [List.take_of_length_le (by omega)] at hC
  refine AW_seqQ fun Q20 hn20 hr20 he20 => ?_
  refine fnF ?_
  simp -implicitDefEqProofs (disch := omega) only [simprocAttr, amset, tyset, Function.comp_apply, one1, lenV, calleeOf, lateOk, belowV, aop, AV.ofValue, AV.ofCell, AV.cells, AV.flat, AV.one, arep, aBin, aAppend, aConv]
  have hpl : ∀ p ∈ ps, 0 < p.l.length := fun p hp => by
    obtain ⟨j, hj⟩ := List.mem_iff_getElem?.1 hp
    exact (hI.hp j p hj).2.1
  have hlook : ∀ (a b : AV) (t : Nat), look [(3, .sl none 0 (some 0)), (4, a), (5, b)] t = .any ∨ look [(3, .sl none 0 (some 0)), (4, a), (5, b)] t = look [(49, .tup []), (48, a), (22, .bool (decide ((i : Int) < (l.length : Int)))), (3, .sl none 0 (some 0)), (4, a), (5, b), (19, .sl (some (bs, 0)) l.length cs), (20, .int .i64 (l.length : Nat)), (21, .int .i64 (i : Nat))] t := fun a b t => by
    by_cases h3 : t = 3
    · subst h3; right; simp [look]
    by_cases h4 : t = 4
    · subst h4; right; simp [look]
    by_cases h5 : t = 5
    · subst h5; right; simp [look]
    left
    have e3 : ((3 : Nat) == t) = false := beq_eq_false_iff_ne.2 (Ne.symm h3)
    have e4 : ((4 : Nat) == t) = false := beq_eq_false_iff_ne.2 (Ne.symm h4)
    have e5 : ((5 : Nat) == t) = false := beq_eq_false_iff_ne.2 (Ne.symm h5)
    simp only [look, e3, e4, e5, cond_false]
  rcases Nat.eq_zero_or_pos ord.length with h0 | h0
  · obtain rfl := List.eq_nil_of_length_eq_zero h0
    refine cv (srtc0_c _ _ 34 ⟨bo, _, _, rfl, hI.ho⟩) ?_
    simp -implicitDefEqProofs (disch := omega) only [simprocAttr, amset, tyset, Function.comp_apply, one1, lenV, calleeOf, lateOk, belowV, aop, AV.ofValue, AV.ofCell, AV.cells, AV.flat, AV.one, arep, aBin, aAppend, aConv]
    refine hn20 _ _ ?_
    have hh := hC.homs hpl (List.Perm.refl _) .nil
    have hI' := hI
    have hC' : ∀ c ∈ homs l, ∃ j p, fdQ ps c.1 c.2 = some (j, p) ∧ ps[j]? = some p ∧ p.l = l.filter (inT c.1 c.2) := fun c hc => hC.at (hh ▸ hc)
    rw [hh] at hI'
    have := pack_2 H l hl hv hbel Q hQ Hx bm bo ps hI' hC' (hb := rfl)
    rw [← hh] at this
    exact this.less (hlook _ _)
  have ho' : Hx[bo]? = some (.cells true 2 (prs ord)) := by rw [hI.ho, ownG_p h0]
  refine call_of (by kernel_rfl) (sortb_c _ bo _ ord ho' h0 (by omega)) ?_
  rintro _ _ ⟨rfl, ys, hyp, hys, rfl⟩
  simp -implicitDefEqProofs (disch := omega) only [simprocAttr, amset, tyset, Function.comp_apply, one1, lenV, calleeOf, lateOk, belowV, aop, AV.ofValue, AV.ofCell, AV.cells, AV.flat, AV.one, arep, aBin, aAppend, aConv]
  refine hn20 _ _ ?_
  have hh := hC.homs hpl hyp hys
  have hyl := hyp.length_eq
  have hI' := hI.sorted h0 hyl
  have hC' : ∀ c ∈ homs l, ∃ j p, fdQ ps c.1 c.2 = some (j, p) ∧ ps[j]? = some p ∧ p.l = l.filter (inT c.1 c.2) := fun c hc => hC.at (hyp.mem_iff.1 (hh ▸ hc))
  rw [← hyl]
  rw [hh] at hI' ⊢
  exact (pack_2 H l hl hv hbel Q hQ _ bm bo ps hI' hC' (hb := rfl)).less (hlook _ _)
/-- What both Packs give. -/
def packX (l : List T4) : List (Int × Int × List Int) × Int := if vldE l = true then (packL l, 0) else ([], 1)
theorem TAt.nil {H : AHeap} (h : HBel H.length H) : TAt H [] (.sl (some (H.length, 0)) 0 (some 0)) (H ++ [.cells false 3 []]) :=
  ⟨⟨_, rfl⟩, (h.up (by simp)).app (fun x hx => by rw [List.mem_singleton.1 hx]; rfl), [], rfl, ⟨H.length, _, _, rfl, get_new0⟩, fun e he => by cases he⟩
theorem TAt.rows {H : AHeap} {ts : List (Int × Int × List Int)} (h : HBel H.length H) (hok : tsOk ts) (hXb : ∀ x ∈ ts.map tlb, ABlk.bel (H ++ ts.map tlb).length x = true) :
    TAt H ts (.sl (some ((H ++ ts.map tlb).length, 0)) ts.length (capG ts.length)) (H ++ ts.map tlb ++ [.cells (ownG ts.length) 3 (tlR (tls H.length ts))]) := by
  have hsub : H.length + ts.length ≤ (H ++ ts.map tlb ++ ([.cells (ownG ts.length) 3 (tlR (tls H.length ts))] : AHeap)).length := by simp only [List.length_append, List.length_map]; omega
  refine ⟨⟨_, List.append_assoc ..⟩, ?_, tls H.length ts, tls_tl3, ⟨(H ++ ts.map tlb).length, _, _, by rw [tls_length], get_new0⟩, ?_⟩
  · have h1 : HBel (H ++ ts.map tlb).length (H ++ ts.map tlb) := (h.up (by rw [List.length_append]; omega)).app hXb
    exact (h1.up (by simp only [List.length_append]; omega)).app (fun x hx => by rw [List.mem_singleton.1 hx]; exact bels_tls hsub)
  rw [List.append_assoc]
  exact tls_ok hok
/-- The end of a walk that hands out tiles, and values without blocks behind them. -/
theorem end_tat {P : Program} {fn : Func} {H H' : AHeap} {L : List (Int × Int × List Int)} {R : AV → AHeap → Prop} {F : Fr} {w : AV} (hT : TAt H L w H') (vs : List AV) (hv : AV.bels 0 vs = true) (hx : aResult P fn F H' = some (.tup (w :: vs))) (hR : R (.tup (w :: vs)) H') : AEnd P fn H.length R .ret F H' := by
  refine AEnd.le (m := H'.length) ?_ (by obtain ⟨X, hX⟩ := hT.ex; rw [hX, List.length_append]; omega)
  obtain ⟨ts, -, ⟨b, o, c, rfl, hb⟩, -⟩ := hT.ts
  have hlt := getElem?_lt hb
  have q : ∀ n, (AV.tup (.sl (some (b, 0)) ts.length c :: vs)).mv (sig H'.length n []) = .tup (.sl (some (b, 0)) ts.length c :: vs) := fun n => mv_id (n := H'.length) (fun b hb => sig_lt hb) _ (by
    have := bel_up (Nat.zero_le H'.length) _ hv
    simp [AV.bel, AV.bels, hlt, this])
  refine end_byE (.inl rfl) hT.bel (l2 := []) _ hx [] rfl [] (by decide) (by rw [List.append_nil]; exact hR) ⟨?_, ?_⟩
  · rw [q]; exact W.refl _
  trivial
theorem TAt.up {H Z H' : AHeap} {L : List (Int × Int × List Int)} {w : AV} (h : TAt (H ++ Z) L w H') : TAt H L w H' := ⟨by obtain ⟨X, hX⟩ := h.ex; exact ⟨Z ++ X, by rw [hX, List.append_assoc]⟩, h.bel, h.ts⟩
/-- The end of a walk that hands out no tiles. -/
theorem end_tnil {P : Program} {fn : Func} {H H2 Z : AHeap} {R : AV → AHeap → Prop} {F : Fr} (hex : H2 = H ++ Z) (hbel : HBel H2.length H2) (vs : List AV) (hv : AV.bels 0 vs = true) (hx : aResult P fn F H2 = some (.tup (.sl none 0 (some 0) :: vs))) (hR : ∀ w H', TAt H [] w H' → R (.tup (w :: vs)) H') : AEnd P fn H.length R .ret F H2 := by
  refine AEnd.le (m := H2.length) ?_ (by rw [hex, List.length_append]; omega)
  have q : ∀ n, (AV.tup (.sl (some (H2.length, 0)) 0 (some 0) :: vs)).mv (sig H2.length n [0]) = .tup (.sl (some (H2.length, 0)) 0 (some 0) :: vs) := fun n => mv_id (n := H2.length + 1) (fun b hb => by
    rcases Nat.lt_or_ge b H2.length with h | h
    · exact sig_lt h
    · obtain rfl : b = H2.length := by omega
      rw [sig_new0]; rfl) _ (by
    have := bel_up (Nat.zero_le (H2.length + 1)) _ hv
    simp [AV.bel, AV.bels, this])
  refine end_byE (.inl rfl) hbel (l2 := [.cells false 3 []]) (.tup (.sl (some (H2.length, 0)) 0 (some 0) :: vs)) hx [.cells false 3 []] rfl [0] (by decide) (hR _ _ ?_) ⟨?_, ?_⟩
  · subst hex; exact TAt.up (TAt.nil hbel)
  · rw [q, W_tup]
    exact ⟨W_nils (by simp) (.inr rfl), Ws.refl _⟩
  exact ⟨.inr (.inl rfl), trivial⟩
theorem tpack_c (H : AHeap) (s : AV) (l : List T4) (hs : Sl H 4 s l.length (r4 l)) (hl : l.length ≤ 100000) : ACalls Try.prog 11 [s] H (fun v H' => ∃ w, v = .tup [w, .int .i64 (packX l).2] ∧ TAt H (packX l).1 w H') := by
  obtain ⟨bs, os, cs, rfl, hbs⟩ := hs
  have hbls := getElem?_lt hbs
  have hb0s := fun l => get_app (l := l) hbs
  refine AcT true Try.func11 ?_; intro hbel Q hQ
  have g'1 := (jn @hbs @hb0s)
  refine runTf g'1 ?_
  refine cvr g'1 (valid_c _ _ l (⟨_, _, _, rfl, by first | exact hb0s _ | exact hbs⟩) (by omega)) ?_
  refine cond_split (fun h1 => ?_) (fun h1 => ?_)
  · have hv : ¬ vldE l = true := by simpa using h1
    have g'2 := (jn h1 g'1)
    refine runTf g'2 ?_
    refine hQ _ _ (end_byE (.inl rfl) hbel (x1 := .tup [.sl none 0 (some 0), .int .i64 1]) (l2 := [.cells false 3 []]) (.tup [.sl (some (H.length, 0)) 0 (some 0), .int .i64 1]) (resT Try.results11) [.cells false 3 []] rfl [0] (by decide) ⟨_, by rw [packX, if_neg hv], by rw [packX, if_neg hv]; exact TAt.nil hbel⟩ ?_)
    exact absW
  have hv : vldE l = true := by simpa using h1
  have g'3 := (jn h1 g'1)
  refine runTf g'3 ?_
  refine call_of (by kernel_rfl) (pack_c _ _ l (⟨_, _, _, rfl, by first | exact hb0s _ | exact hbs⟩) (by omega) hv) ?_
  intro w H' hT
  refine runTf g'3 ?_
  exact hQ _ _ (end_tat hT [.int .i64 0] rfl (resT Try.results11) ⟨w, by rw [packX, if_pos hv], by rw [packX, if_pos hv]; exact hT⟩)
/-- A pair of counters is added. -/
def pad (p q : Int × Int) : Int × Int := (p.1 + q.1, p.2 + q.2)
/-- Counters that fit. -/
def wi (p : Int × Int) : Bool := within p.1 1099511627776 && within p.2 1099511627776
theorem sum_cnt (a b : List T4) (c : Int × Int) : cnt (lstE (addL (addL [] a) b)) c = pad (cnt a c) (cnt b c) := by
  rw [cnt_lst, cnt_addL b c (addL_nodup a (by simp)), cnt_addL a c (by simp)]
  show (0 + _ + _, 0 + _ + _) = _
  rw [Int.zero_add, Int.zero_add]; rfl
theorem sum_strict (a b : List T4) : (lstE (addL (addL [] a) b)).Pairwise befE := lst_strict (addL_nodup b (addL_nodup a (by simp)))
/-- An entry of a larger cell. -/
def shE (v : Int) (e : T4) : T4 := (e.1 / (2 ^ v.toNat), e.2.1 / (2 ^ v.toNat), e.2.2.1, e.2.2.2)
theorem pow_ok {n : Nat} (h : n ≤ 10) : IntKind.i64.wrap (1 * 2 ^ min n IntKind.i64.bits) = 2 ^ n ∧ 0 < (2 : Int) ^ n ∧ (2 : Int) ^ n ≤ 1024 := by
  rcases (by omega : n = 0 ∨ n = 1 ∨ n = 2 ∨ n = 3 ∨ n = 4 ∨ n = 5 ∨ n = 6 ∨ n = 7 ∨ n = 8 ∨ n = 9 ∨ n = 10) with rfl | rfl | rfl | rfl | rfl | rfl | rfl | rfl | rfl | rfl | rfl <;> decide
/-- tile.Reduce -/
def redR (l : List T4) (v : Int) : List T4 × Int := if vldE l = false then ([], 1) else if v < 0 ∨ 10 < v then ([], 2) else if (addL [] (l.map (shE v))).any (fun e : T4 => !(within e.2.2.1 1099511627776 && within e.2.2.2 1099511627776)) = true then ([], 2) else (lstE (addL [] (l.map (shE v))), 0)
theorem g4_sh {l : List T4} {v : Int} {i : Nat} (h : i < l.length) : g41 (l.map (shE v)) i = g41 l i / (2 ^ v.toNat) ∧ g42 (l.map (shE v)) i = g42 l i / (2 ^ v.toNat) ∧ g43 (l.map (shE v)) i = g43 l i ∧ g44 (l.map (shE v)) i = g44 l i := by
  simp [g41, g42, g43, g44, g4, List.getD_eq_getElem?_getD, h, shE]
theorem fdiv_p {n : Nat} (h : n ≤ 10) (x : Int) : Int.fdiv x (2 ^ min n IntKind.i64.bits) = x / 2 ^ n := by
  rw [Nat.min_eq_left (show n ≤ IntKind.i64.bits from Nat.le_trans h (by decide)), Int.fdiv_eq_ediv_of_nonneg]
  exact Int.le_of_lt (pow_ok h).2.1
theorem cn_step {S rem r1 r2 : List T4} {x : T4} (h : ∀ e ∈ S, (fun e : T4 => !(within e.2.2.1 1099511627776 && within e.2.2.2 1099511627776)) e = true → e ∈ rem) (hre : rem = r1 ++ x :: r2) (hx : (fun e : T4 => !(within e.2.2.1 1099511627776 && within e.2.2.2 1099511627776)) x = false) : ∀ e ∈ S, (fun e : T4 => !(within e.2.2.1 1099511627776 && within e.2.2.2 1099511627776)) e = true → e ∈ r1 ++ r2 := fun e he hn => by
  have k := h e he hn
  rw [hre, List.mem_append, List.mem_cons] at k
  rw [List.mem_append]
  rcases k with k | k | k
  · exact .inl k
  · rw [k, hx] at hn; cases hn
  exact .inr k
theorem po_z {o D rem r1 r2 : List T4} {x : T4} (h : List.Perm (o ++ delL zerB rem) D) (hre : rem = r1 ++ x :: r2) (hz : zerB x = true) : List.Perm (o ++ delL zerB (r1 ++ r2)) D := by
  have e : delL zerB rem = delL zerB (r1 ++ r2) := by rw [hre]; unfold delL; simp [hz]
  rw [← e]; exact h
theorem po_k {o D rem r1 r2 : List T4} {x : T4} (h : List.Perm (o ++ delL zerB rem) D) (hre : rem = r1 ++ x :: r2) (hz : zerB x = false) : List.Perm ((o ++ [x]) ++ delL zerB (r1 ++ r2)) D := by
  have e : delL zerB rem = delL zerB r1 ++ x :: delL zerB r2 := by rw [hre]; unfold delL; simp [hz]
  have e2 : delL zerB (r1 ++ r2) = delL zerB r1 ++ delL zerB r2 := by unfold delL; rw [List.filter_append]
  refine List.Perm.trans ?_ h
  rw [e, e2, List.append_assoc]
  show (o ++ x :: (delL zerB r1 ++ delL zerB r2)).Perm _
  exact (List.perm_middle.symm).append_left o
theorem red_c (H : AHeap) (s : AV) (l : List T4) (lvl : Int) (hs : Sl H 4 s l.length (r4 l)) (hl : l.length ≤ 1000) : ACalls Try.prog 21 [s, iV lvl] H (fun v H' => v = .tup [.sl (some (H.length, 0)) (((redR l lvl).1).length) (capG ((redR l lvl).1).length), iV ((redR l lvl).2)] ∧ H' = H ++ [.cells (ownG ((redR l lvl).1).length) 4 (r4 ((redR l lvl).1))]) := by
  obtain ⟨bs, os, cs, rfl, hbs⟩ := hs
  have hbls := getElem?_lt hbs
  have hb0s := fun l => get_app (l := l) hbs
  obtain ⟨M, hM⟩ : ∃ M, l.map (shE lvl) = M := ⟨_, rfl⟩
  have hMl : M.length = l.length := by rw [← hM, List.length_map]
  (refine ACalls_pieces Try.func21 _ rfl (Nat.le_of_ble_eq_true (by kernel_rfl)) rfl ?_; intro hbel Q hQ hQ' c hc; unfold Try.f21 at hc; simp only [Option.some.injEq] at hc; subst hc; clear hQ')
  refine sqR hQ fun Q1 hn1 hQ1 he1 => ?_
  refine fnF ?_
  simp -implicitDefEqProofs (disch := omega) only [lk_gen, lk_mp, up_eq, de_eq, mset_nil, hbs, hb0s, aApp_nil, aApp_none, aApp_some, aApp_grw, simprocAttr, amset, tyset, Function.comp_apply, one1, lenV, calleeOf, lateOk, belowV, aop, AV.ofValue, AV.ofCell, AV.cells, AV.flat, AV.one, arep, aBin, aConv]
  repeat refine And.intro (by omega) ?_
  refine hn1 _ _ ?_
  refine sqR hQ fun Q2 hn2 hQ2 he2 => ?_
  refine fnF ?_
  simp -implicitDefEqProofs (disch := omega) only [lk_gen, lk_mp, up_eq, de_eq, mset_nil, hbs, hb0s, aApp_nil, aApp_none, aApp_some, aApp_grw, simprocAttr, amset, tyset, Function.comp_apply, one1, lenV, calleeOf, lateOk, belowV, aop, AV.ofValue, AV.ofCell, AV.cells, AV.flat, AV.one, arep, aBin, aConv]
  repeat refine And.intro (by omega) ?_
  refine cv (valid_c _ _ l (⟨_, _, _, rfl, by first | exact hb0s _ | exact hbs⟩) (by omega)) ?_
  simp -implicitDefEqProofs (disch := omega) only [lk_gen, lk_mp, up_eq, de_eq, mset_nil, hbs, hb0s, aApp_nil, aApp_none, aApp_some, aApp_grw, simprocAttr, amset, tyset, Function.comp_apply, one1, lenV, calleeOf, lateOk, belowV, aop, AV.ofValue, AV.ofCell, AV.cells, AV.flat, AV.one, arep, aBin, aConv]
  repeat refine And.intro (by omega) ?_
  refine cond_split (fun h1 => ?_) (fun h1 => ?_)
  · have h1d := bsT h1
    have hfin : redR l lvl = ([], 1) := by unfold redR; rw [if_pos h1d]
    simp -implicitDefEqProofs (disch := omega) only [lk_gen, lk_mp, up_eq, de_eq, mset_nil, hbs, hb0s, h1, h1d, aApp_nil, aApp_none, aApp_some, aApp_grw, simprocAttr, amset, tyset, Function.comp_apply, one1, lenV, calleeOf, lateOk, belowV, aop, AV.ofValue, AV.ofCell, AV.cells, AV.flat, AV.one, arep, aBin, aConv]
    repeat refine And.intro (by omega) ?_
    refine hQ2 _ _ (end_byE (.inl rfl) hbel (x1 := .tup [.sl none 0 (some 0), iV 1]) (l2 := [.cells false 4 []]) (.tup [.sl (some (H.length, 0)) 0 (some 0), iV 1]) (resT Try.results21) [.cells false 4 []] rfl [0] (by decide) ⟨by first | (rw [hfin]; done) | (rw [hfin]; rfl) | (rw [hfin]; simp only [srtE_len]; done) | (rw [hfin]; simp only [srtE_len]; rfl), by first | (rw [hfin]; done) | (rw [hfin]; rfl) | (rw [hfin]; simp only [srtE_len]; done) | (rw [hfin]; simp only [srtE_len]; rfl)⟩ ?_)
    exact absWf @mvs_r4
  have h1d := bsT h1
  have hV := vldE_iff.1 h1d
  simp -implicitDefEqProofs (disch := omega) only [lk_gen, lk_mp, up_eq, de_eq, mset_nil, hbs, hb0s, h1, h1d, aApp_nil, aApp_none, aApp_some, aApp_grw, simprocAttr, amset, tyset, Function.comp_apply, one1, lenV, calleeOf, lateOk, belowV, aop, AV.ofValue, AV.ofCell, AV.cells, AV.flat, AV.one, arep, aBin, aConv]
  repeat refine And.intro (by omega) ?_
  refine gd_split (fun h2 => ?_) (fun h2 => ?_)
  · have h2d := bsT h2
    simp -implicitDefEqProofs (disch := omega) only [lk_gen, lk_mp, up_eq, de_eq, mset_nil, hbs, hb0s, h1, h1d, h2, h2d, aApp_nil, aApp_none, aApp_some, aApp_grw, simprocAttr, amset, tyset, Function.comp_apply, one1, lenV, calleeOf, lateOk, belowV, aop, AV.ofValue, AV.ofCell, AV.cells, AV.flat, AV.one, arep, aBin, aConv]
    repeat refine And.intro (by omega) ?_
    refine cond_split (fun h3 => ?_) (fun h3 => ?_)
    · have h3d := bsT h3
      have hfin : redR l lvl = ([], 2) := by unfold redR; rw [if_neg (by rw [vldE_iff.2 hV]; decide), if_pos (by omega)]
      simp -implicitDefEqProofs (disch := omega) only [lk_gen, lk_mp, up_eq, de_eq, mset_nil, hbs, hb0s, h1, h1d, h2, h2d, h3, h3d, aApp_nil, aApp_none, aApp_some, aApp_grw, simprocAttr, amset, tyset, Function.comp_apply, one1, lenV, calleeOf, lateOk, belowV, aop, AV.ofValue, AV.ofCell, AV.cells, AV.flat, AV.one, arep, aBin, aConv]
      repeat refine And.intro (by omega) ?_
      refine hQ2 _ _ (end_byE (.inl rfl) hbel (x1 := .tup [.sl none 0 (some 0), iV 2]) (l2 := [.cells false 4 []]) (.tup [.sl (some (H.length, 0)) 0 (some 0), iV 2]) (resT Try.results21) [.cells false 4 []] rfl [0] (by decide) ⟨by first | (rw [hfin]; done) | (rw [hfin]; rfl) | (rw [hfin]; simp only [srtE_len]; done) | (rw [hfin]; simp only [srtE_len]; rfl), by first | (rw [hfin]; done) | (rw [hfin]; rfl) | (rw [hfin]; simp only [srtE_len]; done) | (rw [hfin]; simp only [srtE_len]; rfl)⟩ ?_)
      exact absWf @mvs_r4
    have h3d := bsT h3
    have hpw := pow_ok (n := lvl.toNat) (by omega)
    have hsfs := fdiv_p (n := lvl.toNat) (by omega)
    have hp1 := hpw.2.1
    have hp2 := hpw.2.2
    simp -implicitDefEqProofs (disch := omega) only [lk_gen, lk_mp, up_eq, de_eq, mset_nil, hbs, hb0s, h1, h1d, h2, h2d, h3, h3d, hsfs, aApp_nil, aApp_none, aApp_some, aApp_grw, simprocAttr, amset, tyset, Function.comp_apply, one1, lenV, calleeOf, lateOk, belowV, aop, AV.ofValue, AV.ofCell, AV.cells, AV.flat, AV.one, arep, aBin, aConv]
    repeat refine And.intro (by omega) ?_
    refine hn2 _ _ ?_
    refine sqR hQ fun Q3 hn3 hQ3 he3 => ?_
    refine fnF ?_
    simp -implicitDefEqProofs (disch := omega) only [lk_gen, lk_mp, up_eq, de_eq, mset_nil, hbs, hb0s, h1, h1d, h2, h2d, h3, h3d, hsfs, aApp_nil, aApp_none, aApp_some, aApp_grw, simprocAttr, amset, tyset, Function.comp_apply, one1, lenV, calleeOf, lateOk, belowV, aop, AV.ofValue, AV.ofCell, AV.cells, AV.flat, AV.one, arep, aBin, aConv]
    repeat refine And.intro (by omega) ?_
    refine hn3 _ _ ?_
    refine sqR hQ fun Q4 hn4 hQ4 he4 => ?_
    refine fnF ?_
    simp -implicitDefEqProofs (disch := omega) only [lk_gen, lk_mp, up_eq, de_eq, mset_nil, hbs, hb0s, h1, h1d, h2, h2d, h3, h3d, hsfs, aApp_nil, aApp_none, aApp_some, aApp_grw, simprocAttr, amset, tyset, Function.comp_apply, one1, lenV, calleeOf, lateOk, belowV, aop, AV.ofValue, AV.ofCell, AV.cells, AV.flat, AV.one, arep, aBin, aConv]
    repeat refine And.intro (by omega) ?_
    refine glp (fun k F Hx => ∃ i : Nat, i + k = l.length ∧ bdE (1099511627776 * (i : Int)) (addL [] (M.take i)) ∧ F = [(1, iV lvl), (6, .mp (some (H.length))), (26, .sl (some (bs, 0)) l.length cs), (27, iV ((l.length : Nat) : Int)), (28, iV ((i : Nat) : Int))] ∧ Hx = H ++ [.map (mapE (addL [] (M.take i)))]) (l.length) ?_ ?_
    · refine ⟨_, _, _, ⟨0, by omega, (fun e he => absurd he (by simp [addL])), rfl, rfl⟩, bS hbel [0] (absWf (jn @addL_nil (jn @List.take_zero.{0} (jn @mv_mapE @mapE_nil))))⟩
    rintro k0 F Hx ⟨i, hm0, hbd, rfl, rfl⟩ J0 hJ0
    simp -implicitDefEqProofs (disch := omega) only [lk_gen, lk_mp, up_eq, de_eq, mset_nil, hbs, hb0s, h1, h1d, h2, h2d, h3, h3d, hsfs, aApp_nil, aApp_none, aApp_some, aApp_grw, simprocAttr, amset, tyset, Function.comp_apply, one1, lenV, calleeOf, lateOk, belowV, aop, AV.ofValue, AV.ofCell, AV.cells, AV.flat, AV.one, arep, aBin, aConv]
    repeat refine And.intro (by omega) ?_
    refine cond_split (fun h4 => ?_) (fun h4 => ?_)
    · have h4d := bsT h4
      have hlt : i < l.length := by omega
      have hgd := gdB_iff.1 (hV.good _ (List.getElem_mem hlt))
      have hg4 := g4_eq hlt
      rw [← hg4] at hgd
      simp only at hgd
      have hlk := bdE.lk (by omega) hbd ((g41 l i) / (2 ^ lvl.toNat)) ((g42 l i) / (2 ^ lvl.toNat))
      have hst := addL_take (l := []) (m := M) (i := i) (by omega)
      have hgs := g4_sh (v := lvl) hlt
      rw [hM] at hgs
      rw [hgs.1, hgs.2.1, hgs.2.2.1, hgs.2.2.2] at hst
      have q5 := r4_load (l := l) (j := i) (by omega)
      have qm66_l := fun l x y => lk_ment (P := Try.prog) (t := 66) (kt := 42) (et := 44) (by kernel_rfl) tEq42 (by kernel_rfl) (by kernel_rfl) l x y
      have qm66_u := fun l x y h p => up_ment (P := Try.prog) (t := 66) (kt := 42) (et := 44) (by kernel_rfl) tEq42 l x y h p
      simp -implicitDefEqProofs (disch := omega) only [lk_gen, lk_mp, up_eq, de_eq, mset_nil, hbs, hb0s, h1, h1d, h2, h2d, h3, h3d, hsfs, h4, h4d, r4_len, q5, qm66_l, qm66_u, aApp_nil, aApp_none, aApp_some, aApp_grw, simprocAttr, amset, tyset, Function.comp_apply, one1, lenV, calleeOf, lateOk, belowV, aop, AV.ofValue, AV.ofCell, AV.cells, AV.flat, AV.one, arep, aBin, aConv]
      repeat refine And.intro (by omega) ?_
      refine hJ0 _ _ ⟨k0 - 1, by omega, _, _, _, ⟨i + 1, by omega, (by rw [hst]; exact (addE_bd (by omega) (by omega) hbd (C := 1099511627776) (by omega) (by omega)).mono (by omega)), rfl, rfl⟩, bS hbel [0] (absWf (jn @hst (jn @addE.eq_1 (jn @mv_mapE @mapE_nil))))⟩
    have h4d := bsT h4
    obtain rfl : i = l.length := by omega
    have hsft : List.take l.length M = M := List.take_of_length_le (by omega)
    rw [hsft] at hbd
    simp -implicitDefEqProofs (disch := omega) only [lk_gen, lk_mp, up_eq, de_eq, mset_nil, hbs, hb0s, h1, h1d, h2, h2d, h3, h3d, hsfs, h4, h4d, hsft, aApp_nil, aApp_none, aApp_some, aApp_grw, simprocAttr, amset, tyset, Function.comp_apply, one1, lenV, calleeOf, lateOk, belowV, aop, AV.ofValue, AV.ofCell, AV.cells, AV.flat, AV.one, arep, aBin, aConv]
    repeat refine And.intro (by omega) ?_
    refine hn4 _ _ ?_
    refine sqR hQ fun Q5 hn5 hQ5 he5 => ?_
    refine fnF ?_
    simp -implicitDefEqProofs (disch := omega) only [lk_gen, lk_mp, up_eq, de_eq, mset_nil, hbs, hb0s, h1, h1d, h2, h2d, h3, h3d, hsfs, h4, h4d, hsft, aApp_nil, aApp_none, aApp_some, aApp_grw, simprocAttr, amset, tyset, Function.comp_apply, one1, lenV, calleeOf, lateOk, belowV, aop, AV.ofValue, AV.ofCell, AV.cells, AV.flat, AV.one, arep, aBin, aConv]
    repeat refine And.intro (by omega) ?_
    refine hn5 _ _ ?_
    refine sqR hQ fun Q6 hn6 hQ6 he6 => ?_
    refine sqR hQ6 fun Q7 hn7 hQ7 he7 => ?_
    refine AW_rest ?_
    refine ARest_pre (q := false) (l := [_]) rfl (fun J8 hJ8 => ?_)
    simp -implicitDefEqProofs (disch := omega) only [lk_gen, lk_mp, up_eq, de_eq, mset_nil, hbs, hb0s, h1, h1d, h2, h2d, h3, h3d, hsfs, h4, h4d, hsft, aApp_nil, aApp_none, aApp_some, aApp_grw, simprocAttr, amset, tyset, Function.comp_apply, one1, lenV, calleeOf, lateOk, belowV, aop, AV.ofValue, AV.ofCell, AV.cells, AV.flat, AV.one, arep, aBin, aConv]
    repeat refine And.intro (by omega) ?_
    refine inv_of (hJ8 _ _ ?_)
    refine ARest_range (kt := 42) (e := 44) (es := mapE (addL [] (M))) rfl rfl rfl (by first | rfl | (simp; done)) (fun bs ck hbsl => ?_)
    refine ARest_fin (q := false) rfl ?_
    simp -implicitDefEqProofs (disch := omega) only [lk_gen, lk_mp, up_eq, de_eq, mset_nil, hbs, hb0s, h1, h1d, h2, h2d, h3, h3d, hsfs, h4, h4d, hsft, aApp_nil, aApp_none, aApp_some, aApp_grw, simprocAttr, amset, tyset, Function.comp_apply, one1, lenV, calleeOf, lateOk, belowV, aop, AV.ofValue, AV.ofCell, AV.cells, AV.flat, AV.one, arep, aBin, aConv]
    repeat refine And.intro (by omega) ?_
    refine hn7 _ _ ?_
    refine bkR hQ6 fun Q9 hn9 hQ9 he9 hb9 => ?_
    refine AW_loopA (fun k F Hx => ∃ sn : List Nat, ∃ rem : List T4, ∃ o : List T4, k = rem.length ∧ leftE (mapE (addL [] (M))) bs sn = mapE rem ∧ List.Perm (o ++ delL zerB rem) (delL zerB (addL [] (M))) ∧ (∀ e ∈ addL [] (M), (fun e : T4 => !(within e.2.2.1 1099511627776 && within e.2.2.2 1099511627776)) e = true → e ∈ rem) ∧ o.length + rem.length ≤ 1000 ∧ F = [(11, .sl (some (H.length + 2, 0)) o.length (capG o.length)), (62, .ptr (some (H.length + 1, 0)))] ∧ Hx = H ++ [.fmap (mapE (addL [] (M))) bs ck, .iter (H.length) bs sn ck, .cells (ownG o.length) 4 (r4 o)]) ((addL [] (M)).length) ?_ ?_
    · refine ⟨_, _, _, ⟨[], (addL [] (M)), [], rfl, (leftE_all hbsl.symm), (List.Perm.refl _), (fun e he _ => he), (by have q3 := addL_len M []; simp only [List.length_nil] at q3 ⊢; omega), rfl, rfl⟩, Abs.byG hbel [.cells false 4 []] rfl [0, 1, 2] (by decide) ?_⟩
      exact absRf (jn @mv_mapE (jn @mapE_nil (jn @r4_append (jn @r4_cons (jn @r4_nil @mvs_r4)))))
    rintro k1 F Hx ⟨sn, rem, o, hm1, hrem, hpo, hcn, hol, rfl, rfl⟩ Q10 hJ1 hr10 he10
    have hQ10 := fun F H' h => hr10 F H' (hQ9 F H' h)
    refine sqR hQ10 fun Q11 hn11 hQ11 he11 => ?_
    refine AW_rest ?_
    refine ARest_next (m := H.length) (bs := bs) (sn := sn) (ck := ck) (es := mapE (addL [] (M))) rfl rfl rfl (by first | rfl | (simp; done)) (by first | rfl | (simp; done)) (fun hlz => ?_) (fun l1 x l2 sx jx hxe hxs hl1 hl2 => ?_)
    · have hr0 : rem = [] := by have q := hrem.symm.trans hlz; unfold mapE at q; simpa using q
      rw [hr0] at hpo hcn
      have hpo2 : List.Perm o (delL zerB (addL [] (M))) := by have q := hpo; simpa [delL] using q
      have hsn := addL_nodup M (l := []) (by simp)
      have hnd : (o.map cel).Nodup := (hpo2.map cel).nodup_iff.2 (delL_nodup hsn)
      have hol2 : o.length ≤ 1000 := by have q1 := hpo2.length_eq; have q2 := delL_le (p := zerB) (l := addL [] (M)); have q3 := addL_len M []; simp only [List.length_nil] at q3; omega
      have hfin : redR l lvl = (srtE o, 0) := by unfold redR; rw [if_neg (by rw [vldE_iff.2 hV]; decide), if_neg (by omega), hM, if_neg (fun q => by obtain ⟨e, he, hn⟩ := List.any_eq_true.1 q; have := hcn e he hn; cases this)]; unfold lstE; rw [srtE_congr hpo2.symm (delL_nodup hsn)]
      refine ARest_fin (q := false) rfl ?_
      simp -implicitDefEqProofs (disch := omega) only [lk_gen, lk_mp, up_eq, de_eq, mset_nil, hbs, hb0s, h1, h1d, h2, h2d, h3, h3d, hsfs, h4, h4d, hsft, r4_len, r4_one, aApp_nil, aApp_none, aApp_some, aApp_grw, simprocAttr, amset, tyset, Function.comp_apply, one1, lenV, calleeOf, lateOk, belowV, aop, AV.ofValue, AV.ofCell, AV.cells, AV.flat, AV.one, arep, aBin, aConv]
      repeat refine And.intro (by omega) ?_
      refine hn11 _ _ ?_
      refine sqR hQ10 fun Q12 hn12 hQ12 he12 => ?_
      refine fnF ?_
      simp -implicitDefEqProofs (disch := omega) only [lk_gen, lk_mp, up_eq, de_eq, mset_nil, hbs, hb0s, h1, h1d, h2, h2d, h3, h3d, hsfs, h4, h4d, hsft, r4_len, r4_one, aApp_nil, aApp_none, aApp_some, aApp_grw, simprocAttr, amset, tyset, Function.comp_apply, one1, lenV, calleeOf, lateOk, belowV, aop, AV.ofValue, AV.ofCell, AV.cells, AV.flat, AV.one, arep, aBin, aConv]
      repeat refine And.intro (by omega) ?_
      refine he12 _ _ _ ?_
      refine he10 _ _ _ ?_
      refine hb9 _ _ ?_
      refine hn6 _ _ ?_
      refine fnF ?_
      simp -implicitDefEqProofs (disch := omega) only [lk_gen, lk_mp, up_eq, de_eq, mset_nil, hbs, hb0s, h1, h1d, h2, h2d, h3, h3d, hsfs, h4, h4d, hsft, r4_len, r4_one, aApp_nil, aApp_none, aApp_some, aApp_grw, simprocAttr, amset, tyset, Function.comp_apply, one1, lenV, calleeOf, lateOk, belowV, aop, AV.ofValue, AV.ofCell, AV.cells, AV.flat, AV.one, arep, aBin, aConv]
      repeat refine And.intro (by omega) ?_
      refine cv (sortr_k _ _ _ _ o [] (by rw [List.append_nil]; first | rfl | (simp; done)) (fun h => ownG_p h) hnd (by omega)) ?_
      simp -implicitDefEqProofs (disch := omega) only [lk_gen, lk_mp, up_eq, de_eq, mset_nil, hbs, hb0s, h1, h1d, h2, h2d, h3, h3d, hsfs, h4, h4d, hsft, r4_len, r4_one, aApp_nil, aApp_none, aApp_some, aApp_grw, simprocAttr, amset, tyset, Function.comp_apply, one1, lenV, calleeOf, lateOk, belowV, aop, AV.ofValue, AV.ofCell, AV.cells, AV.flat, AV.one, arep, aBin, aConv]
      repeat refine And.intro (by omega) ?_
      refine hQ _ _ (end_byG (.inl rfl) hbel (x1 := .tup [.sl (some (H.length + 2, 0)) o.length (capG o.length), iV 0]) (l2 := [.cells (ownG o.length) 4 (r4 (srtE o))]) (.tup [.sl (some (H.length, 0)) o.length (capG o.length), iV 0]) (resT Try.results21) [] rfl [2] (by decide) ⟨by first | (rw [hfin]; done) | (rw [hfin]; rfl) | (rw [hfin]; simp only [srtE_len]; done) | (rw [hfin]; simp only [srtE_len]; rfl), by first | (rw [hfin]; done) | (rw [hfin]; rfl) | (rw [hfin]; simp only [srtE_len]; done) | (rw [hfin]; simp only [srtE_len]; rfl)⟩ ?_)
      exact absWf @mvs_r4
    obtain ⟨r1, ⟨ex, ey, eh, ep⟩, r2, hre, rfl, rfl, rfl⟩ := mapE_cons (hrem.symm.trans hl1)
    have heS := mapE_mem hxe
    refine ARest_fin (q := false) rfl ?_
    simp -implicitDefEqProofs (disch := omega) only [lk_gen, lk_mp, up_eq, de_eq, mset_nil, hbs, hb0s, h1, h1d, h2, h2d, h3, h3d, hsfs, h4, h4d, hsft, r4_len, r4_one, mkE.eq_1, aApp_nil, aApp_none, aApp_some, aApp_grw, simprocAttr, amset, tyset, Function.comp_apply, one1, lenV, calleeOf, lateOk, belowV, aop, AV.ofValue, AV.ofCell, AV.cells, AV.flat, AV.one, arep, aBin, aConv]
    repeat refine And.intro (by omega) ?_
    refine hn11 _ _ ?_
    refine sqR hQ10 fun Q13 hn13 hQ13 he13 => ?_
    refine fnF ?_
    simp -implicitDefEqProofs (disch := omega) only [lk_gen, lk_mp, up_eq, de_eq, mset_nil, hbs, hb0s, h1, h1d, h2, h2d, h3, h3d, hsfs, h4, h4d, hsft, r4_len, r4_one, mkE.eq_1, aApp_nil, aApp_none, aApp_some, aApp_grw, simprocAttr, amset, tyset, Function.comp_apply, one1, lenV, calleeOf, lateOk, belowV, aop, AV.ofValue, AV.ofCell, AV.cells, AV.flat, AV.one, arep, aBin, aConv]
    repeat refine And.intro (by omega) ?_
    refine hn13 _ _ ?_
    refine bkR hQ10 fun Q14 hn14 hQ14 he14 hb14 => ?_
    refine sqR hQ14 fun Q15 hn15 hQ15 he15 => ?_
    refine AW_rest ?_
    refine ARest_entry (m := H.length) (bs := bs) (sn := sn) (ck := ck) (es := mapE (addL [] (M))) rfl rfl rfl (by first | rfl | (simp; done)) (by first | rfl | (simp; done)) hxe hxs ?_
    refine ARest_fin (q := false) rfl ?_
    simp -implicitDefEqProofs (disch := omega) only [lk_gen, lk_mp, up_eq, de_eq, mset_nil, hbs, hb0s, h1, h1d, h2, h2d, h3, h3d, hsfs, h4, h4d, hsft, r4_len, r4_one, mkE.eq_1, aApp_nil, aApp_none, aApp_some, aApp_grw, simprocAttr, amset, tyset, Function.comp_apply, one1, lenV, calleeOf, lateOk, belowV, aop, AV.ofValue, AV.ofCell, AV.cells, AV.flat, AV.one, arep, aBin, aConv]
    repeat refine And.intro (by omega) ?_
    refine hn15 _ _ ?_
    refine fnF ?_
    simp -implicitDefEqProofs (disch := omega) only [lk_gen, lk_mp, up_eq, de_eq, mset_nil, hbs, hb0s, h1, h1d, h2, h2d, h3, h3d, hsfs, h4, h4d, hsft, r4_len, r4_one, mkE.eq_1, aApp_nil, aApp_none, aApp_some, aApp_grw, simprocAttr, amset, tyset, Function.comp_apply, one1, lenV, calleeOf, lateOk, belowV, aop, AV.ofValue, AV.ofCell, AV.cells, AV.flat, AV.one, arep, aBin, aConv]
    repeat refine And.intro (by omega) ?_
    refine cv (tsize_c _ _ _ (by decide)) ?_
    simp -implicitDefEqProofs (disch := omega) only [lk_gen, lk_mp, up_eq, de_eq, mset_nil, hbs, hb0s, h1, h1d, h2, h2d, h3, h3d, hsfs, h4, h4d, hsft, r4_len, r4_one, mkE.eq_1, aApp_nil, aApp_none, aApp_some, aApp_grw, simprocAttr, amset, tyset, Function.comp_apply, one1, lenV, calleeOf, lateOk, belowV, aop, AV.ofValue, AV.ofCell, AV.cells, AV.flat, AV.one, arep, aBin, aConv]
    repeat refine And.intro (by omega) ?_
    refine gd_split (fun h6 => ?_) (fun h6 => ?_)
    · have h6d := bsT h6
      simp -implicitDefEqProofs (disch := omega) only [lk_gen, lk_mp, up_eq, de_eq, mset_nil, hbs, hb0s, h1, h1d, h2, h2d, h3, h3d, hsfs, h4, h4d, hsft, r4_len, r4_one, mkE.eq_1, h6, h6d, aApp_nil, aApp_none, aApp_some, aApp_grw, simprocAttr, amset, tyset, Function.comp_apply, one1, lenV, calleeOf, lateOk, belowV, aop, AV.ofValue, AV.ofCell, AV.cells, AV.flat, AV.one, arep, aBin, aConv]
      repeat refine And.intro (by omega) ?_
      refine cv (tsize_c _ _ _ (by decide)) ?_
      simp -implicitDefEqProofs (disch := omega) only [lk_gen, lk_mp, up_eq, de_eq, mset_nil, hbs, hb0s, h1, h1d, h2, h2d, h3, h3d, hsfs, h4, h4d, hsft, r4_len, r4_one, mkE.eq_1, h6, h6d, aApp_nil, aApp_none, aApp_some, aApp_grw, simprocAttr, amset, tyset, Function.comp_apply, one1, lenV, calleeOf, lateOk, belowV, aop, AV.ofValue, AV.ofCell, AV.cells, AV.flat, AV.one, arep, aBin, aConv]
      repeat refine And.intro (by omega) ?_
      refine cond_split (fun h7 => ?_) (fun h7 => ?_)
      · have h7d := bsT h7
        have hfin : redR l lvl = ([], 2) := by unfold redR; rw [if_neg (by rw [vldE_iff.2 hV]; decide), if_neg (by omega), hM, if_pos (List.any_eq_true.2 ⟨(ex, ey, eh, ep), heS, by simp [h7d]⟩)]
        simp -implicitDefEqProofs (disch := omega) only [lk_gen, lk_mp, up_eq, de_eq, mset_nil, hbs, hb0s, h1, h1d, h2, h2d, h3, h3d, hsfs, h4, h4d, hsft, r4_len, r4_one, mkE.eq_1, h6, h6d, h7, h7d, aApp_nil, aApp_none, aApp_some, aApp_grw, simprocAttr, amset, tyset, Function.comp_apply, one1, lenV, calleeOf, lateOk, belowV, aop, AV.ofValue, AV.ofCell, AV.cells, AV.flat, AV.one, arep, aBin, aConv]
        repeat refine And.intro (by omega) ?_
        refine hQ14 _ _ (end_byG (.inl rfl) hbel (x1 := .tup [.sl none 0 (some 0), iV 2]) (l2 := [.cells false 4 []]) (.tup [.sl (some (H.length, 0)) 0 (some 0), iV 2]) (resT Try.results21) [.cells false 4 []] rfl [4] (by decide) ⟨by first | (rw [hfin]; done) | (rw [hfin]; rfl) | (rw [hfin]; simp only [srtE_len]; done) | (rw [hfin]; simp only [srtE_len]; rfl), by first | (rw [hfin]; done) | (rw [hfin]; rfl) | (rw [hfin]; simp only [srtE_len]; done) | (rw [hfin]; simp only [srtE_len]; rfl)⟩ ?_)
        exact absWf @mvs_r4
      have h7d := bsT h7
      have hnx : (fun e : T4 => !(within e.2.2.1 1099511627776 && within e.2.2.2 1099511627776)) (ex, ey, eh, ep) = false := by simp; exact ⟨by assumption, h7d⟩
      simp -implicitDefEqProofs (disch := omega) only [lk_gen, lk_mp, up_eq, de_eq, mset_nil, hbs, hb0s, h1, h1d, h2, h2d, h3, h3d, hsfs, h4, h4d, hsft, r4_len, r4_one, mkE.eq_1, h6, h6d, h7, h7d, aApp_nil, aApp_none, aApp_some, aApp_grw, simprocAttr, amset, tyset, Function.comp_apply, one1, lenV, calleeOf, lateOk, belowV, aop, AV.ofValue, AV.ofCell, AV.cells, AV.flat, AV.one, arep, aBin, aConv]
      repeat refine And.intro (by omega) ?_
      refine gd_split (fun h8 => ?_) (fun h8 => ?_)
      · have h8d := bsT h8
        have h8n := bnT h8
        simp -implicitDefEqProofs (disch := omega) only [lk_gen, lk_mp, up_eq, de_eq, mset_nil, hbs, hb0s, h1, h1d, h2, h2d, h3, h3d, hsfs, h4, h4d, hsft, r4_len, r4_one, mkE.eq_1, h6, h6d, h7, h7d, h8, h8n, int_bne, int_beq, aApp_nil, aApp_none, aApp_some, aApp_grw, simprocAttr, amset, tyset, Function.comp_apply, one1, lenV, calleeOf, lateOk, belowV, aop, AV.ofValue, AV.ofCell, AV.cells, AV.flat, AV.one, arep, aBin, aConv]
        repeat refine And.intro (by omega) ?_
        refine cond_split (fun h9 => ?_) (fun h9 => ?_)
        · have h9d := bsT h9
          have h9n := bnT h9
          simp -implicitDefEqProofs (disch := omega) only [lk_gen, lk_mp, up_eq, de_eq, mset_nil, hbs, hb0s, h1, h1d, h2, h2d, h3, h3d, hsfs, h4, h4d, hsft, r4_len, r4_one, mkE.eq_1, h6, h6d, h7, h7d, h8, h8n, int_bne, int_beq, h9, h9n, prs_len, capG_s, aApp_nil, aApp_none, aApp_some, aApp_grw, simprocAttr, amset, tyset, Function.comp_apply, one1, lenV, calleeOf, lateOk, belowV, aop, AV.ofValue, AV.ofCell, AV.cells, AV.flat, AV.one, arep, aBin, aConv]
          repeat refine And.intro (by omega) ?_
          refine hn14 _ _ ?_
          have hrl : rem.length = (r1 ++ r2).length + 1 := by rw [hre]; simp; omega
          refine hJ1 _ _ ⟨(r1 ++ r2).length, by omega, _, _, _, ⟨(sn ++ [sx]), (r1 ++ r2), (o ++ [(ex, ey, eh, ep)]), rfl, (hl2.trans (by unfold mapE; rw [List.map_append])), (po_k hpo hre (by unfold zerB; simp; omega)), (cn_step hcn hre hnx), (by simp only [List.length_append, List.length_cons, List.length_nil] at hrl ⊢; omega), rfl, rfl⟩, bS hbel [0, 1, 5] (absRf (jn @mv_mapE (jn @mapE_nil (jn @r4_append (jn @r4_cons (jn @r4_nil @mvs_r4))))))⟩
        have h9d := bsT h9
        have h9n := bnT h9
        simp -implicitDefEqProofs (disch := omega) only [lk_gen, lk_mp, up_eq, de_eq, mset_nil, hbs, hb0s, h1, h1d, h2, h2d, h3, h3d, hsfs, h4, h4d, hsft, r4_len, r4_one, mkE.eq_1, h6, h6d, h7, h7d, h8, h8n, int_bne, int_beq, h9, h9n, aApp_nil, aApp_none, aApp_some, aApp_grw, simprocAttr, amset, tyset, Function.comp_apply, one1, lenV, calleeOf, lateOk, belowV, aop, AV.ofValue, AV.ofCell, AV.cells, AV.flat, AV.one, arep, aBin, aConv]
        repeat refine And.intro (by omega) ?_
        refine hn14 _ _ ?_
        have hrl : rem.length = (r1 ++ r2).length + 1 := by rw [hre]; simp; omega
        refine hJ1 _ _ ⟨(r1 ++ r2).length, by omega, _, _, _, ⟨(sn ++ [sx]), (r1 ++ r2), (o), rfl, (hl2.trans (by unfold mapE; rw [List.map_append])), (po_z hpo hre (by unfold zerB; simp; omega)), (cn_step hcn hre hnx), (by simp only [List.length_append, List.length_cons, List.length_nil] at hrl ⊢; omega), rfl, rfl⟩, bS hbel [0, 1, 2] (absRf (jn @mv_mapE (jn @mapE_nil (jn @r4_append (jn @r4_cons (jn @r4_nil @mvs_r4))))))⟩
      have h8d := bsT h8
      have h8n := bnT h8
      simp -implicitDefEqProofs (disch := omega) only [lk_gen, lk_mp, up_eq, de_eq, mset_nil, hbs, hb0s, h1, h1d, h2, h2d, h3, h3d, hsfs, h4, h4d, hsft, r4_len, r4_one, mkE.eq_1, h6, h6d, h7, h7d, h8, h8n, int_bne, int_beq, prs_len, capG_s, aApp_nil, aApp_none, aApp_some, aApp_grw, simprocAttr, amset, tyset, Function.comp_apply, one1, lenV, calleeOf, lateOk, belowV, aop, AV.ofValue, AV.ofCell, AV.cells, AV.flat, AV.one, arep, aBin, aConv]
      repeat refine And.intro (by omega) ?_
      refine hn14 _ _ ?_
      have hrl : rem.length = (r1 ++ r2).length + 1 := by rw [hre]; simp; omega
      refine hJ1 _ _ ⟨(r1 ++ r2).length, by omega, _, _, _, ⟨(sn ++ [sx]), (r1 ++ r2), (o ++ [(ex, ey, eh, ep)]), rfl, (hl2.trans (by unfold mapE; rw [List.map_append])), (po_k hpo hre (by unfold zerB; simp; omega)), (cn_step hcn hre hnx), (by simp only [List.length_append, List.length_cons, List.length_nil] at hrl ⊢; omega), rfl, rfl⟩, bS hbel [0, 1, 5] (absRf (jn @mv_mapE (jn @mapE_nil (jn @r4_append (jn @r4_cons (jn @r4_nil @mvs_r4))))))⟩
    have h6d := bsT h6
    have hfin : redR l lvl = ([], 2) := by unfold redR; rw [if_neg (by rw [vldE_iff.2 hV]; decide), if_neg (by omega), hM, if_pos (List.any_eq_true.2 ⟨(ex, ey, eh, ep), heS, by simp [h6d]⟩)]
    simp -implicitDefEqProofs (disch := omega) only [lk_gen, lk_mp, up_eq, de_eq, mset_nil, hbs, hb0s, h1, h1d, h2, h2d, h3, h3d, hsfs, h4, h4d, hsft, r4_len, r4_one, mkE.eq_1, h6, h6d, aApp_nil, aApp_none, aApp_some, aApp_grw, simprocAttr, amset, tyset, Function.comp_apply, one1, lenV, calleeOf, lateOk, belowV, aop, AV.ofValue, AV.ofCell, AV.cells, AV.flat, AV.one, arep, aBin, aConv]
    repeat refine And.intro (by omega) ?_
    refine hQ14 _ _ (end_byG (.inl rfl) hbel (x1 := .tup [.sl none 0 (some 0), iV 2]) (l2 := [.cells false 4 []]) (.tup [.sl (some (H.length, 0)) 0 (some 0), iV 2]) (resT Try.results21) [.cells false 4 []] rfl [4] (by decide) ⟨by first | (rw [hfin]; done) | (rw [hfin]; rfl) | (rw [hfin]; simp only [srtE_len]; done) | (rw [hfin]; simp only [srtE_len]; rfl), by first | (rw [hfin]; done) | (rw [hfin]; rfl) | (rw [hfin]; simp only [srtE_len]; done) | (rw [hfin]; simp only [srtE_len]; rfl)⟩ ?_)
    exact absWf @mvs_r4
  have h2d := bsT h2
  have hfin : redR l lvl = ([], 2) := by unfold redR; rw [if_neg (by rw [vldE_iff.2 hV]; decide), if_pos (by omega)]
  simp -implicitDefEqProofs (disch := omega) only [lk_gen, lk_mp, up_eq, de_eq, mset_nil, hbs, hb0s, h1, h1d, h2, h2d, aApp_nil, aApp_none, aApp_some, aApp_grw, simprocAttr, amset, tyset, Function.comp_apply, one1, lenV, calleeOf, lateOk, belowV, aop, AV.ofValue, AV.ofCell, AV.cells, AV.flat, AV.one, arep, aBin, aConv]
  repeat refine And.intro (by omega) ?_
  refine hQ2 _ _ (end_byE (.inl rfl) hbel (x1 := .tup [.sl none 0 (some 0), iV 2]) (l2 := [.cells false 4 []]) (.tup [.sl (some (H.length, 0)) 0 (some 0), iV 2]) (resT Try.results21) [.cells false 4 []] rfl [0] (by decide) ⟨by first | (rw [hfin]; done) | (rw [hfin]; rfl) | (rw [hfin]; simp only [srtE_len]; done) | (rw [hfin]; simp only [srtE_len]; rfl), by first | (rw [hfin]; done) | (rw [hfin]; rfl) | (rw [hfin]; simp only [srtE_len]; done) | (rw [hfin]; simp only [srtE_len]; rfl)⟩ ?_)
  exact absWf @mvs_r4
theorem com_ok {a b : List T4} (h : (comR a b).2 = 0) : (vldE a && vldE b) = true ∧ (lstE (addL (addL [] a) b)).any (fun e : T4 => !(within e.2.2.1 1099511627776 && within e.2.2.2 1099511627776)) = false ∧ (comR a b).1 = lstE (addL (addL [] a) b) := by
  unfold comR at h ⊢
  by_cases h1 : (vldE a && vldE b) = true
  · rw [if_pos h1] at h ⊢
    by_cases h2 : (lstE (addL (addL [] a) b)).any (fun e : T4 => !(within e.2.2.1 1099511627776 && within e.2.2.2 1099511627776)) = true
    · rw [if_pos h2] at h; cases h
    rw [if_neg h2]; exact ⟨h1, by simpa using h2, rfl⟩
  rw [if_neg h1] at h; cases h
theorem com_vld {a b : List T4} (hab : a.length + b.length ≤ 1048576) (h : (comR a b).2 = 0) : VldE (comR a b).1 ∧ (comR a b).1.length ≤ a.length + b.length := by
  obtain ⟨h1, h2, h3⟩ := com_ok h
  rw [h3]
  rw [Bool.and_eq_true] at h1
  have ha := vldE_iff.1 h1.1
  have hb := vldE_iff.1 h1.2
  have hl : (lstE (addL (addL [] a) b)).length ≤ a.length + b.length := by
    rw [lstE_len]
    have q1 := addL_len b (addL [] a)
    have q2 := addL_len a []
    have q3 : (delL zerB (addL (addL [] a) b)).length ≤ (addL (addL [] a) b).length := delL_le
    rw [List.length_nil] at q2
    omega
  refine ⟨⟨by omega, fun e he => ?_, sum_strict a b⟩, hl⟩
  have hw : wi e.2.2 = true := by
    cases q : wi e.2.2 with
    | true => rfl
    | false =>
      have : (lstE (addL (addL [] a) b)).any (fun e : T4 => !(within e.2.2.1 1099511627776 && within e.2.2.2 1099511627776)) = true := List.any_eq_true.2 ⟨e, he, by show (!(wi e.2.2)) = true; rw [q]; rfl⟩
      rw [h2] at this; cases this
  have hz : e.2.2 ≠ (0, 0) := lst_nz _ e he
  have hc : e.2.2 = pad (cnt a (cel e)) (cnt b (cel e)) := by rw [← sum_cnt, cnt_mem (strict_nodup (sum_strict a b)) he]
  have hcell : ∃ x : T4, gdB x.1 x.2.1 x.2.2.1 x.2.2.2 = true ∧ cel x = cel e := by
    by_cases q : cel e ∈ a.map cel
    · obtain ⟨x, hx, hxe⟩ := List.mem_map.1 q
      exact ⟨x, ha.good x hx, hxe⟩
    by_cases r : cel e ∈ b.map cel
    · obtain ⟨x, hx, hxe⟩ := List.mem_map.1 r
      exact ⟨x, hb.good x hx, hxe⟩
    rw [cnt_not q, cnt_not r] at hc
    exact absurd hc hz
  obtain ⟨x, hx, hxe⟩ := hcell
  have hx' := gdB_iff.1 hx
  have e1 : x.1 = e.1 := congrArg (fun p : Int × Int => p.1) hxe
  have e2 : x.2.1 = e.2.1 := congrArg (fun p : Int × Int => p.2) hxe
  have hw' : within e.2.2.1 1099511627776 = true ∧ within e.2.2.2 1099511627776 = true := by rw [← Bool.and_eq_true]; exact hw
  rw [within_iff, within_iff] at hw'
  refine gdB_iff.2 ⟨hw'.1, hw'.2, ?_, by rw [← e1]; exact hx'.2.2.2.1, by rw [← e2]; exact hx'.2.2.2.2⟩
  by_cases q : e.2.2.1 = 0
  · right
    intro r
    exact hz (Prod.ext q r)
  exact .inl q
end Go.Proofs.Ytgfjhidfpjmmnaa
