/- Proved: the law FrontierClusters returns true on every input, and its arguments read afterwards as before. Conditions: none beyond the given row's. -/
import Derived.Test.YtcghekjnjbpeoaaG2
import Derived.Shelf.Small.Bits
import Derived.Shelf.Strconv.Itoa0
import Derived.Shelf.Bits.Mul64
import Derived.Shelf.SlSortCmp.WholeK
import Derived.Shelf.SlGeneric
import Derived.Ground.SlsfProg
import Derived.Test.YtcghekjnjbpeoaaProg
import Derived.Lib.SortBridge
import Derived.Lib.RowBridge
import Derived.Test.YtcghekjnjbpeoaaG1
import Derived.Deep.RegionHeld3
namespace Go.Proofs.Ytcghekjnjbpeoaa
set_option linter.unusedSimpArgs false
set_option linter.unusedVariables false
open Go.RowKit
def mkv (p : Int × Int) : AV × AV := (.agg [.int .i64 p.1, .int .i64 p.2], .bool true)
/-- The map of a set of cells. -/
def mset (l : List (Int × Int)) : List (AV × AV) := l.map mkv
def memP (l : List (Int × Int)) (x y : Int) : Bool := decide ((x, y) ∈ l)
theorem memP_iff {l : List (Int × Int)} {x y : Int} : memP l x y = true ↔ (x, y) ∈ l := by simp [memP]
def insP (l : List (Int × Int)) (x y : Int) : List (Int × Int) := if memP l x y = true then l else l ++ [(x, y)]
def fdP : List (Int × Int) → Int → Int → Option (Nat × AV)
  | [], _, _ => none
  | p :: r, x, y => bif ((x == p.1) && ((y == p.2) && true)) then some (0, .bool true) else (fdP r x y).map fun q => (q.1 + 1, q.2)
theorem fdP_some : ∀ {l : List (Int × Int)} {x y : Int} {q : Nat × AV}, fdP l x y = some q → (x, y) ∈ l ∧ q.2 = .bool true ∧ l[q.1]? = some (x, y) ∧ l.eraseIdx q.1 = l.erase (x, y)
  | [], _, _, _, h => by cases h
  | p :: r, x, y, q, h => by
    unfold fdP at h
    by_cases e : p = (x, y)
    · subst e
      simp only [BEq.rfl, Bool.and_true, cond_true, Option.some.injEq] at h
      subst h
      exact ⟨List.mem_cons_self .., rfl, rfl, by simp⟩
    have hb : ((x == p.1) && ((y == p.2) && true)) = false := by
      rw [Bool.eq_false_iff]
      intro hh
      simp only [Bool.and_true, Bool.and_eq_true, beq_iff_eq] at hh
      exact e (Prod.ext hh.1.symm hh.2.symm)
    rw [hb] at h
    simp only [cond_false, Option.map_eq_some_iff] at h
    obtain ⟨q', hq, rfl⟩ := h
    obtain ⟨h1, h2, h3, h4⟩ := fdP_some hq
    refine ⟨List.mem_cons_of_mem _ h1, h2, h3, ?_⟩
    rw [List.erase_cons_tail (by simpa using e)]
    show p :: r.eraseIdx q'.1 = _
    rw [h4]
theorem fdP_none : ∀ {l : List (Int × Int)} {x y : Int}, fdP l x y = none → (x, y) ∉ l
  | [], _, _, _ => by simp
  | p :: r, x, y, h => by
    unfold fdP at h
    cases hb : ((x == p.1) && ((y == p.2) && true)) with
    | true => rw [hb] at h; cases h
    | false =>
      rw [hb] at h
      simp only [cond_false, Option.map_eq_none_iff] at h
      intro hm
      rcases List.mem_cons.1 hm with e | hm
      · subst e; simp at hb
      exact fdP_none h hm
section
variable {P : Program} {kt : TypeId}
theorem find_mblk (hE : ∀ a b c d : Int, aEq P 20 kt [.int .i64 a, .int .i64 b] [.int .i64 c, .int .i64 d] = some ((a == c) && ((b == d) && true))) (x y : Int) : ∀ l : List (Int × Int), aFind P kt [.int .i64 x, .int .i64 y] (l.map mkv) = some (fdP l x y)
  | [] => rfl
  | p :: r => by
    rw [List.map_cons]
    show (aEq P 20 kt [.int .i64 x, .int .i64 y] [.int .i64 p.1, .int .i64 p.2]).bind _ = _
    rw [hE, find_mblk hE x y r]
    show _ = some (bif ((x == p.1) && ((y == p.2) && true)) then some (0, .bool true) else (fdP r x y).map fun q => (q.1 + 1, q.2))
    cases ((x == p.1) && ((y == p.2) && true)) <;> rfl
theorem key_mblk (hE : ∀ a b c d : Int, aEq P 20 kt [.int .i64 a, .int .i64 b] [.int .i64 c, .int .i64 d] = some ((a == c) && ((b == d) && true))) (x y : Int) : aKey P kt (.agg [.int .i64 x, .int .i64 y]) = some [.int .i64 x, .int .i64 y] := by
  unfold aKey
  simp only [hE, Option.bind_some, sameInts, decide_true, Bool.and_true, need, if_true, Option.map_some]
end
def lkM (P : Program) (t : TypeId) (B : Option ABlk) (k : AV) : Option AV :=
  match B with
  | some (.map es) => (tMap P t).bind fun p => (aKey P p.1 k).bind fun ks => (aFind P p.1 ks es).bind fun o => (need (tZeroOk P p.2 = true)).bind fun _ => (zeroAV P p.2).map fun z => match o with | some q => q.2 | none => z
  | _ => none
def upM (P : Program) (t : TypeId) (B : Option ABlk) (k x : AV) : Option ABlk :=
  match B with
  | some (.map es) => (tMap P t).bind fun p => (aKey P p.1 k).bind fun ks => (aFind P p.1 ks es).bind fun o =>
      match o with
      | none => some (.map (es ++ [(.agg ks, x)]))
      | some q => (need ((match es[q.1]? with | some (.agg ks', _) => sameInts ks' ks | _ => false) = true)).map fun _ => .map (es.set q.1 (.agg ks, x))
  | _ => none
def deM (P : Program) (t : TypeId) (B : Option ABlk) (k : AV) : Option ABlk :=
  match B with
  | some (.map es) => (tMap P t).bind fun p => (aKey P p.1 k).bind fun ks => (aFind P p.1 ks es).map fun o =>
      match o with
      | none => .map es
      | some q => .map (es.eraseIdx q.1)
  | _ => none
theorem lk_eq {P : Program} {t : TypeId} {b : Nat} {k : AV} {H : AHeap} : aLookup P t (.mp (some b)) k false H = lkM P t H[b]? k := by
  unfold aLookup lkM aEnts
  cases tMap P t with
  | none => simp only [Option.bind_none]; split <;> rfl
  | some p =>
    simp only [Option.bind_some]
    cases H[b]? with
    | none => rfl
    | some x => cases x <;> rfl
def lkG (P : Program) (t : TypeId) (m k : AV) (ok : Bool) (H : AHeap) : Option AV := aLookup P t m k ok H
/-- As general as the definition's own equation, and ahead of it in the list. -/
theorem lk_gen {P : Program} {t : TypeId} {m k : AV} {ok : Bool} {H : AHeap} : aLookup P t m k ok H = lkG P t m k ok H := rfl
theorem lk_mp {P : Program} {t : TypeId} {b : Nat} {k : AV} {H : AHeap} : lkG P t (.mp (some b)) k false H = lkM P t H[b]? k := lk_eq
theorem up_eq {P : Program} {t : TypeId} {b : Nat} {k x : AV} {H : AHeap} : aMapUpdate P t (.mp (some b)) k x H = (upM P t H[b]? k x).map fun y => H.set b y := by
  unfold aMapUpdate upM
  simp only
  cases H[b]? with
  | none => rfl
  | some z =>
    cases z with
    | map es =>
      simp only
      cases tMap P t with
      | none => rfl
      | some p =>
        simp only [Option.bind_some]
        cases aKey P p.1 k with
        | none => rfl
        | some ks =>
          simp only [Option.bind_some]
          cases aFind P p.1 ks es with
          | none => rfl
          | some o =>
            simp only [Option.bind_some]
            cases o with
            | none => rfl
            | some q => simp only [Option.map_map]; rfl
    | _ => rfl
theorem de_eq {P : Program} {t : TypeId} {b : Nat} {k : AV} {H : AHeap} : aDelete P t (.mp (some b)) k H = (deM P t H[b]? k).map fun y => H.set b y := by
  unfold aDelete deM
  simp only
  cases H[b]? with
  | none => rfl
  | some z =>
    cases z with
    | map es =>
      simp only
      cases tMap P t with
      | none => rfl
      | some p =>
        simp only [Option.bind_some]
        cases aKey P p.1 k with
        | none => rfl
        | some ks =>
          simp only [Option.bind_some]
          cases aFind P p.1 ks es with
          | none => rfl
          | some o => cases o <;> rfl
    | _ => rfl
section
variable {P : Program} {t kt et : TypeId} (hT : tMap P t = some (kt, et)) (hE : ∀ a b c d : Int, aEq P 20 kt [.int .i64 a, .int .i64 b] [.int .i64 c, .int .i64 d] = some ((a == c) && ((b == d) && true)))
include hT hE
theorem lk_mblk (hz : tZeroOk P et = true) (h0 : zeroAV P et = some (.bool false)) (l : List (Int × Int)) (x y : Int) : lkM P t (some (.map (mset l))) (.agg [.int .i64 x, .int .i64 y]) = some (.bool (memP l x y)) := by
  unfold lkM mset
  simp only [hT, Option.bind_some, key_mblk hE, find_mblk hE, hz, need, if_true, h0, Option.map_some]
  cases h : fdP l x y with
  | none => simp [memP, fdP_none h]
  | some q => obtain ⟨h1, h2, -⟩ := fdP_some h; simp [memP, h1, h2]
theorem up_mblk (l : List (Int × Int)) (x y : Int) : upM P t (some (.map (mset l))) (.agg [.int .i64 x, .int .i64 y]) (.bool true) = some (.map (mset (insP l x y))) := by
  unfold upM mset
  simp only [hT, Option.bind_some, key_mblk hE, find_mblk hE]
  unfold insP
  cases h : fdP l x y with
  | none =>
    have hm : memP l x y = false := by simp [memP, fdP_none h]
    rw [hm]
    simp [mkv]
  | some q =>
    obtain ⟨h1, h2, h3, -⟩ := fdP_some h
    have hm : memP l x y = true := memP_iff.2 h1
    have hg : (l.map mkv)[q.1]? = some (.agg [.int .i64 x, .int .i64 y], .bool true) := by rw [List.getElem?_map, h3]; rfl
    have hs : (l.map mkv).set q.1 (.agg [.int .i64 x, .int .i64 y], .bool true) = l.map mkv := by
      refine List.ext_getElem? fun j => ?_
      rw [List.getElem?_set]
      split
      · rename_i e; subst e
        rw [hg, if_pos (getElem?_lt hg)]
      rfl
    rw [if_pos hm]
    simp only [hg, sameInts, decide_true, Bool.and_true, need, if_true, Option.map_some, hs]
theorem de_mblk (l : List (Int × Int)) (x y : Int) : deM P t (some (.map (mset l))) (.agg [.int .i64 x, .int .i64 y]) = some (.map (mset (l.erase (x, y)))) := by
  unfold deM mset
  simp only [hT, Option.bind_some, key_mblk hE, find_mblk hE, Option.map_some]
  cases h : fdP l x y with
  | none => rw [List.erase_of_not_mem (fdP_none h)]
  | some q =>
    obtain ⟨-, -, -, h4⟩ := fdP_some h
    simp only [Option.some.injEq, ABlk.map.injEq]
    rw [← h4]
    exact erase_map mkv l q.1
end
theorem mset_nil : mset [] = [] := rfl
theorem mv_mset {σ : Nat → Nat} (l : List (Int × Int)) : List.map (fun p => (AV.mv σ p.1, AV.mv σ p.2)) (mset l) = mset l := by
  unfold mset
  rw [List.map_map]
  rfl
/-- The list's element, or none. -/
def gc (cs : List (List (Int × Int))) (a : Nat) : List (Int × Int) := cs.getD a []
theorem gc_lt {cs : List (List (Int × Int))} {a : Nat} (h : a < cs.length) : gc cs a = cs[a] := by simp [gc, List.getD_eq_getElem?_getD, h]
/-- Slices that lie block behind block, from block n on. -/
def slr : Nat → List (List (Int × Int)) → List AV
  | _, [] => []
  | n, c :: r => .sl (some (n, 0)) c.length none :: slr (n + 1) r
def cblk (c : List (Int × Int)) : ABlk := .cells true 2 (prs c)
theorem slr_nil {n : Nat} : slr n [] = [] := rfl
theorem slr_len : ∀ {n : Nat} {cs : List (List (Int × Int))}, (slr n cs).length = cs.length
  | _, [] => rfl
  | n, c :: r => by simp only [slr, List.length_cons, slr_len]
theorem slr_ones : ∀ {n : Nat} {cs : List (List (Int × Int))}, (slr n cs).all AV.one = true
  | _, [] => rfl
  | n, c :: r => by simp only [slr, List.all_cons, slr_ones, AV.one, Bool.and_true]
theorem slr_snoc {c : List (Int × Int)} : ∀ {n : Nat} {cs : List (List (Int × Int))}, slr n (cs ++ [c]) = slr n cs ++ [.sl (some (n + cs.length, 0)) c.length none]
  | n, [] => rfl
  | n, d :: r => by
    rw [List.cons_append]
    simp only [slr, slr_snoc (n := n + 1) (cs := r), List.length_cons, List.cons_append]
    rw [show n + 1 + r.length = n + (r.length + 1) by omega]
theorem slr_get : ∀ {n : Nat} {cs : List (List (Int × Int))} {i : Nat}, i < cs.length → (slr n cs)[i]? = some (.sl (some (n + i, 0)) (gc cs i).length none)
  | n, d :: r, 0, _ => rfl
  | n, d :: r, i + 1, h => by
    have := slr_get (n := n + 1) (cs := r) (i := i) (by simpa using h)
    rw [show n + 1 + i = n + (i + 1) by omega] at this
    exact this
theorem mvs_slr {m k : Nat} {sel : List Nat} : ∀ {n : Nat} {cs : List (List (Int × Int))}, n + cs.length ≤ m → AV.mvs (sig m k sel) (slr n cs) = slr n cs
  | _, [], _ => rfl
  | n, c :: r, h => by
    simp only [List.length_cons] at h
    have ih := mvs_slr (m := m) (k := k) (sel := sel) (n := n + 1) (cs := r) (by omega)
    have hs := sig_lt (n := m) (m := k) (sel := sel) (b := n) (by omega)
    simp only [slr, AV.mvs, AV.mv, ih, hs]
theorem bels_slr {m : Nat} : ∀ {n : Nat} {cs : List (List (Int × Int))}, n + cs.length ≤ m → AV.bels m (slr n cs) = true
  | _, [], _ => rfl
  | n, c :: r, h => by
    simp only [List.length_cons] at h
    have ih := bels_slr (m := m) (n := n + 1) (cs := r) (by omega)
    have hs : n < m := by omega
    simp only [slr, AV.bels, AV.bel, ih, hs, decide_true, Bool.and_true]
theorem cblk_get {H K : AHeap} {cs : List (List (Int × Int))} {i : Nat} (h : i < cs.length) : (H ++ (cs.map cblk ++ K))[H.length + i]? = some (.cells true 2 (prs (gc cs i))) := by
  rw [List.getElem?_append_right (by omega), Nat.add_sub_cancel_left, List.getElem?_append_left (by simpa using h), List.getElem?_map, List.getElem?_eq_getElem h, gc_lt h]
  rfl
theorem grow_at {H L X G : AHeap} {row : ABlk} {cs : List (List (Int × Int))} {n : Nat} (hG : G = H ++ (L ++ (X ++ [row]))) (hX : X = cs.map cblk) (hn : n = (H ++ L).length) : ∀ i, i < cs.length → G[n + i]? = some (.cells true 2 (prs (gc cs i))) := by
  intro i hi
  subst hG hX hn
  have := cblk_get (H := H ++ L) (K := [row]) hi
  rw [List.append_assoc] at this
  exact this
end Go.Proofs.Ytcghekjnjbpeoaa
namespace Go.Proofs
open Go.Shelf
def Try.lays128_ren : Go.Shelf.Ren := ⟨fun | 128 => 62 | n => n, fun | 51 => 93 | 3 => 3 | 4 => 4 | 46 => 72 | 5 => 5 | 9 => 9 | n => n, fun | n => n⟩
theorem Try.lays128 : Go.Proofs.Lays.n128 Try.prog Try.lays128_ren := {
  mixed := by kernel_rfl
  f128 := Try.func62.trans (congrArg some (by kernel_rfl))
  t3 := Try.underlying3
  a3 := Try.isAgg3
  z3 := Try.sizeOf3
  v3 := Try.zeroValue3
  t4 := Try.underlying4
  a4 := Try.isAgg4
  z4 := Try.sizeOf4
  v4 := Try.zeroValue4
  t5 := Try.underlying5
  a5 := Try.isAgg5
  z5 := Try.sizeOf5
  v5 := Try.zeroValue5
  t9 := Try.underlying9
  a9 := Try.isAgg9
  z9 := Try.sizeOf9
  v9 := Try.zeroValue9
  t46 := Try.underlying72
  a46 := Try.isAgg72
  z46 := Try.sizeOf72
  v46 := Try.zeroValue72
  t51 := Try.underlying93
  a51 := Try.isAgg93
  z51 := Try.sizeOf93
  v51 := Try.zeroValue93 }
theorem Try.bits_Len32 (x : Int) (w : World) (h0 : 0 ≤ x) (h1 : x ≤ 4294967295) :
    Calls Try.prog 62 #[.int .u32 x] w fun e w' => e = .returned (.int .i64 (Lib.bitLen x.toNat)) ∧ w' = w := Any.bits_Len32 Try.lays128 x w h0 h1
def Try.lays125_ren : Go.Shelf.Ren := ⟨fun | 125 => 44 | 128 => 62 | 129 => 63 | n => n, fun | 46 => 72 | 3 => 3 | 51 => 93 | 53 => 95 | 4 => 4 | 5 => 5 | 9 => 9 | n => n, fun | n => n⟩
theorem Try.lays125 : Go.Proofs.Lays.n125 Try.prog Try.lays125_ren := {
  mixed := by kernel_rfl
  f125 := Try.func44.trans (congrArg some (by kernel_rfl))
  f128 := Try.func62.trans (congrArg some (by kernel_rfl))
  f129 := Try.func63.trans (congrArg some (by kernel_rfl))
  t3 := Try.underlying3
  a3 := Try.isAgg3
  z3 := Try.sizeOf3
  v3 := Try.zeroValue3
  t4 := Try.underlying4
  a4 := Try.isAgg4
  z4 := Try.sizeOf4
  v4 := Try.zeroValue4
  t5 := Try.underlying5
  a5 := Try.isAgg5
  z5 := Try.sizeOf5
  v5 := Try.zeroValue5
  t9 := Try.underlying9
  a9 := Try.isAgg9
  z9 := Try.sizeOf9
  v9 := Try.zeroValue9
  t46 := Try.underlying72
  a46 := Try.isAgg72
  z46 := Try.sizeOf72
  v46 := Try.zeroValue72
  t51 := Try.underlying93
  a51 := Try.isAgg93
  z51 := Try.sizeOf93
  v51 := Try.zeroValue93
  t53 := Try.underlying95
  a53 := Try.isAgg95
  z53 := Try.sizeOf95
  v53 := Try.zeroValue95 }
theorem Try.bits_Len (x : Int) (w : World) (h0 : 0 ≤ x) (h1 : x ≤ 18446744073709551615) :
    Calls Try.prog 44 #[.int .u64 x] w fun e w' => e = .returned (.int .i64 (Lib.bitLen x.toNat)) ∧ w' = w := Any.bits_Len Try.lays125 x w h0 h1
def Try.lays129_ren : Go.Shelf.Ren := ⟨fun | 129 => 63 | n => n, fun | 53 => 95 | 3 => 3 | 4 => 4 | 46 => 72 | 5 => 5 | 9 => 9 | n => n, fun | n => n⟩
theorem Try.lays129 : Go.Proofs.Lays.n129 Try.prog Try.lays129_ren := {
  mixed := by kernel_rfl
  f129 := Try.func63.trans (congrArg some (by kernel_rfl))
  t3 := Try.underlying3
  a3 := Try.isAgg3
  z3 := Try.sizeOf3
  v3 := Try.zeroValue3
  t4 := Try.underlying4
  a4 := Try.isAgg4
  z4 := Try.sizeOf4
  v4 := Try.zeroValue4
  t5 := Try.underlying5
  a5 := Try.isAgg5
  z5 := Try.sizeOf5
  v5 := Try.zeroValue5
  t9 := Try.underlying9
  a9 := Try.isAgg9
  z9 := Try.sizeOf9
  v9 := Try.zeroValue9
  t46 := Try.underlying72
  a46 := Try.isAgg72
  z46 := Try.sizeOf72
  v46 := Try.zeroValue72
  t53 := Try.underlying95
  a53 := Try.isAgg95
  z53 := Try.sizeOf95
  v53 := Try.zeroValue95 }
theorem Try.bits_Len64 (x : Int) (w : World) (h0 : 0 ≤ x) (h1 : x ≤ 18446744073709551615) :
    Calls Try.prog 63 #[.int .u64 x] w fun e w' => e = .returned (.int .i64 (Lib.bitLen x.toNat)) ∧ w' = w := Any.bits_Len64 Try.lays129 x w h0 h1
def Try.lays264_ren : Go.Shelf.Ren := ⟨fun | 264 => 82 | n => n, fun | 53 => 95 | 46 => 72 | n => n, fun | n => n⟩
theorem Try.lays264 : Go.Proofs.Lays.n264 Try.prog Try.lays264_ren := {
  mixed := by kernel_rfl
  f264 := Try.func82.trans (congrArg some (by kernel_rfl))
  t46 := Try.underlying72
  a46 := Try.isAgg72
  z46 := Try.sizeOf72
  v46 := Try.zeroValue72
  t53 := Try.underlying95
  a53 := Try.isAgg95
  z53 := Try.sizeOf95
  v53 := Try.zeroValue95 }
open Go.RowKit Go.Lib in
theorem Try.bits_Mul64 (x y : Nat) (hx : x < 18446744073709551616) (hy : y < 18446744073709551616) (w : World) :
    Calls Try.prog 82 #[.int .u64 x, .int .u64 y] w fun e w' => e = .returned (.tuple #[.int .u64 ((x * y / 18446744073709551616 : Nat) : Int), .int .u64 ((x * y % 18446744073709551616 : Nat) : Int)]) ∧ w' = w := Any.bits_Mul64 Try.lays264 x y hx hy w
def Try.lays212_ren : Go.Shelf.Ren := ⟨fun | 212 => 72 | 263 => 81 | 264 => 82 | n => n, fun | 46 => 72 | 51 => 93 | 146 => 112 | 53 => 95 | 148 => 114 | n => n, fun | n => n⟩
theorem Try.lays212 : Go.Proofs.Lays.n212 Try.prog Try.lays212_ren := {
  mixed := by kernel_rfl
  f212 := Try.func72.trans (congrArg some (by kernel_rfl))
  f263 := Try.func81.trans (congrArg some (by kernel_rfl))
  f264 := Try.func82.trans (congrArg some (by kernel_rfl))
  t46 := Try.underlying72
  a46 := Try.isAgg72
  z46 := Try.sizeOf72
  v46 := Try.zeroValue72
  t51 := Try.underlying93
  a51 := Try.isAgg93
  z51 := Try.sizeOf93
  v51 := Try.zeroValue93
  t53 := Try.underlying95
  a53 := Try.isAgg95
  z53 := Try.sizeOf95
  v53 := Try.zeroValue95
  t146 := Try.underlying112
  a146 := Try.isAgg112
  z146 := Try.sizeOf112
  v146 := Try.zeroValue112
  t148 := Try.underlying114
  a148 := Try.isAgg114
  z148 := Try.sizeOf114
  v148 := Try.zeroValue114 }
theorem Try.bits_Mul (x y : Nat) (hx : x < 18446744073709551616) (hy : y < 18446744073709551616) (w : World) :
    Calls Try.prog 72 #[.int .u64 x, .int .u64 y] w fun e w' => e = .returned (.tuple #[.int .u64 ((x * y / 18446744073709551616 : Nat) : Int), .int .u64 ((x * y % 18446744073709551616 : Nat) : Int)]) ∧ w' = w := Any.bits_Mul Try.lays212 x y hx hy w
def Try.sort23_ren : Go.Shelf.Ren := ⟨fun | 6 => 23 | 15 => 44 | 14 => 43 | 28 => 62 | 29 => 63 | 20 => 54 | 21 => 55 | 22 => 56 | 23 => 57 | 24 => 58 | 25 => 59 | 26 => 60 | 27 => 61 | 46 => 73 | 47 => 74 | 48 => 75 | 49 => 76 | 50 => 77 | 57 => 83 | n => n, fun | 22 => 27 | 24 => 36 | 25 => 53 | 3 => 3 | 39 => 72 | 0 => 0 | 53 => 93 | 55 => 95 | 4 => 4 | 46 => 86 | 45 => 85 | 50 => 90 | 5 => 5 | 9 => 9 | 66 => 105 | 70 => 82 | 76 => 116 | 77 => 117 | n => n, fun | n => n⟩
theorem Try.sort23 : Go.Proofs.SlLaysF0.n6 Try.prog Try.sort23_ren := {
  mixed := by kernel_rfl
  f6 := ⟨Try.f23.name, by decide, Try.func23.trans (congrArg some (by kernel_rfl))⟩
  f14 := ⟨Try.f43.name, by decide, Try.func43.trans (congrArg some (by kernel_rfl))⟩
  f15 := Try.func44.trans (congrArg some (by kernel_rfl))
  f20 := ⟨Try.f54.name, by decide, Try.func54.trans (congrArg some (by kernel_rfl))⟩
  f21 := ⟨Try.f55.name, by decide, Try.func55.trans (congrArg some (by kernel_rfl))⟩
  f22 := ⟨Try.f56.name, by decide, Try.func56.trans (congrArg some (by kernel_rfl))⟩
  f23 := ⟨Try.f57.name, by decide, Try.func57.trans (congrArg some (by kernel_rfl))⟩
  f24 := ⟨Try.f58.name, by decide, Try.func58.trans (congrArg some (by kernel_rfl))⟩
  f25 := ⟨Try.f59.name, by decide, Try.func59.trans (congrArg some (by kernel_rfl))⟩
  f26 := ⟨Try.f60.name, by decide, Try.func60.trans (congrArg some (by kernel_rfl))⟩
  f27 := ⟨Try.f61.name, by decide, Try.func61.trans (congrArg some (by kernel_rfl))⟩
  f28 := Try.func62.trans (congrArg some (by kernel_rfl))
  f29 := Try.func63.trans (congrArg some (by kernel_rfl))
  f46 := ⟨Try.f73.name, by decide, Try.func73.trans (congrArg some (by kernel_rfl))⟩
  f47 := Try.func74.trans (congrArg some (by kernel_rfl))
  f48 := Try.func75.trans (congrArg some (by kernel_rfl))
  f49 := ⟨Try.f76.name, by decide, Try.func76.trans (congrArg some (by kernel_rfl))⟩
  f50 := ⟨Try.f77.name, by decide, Try.func77.trans (congrArg some (by kernel_rfl))⟩
  f57 := ⟨Try.f83.name, by decide, Try.func83.trans (congrArg some (by kernel_rfl))⟩
  t0 := Try.underlying0
  a0 := Try.isAgg0
  z0 := Try.sizeOf0
  v0 := Try.zeroValue0
  t3 := Try.underlying3
  a3 := Try.isAgg3
  z3 := Try.sizeOf3
  v3 := Try.zeroValue3
  t4 := Try.underlying4
  a4 := Try.isAgg4
  z4 := Try.sizeOf4
  v4 := Try.zeroValue4
  t5 := Try.underlying5
  a5 := Try.isAgg5
  z5 := Try.sizeOf5
  v5 := Try.zeroValue5
  t9 := Try.underlying9
  a9 := Try.isAgg9
  z9 := Try.sizeOf9
  v9 := Try.zeroValue9
  t22 := Try.underlying27
  a22 := Try.isAgg27
  z22 := Try.sizeOf27
  v22 := Try.zeroValue27
  t25 := Try.underlying53
  a25 := Try.isAgg53
  z25 := Try.sizeOf53
  v25 := Try.zeroValue53
  t39 := Try.underlying72
  a39 := Try.isAgg72
  z39 := Try.sizeOf72
  v39 := Try.zeroValue72
  t45 := Try.underlying85
  a45 := Try.isAgg85
  z45 := Try.sizeOf85
  v45 := Try.zeroValue85
  t46 := Try.underlying86
  a46 := Try.isAgg86
  z46 := Try.sizeOf86
  v46 := Try.zeroValue86
  t50 := Try.underlying90
  a50 := Try.isAgg90
  z50 := Try.sizeOf90
  v50 := Try.zeroValue90
  t53 := Try.underlying93
  a53 := Try.isAgg93
  z53 := Try.sizeOf93
  v53 := Try.zeroValue93
  t55 := Try.underlying95
  a55 := Try.isAgg95
  z55 := Try.sizeOf95
  v55 := Try.zeroValue95
  t66 := Try.underlying105
  a66 := Try.isAgg105
  z66 := Try.sizeOf105
  v66 := Try.zeroValue105
  t70 := Try.underlying82
  a70 := Try.isAgg82
  z70 := Try.sizeOf82
  v70 := Try.zeroValue82
  t76 := Try.underlying116
  a76 := Try.isAgg116
  z76 := Try.sizeOf116
  v76 := Try.zeroValue116
  t77 := Try.underlying117
  a77 := Try.isAgg117
  z77 := Try.sizeOf117
  v77 := Try.zeroValue117 }
def Try.sort28_ren : Go.Shelf.Ren := ⟨fun | 6 => 28 | 15 => 44 | 14 => 45 | 28 => 62 | 29 => 63 | 20 => 64 | 21 => 65 | 22 => 66 | 23 => 67 | 24 => 68 | 25 => 69 | 26 => 70 | 27 => 71 | 46 => 78 | 47 => 74 | 48 => 75 | 49 => 79 | 50 => 80 | 57 => 84 | n => n, fun | 22 => 39 | 24 => 45 | 25 => 60 | 3 => 3 | 39 => 72 | 0 => 0 | 53 => 93 | 55 => 95 | 4 => 4 | 46 => 86 | 45 => 85 | 50 => 90 | 5 => 5 | 9 => 9 | 66 => 105 | 70 => 82 | 76 => 116 | 77 => 117 | n => n, fun | n => n⟩
theorem Try.sort28 : Go.Proofs.SlLaysF0.n6 Try.prog Try.sort28_ren := {
  mixed := by kernel_rfl
  f6 := ⟨Try.f28.name, by decide, Try.func28.trans (congrArg some (by kernel_rfl))⟩
  f14 := ⟨Try.f45.name, by decide, Try.func45.trans (congrArg some (by kernel_rfl))⟩
  f15 := Try.func44.trans (congrArg some (by kernel_rfl))
  f20 := ⟨Try.f64.name, by decide, Try.func64.trans (congrArg some (by kernel_rfl))⟩
  f21 := ⟨Try.f65.name, by decide, Try.func65.trans (congrArg some (by kernel_rfl))⟩
  f22 := ⟨Try.f66.name, by decide, Try.func66.trans (congrArg some (by kernel_rfl))⟩
  f23 := ⟨Try.f67.name, by decide, Try.func67.trans (congrArg some (by kernel_rfl))⟩
  f24 := ⟨Try.f68.name, by decide, Try.func68.trans (congrArg some (by kernel_rfl))⟩
  f25 := ⟨Try.f69.name, by decide, Try.func69.trans (congrArg some (by kernel_rfl))⟩
  f26 := ⟨Try.f70.name, by decide, Try.func70.trans (congrArg some (by kernel_rfl))⟩
  f27 := ⟨Try.f71.name, by decide, Try.func71.trans (congrArg some (by kernel_rfl))⟩
  f28 := Try.func62.trans (congrArg some (by kernel_rfl))
  f29 := Try.func63.trans (congrArg some (by kernel_rfl))
  f46 := ⟨Try.f78.name, by decide, Try.func78.trans (congrArg some (by kernel_rfl))⟩
  f47 := Try.func74.trans (congrArg some (by kernel_rfl))
  f48 := Try.func75.trans (congrArg some (by kernel_rfl))
  f49 := ⟨Try.f79.name, by decide, Try.func79.trans (congrArg some (by kernel_rfl))⟩
  f50 := ⟨Try.f80.name, by decide, Try.func80.trans (congrArg some (by kernel_rfl))⟩
  f57 := ⟨Try.f84.name, by decide, Try.func84.trans (congrArg some (by kernel_rfl))⟩
  t0 := Try.underlying0
  a0 := Try.isAgg0
  z0 := Try.sizeOf0
  v0 := Try.zeroValue0
  t3 := Try.underlying3
  a3 := Try.isAgg3
  z3 := Try.sizeOf3
  v3 := Try.zeroValue3
  t4 := Try.underlying4
  a4 := Try.isAgg4
  z4 := Try.sizeOf4
  v4 := Try.zeroValue4
  t5 := Try.underlying5
  a5 := Try.isAgg5
  z5 := Try.sizeOf5
  v5 := Try.zeroValue5
  t9 := Try.underlying9
  a9 := Try.isAgg9
  z9 := Try.sizeOf9
  v9 := Try.zeroValue9
  t22 := Try.underlying39
  a22 := Try.isAgg39
  z22 := Try.sizeOf39
  v22 := Try.zeroValue39
  t25 := Try.underlying60
  a25 := Try.isAgg60
  z25 := Try.sizeOf60
  v25 := Try.zeroValue60
  t39 := Try.underlying72
  a39 := Try.isAgg72
  z39 := Try.sizeOf72
  v39 := Try.zeroValue72
  t45 := Try.underlying85
  a45 := Try.isAgg85
  z45 := Try.sizeOf85
  v45 := Try.zeroValue85
  t46 := Try.underlying86
  a46 := Try.isAgg86
  z46 := Try.sizeOf86
  v46 := Try.zeroValue86
  t50 := Try.underlying90
  a50 := Try.isAgg90
  z50 := Try.sizeOf90
  v50 := Try.zeroValue90
  t53 := Try.underlying93
  a53 := Try.isAgg93
  z53 := Try.sizeOf93
  v53 := Try.zeroValue93
  t55 := Try.underlying95
  a55 := Try.isAgg95
  z55 := Try.sizeOf95
  v55 := Try.zeroValue95
  t66 := Try.underlying105
  a66 := Try.isAgg105
  z66 := Try.sizeOf105
  v66 := Try.zeroValue105
  t70 := Try.underlying82
  a70 := Try.isAgg82
  z70 := Try.sizeOf82
  v70 := Try.zeroValue82
  t76 := Try.underlying116
  a76 := Try.isAgg116
  z76 := Try.sizeOf116
  v76 := Try.zeroValue116
  t77 := Try.underlying117
  a77 := Try.isAgg117
  z77 := Try.sizeOf117
  v77 := Try.zeroValue117 }
end Go.Proofs
namespace Go.Proofs.Ytcghekjnjbpeoaa
set_option linter.unusedSimpArgs false
set_option linter.unusedVariables false
open Go.RowKit Go.Sort
theorem below_grow (w : World) (os : Array Obj) : Below w.heap.size w (Go.Sort.grow w os) := ⟨rfl, rfl, rfl, by simp [grow], fun k hk => heap_grow_old w os hk⟩
theorem splice_all {xs ys : List AV} (h : ys.length = xs.length) : splice xs 0 ys = ys := by
  have hl : 0 + ys.length ≤ xs.length := by omega
  refine List.ext_getElem? fun j => ?_
  rw [splice_get hl]
  by_cases hj : j < ys.length
  · rw [if_pos ⟨by omega, by omega⟩, Nat.sub_zero]
  rw [if_neg (by omega), List.getElem?_eq_none (by omega), List.getElem?_eq_none (by omega)]
theorem rels_prs {E : Env} : ∀ (l : List (Int × Int)), RelL E (prs l) (enc2 l)
  | [] => .nil E
  | p :: l => .cons (.int _ _) (.cons (.int _ _) (rels_prs l))
theorem prs_onef : ∀ (l : List (Int × Int)), (prs l).all AV.one = true
  | [] => rfl
  | p :: l => by rw [prs_cons]; simp [AV.one, prs_onef l]
section
variable {E : Env} {H : AHeap} {w : World}
theorem Emb.putP (h : Emb E H w) {b q : Nat} {zs ys : List (Int × Int)} (hg : H[b]? = some (.cells true 2 (prs zs))) (hl : ys.length = zs.length) (os : Array Obj) :
    Emb E (H.set b (.cells true 2 (prs ys))) (Go.Sort.grow ((w.drewN q).setCells (E.loc b).blk ((E.loc b).off) (enc2 ys)) os) := by
  have h0 : Emb E H (w.drewN q) := h.up (below_drewN (Below.refl _ _) q)
  have hw : awrite H b 0 (prs ys) = some (H.set b (.cells true 2 (prs ys))) := by
    unfold awrite
    rw [hg]
    simp only
    rw [if_pos ⟨by simp [prs_len, hl], prs_onef ys⟩, splice_all (by simp [prs_len, hl])]
  exact ((h0.write (rels_prs ys) hw).2.2.2).up (below_grow _ os)
end
/-- Elements as their two cells. -/
def encP {α : Type} (val : α → Int × Int) (x : α) : List Value := [.int .i64 (val x).1, .int .i64 (val x).2]
theorem flat_list {α : Type} [Inhabited α] (val : α → Int × Int) (zs : List α) : flatK (encP val) 2 zs.toArray = (enc2 (zs.map val)).toArray := by
  refine ext_get! (by simp [enc2_len]) fun t ht => ?_
  have ht' : t < zs.length * 2 := by simpa using ht
  rw [get_flatK _ _ _ _ (by simpa using ht')]
  have hj : t / 2 < zs.length := by omega
  obtain ⟨e1, e2⟩ := enc2_at (zs.map val) (t / 2) (by simpa using hj)
  have hx : zs.toArray[t / 2]! = zs[t / 2] := by simp [hj]
  rw [hx]
  have hr : (enc2 (zs.map val)).toArray[t]! = ((enc2 (zs.map val))[t]?).getD default := by simp [List.getElem!_eq_getElem?_getD]
  rw [hr]
  rcases Nat.mod_two_eq_zero_or_one t with h | h
  · have : t = t / 2 * 2 := by omega
    rw [← this] at e1
    rw [h, e1]
    simp [encP]
  have : t = t / 2 * 2 + 1 := by omega
  rw [← this] at e2
  rw [h, e2]
  simp [encP]
abbrev Pt := Int × Int
def crs (a b : Pt) : Int := a.1 * b.2 - a.2 * b.1
/-- In the upper half plane (or on its right border), and not zero. -/
def up (p : Pt) : Prop := 0 < p.2 ∨ (p.2 = 0 ∧ 0 < p.1)
instance (p : Pt) : Decidable (up p) := inferInstanceAs (Decidable (_ ∨ _))
theorem crs_self (a : Pt) : crs a a = 0 := by unfold crs; rw [Int.mul_comm]; omega
theorem crs_anti (a b : Pt) : crs b a = -crs a b := by unfold crs; rw [Int.mul_comm b.1, Int.mul_comm b.2]; omega
def padd (a b : Pt) : Pt := (a.1 + b.1, a.2 + b.2)
theorem padd_comm (a b : Pt) : padd a b = padd b a := by unfold padd; rw [Int.add_comm, Int.add_comm a.2]
theorem padd_assoc (a b c : Pt) : padd (padd a b) c = padd a (padd b c) := by simp [padd, Int.add_assoc]
theorem padd_zero (a : Pt) : padd a (0, 0) = a := by simp [padd]
theorem zero_padd (a : Pt) : padd (0, 0) a = a := by simp [padd]
/-- The sum of those that are parallel to g. -/
def dsum : List Pt → Pt → Pt
  | [], _ => (0, 0)
  | h :: l, g => if crs h g = 0 then padd h (dsum l g) else dsum l g
theorem dsum_append (g : Pt) : ∀ l m : List Pt, dsum (l ++ m) g = padd (dsum l g) (dsum m g)
  | [], m => by rw [List.nil_append]; exact (zero_padd _).symm
  | h :: l, m => by
    simp only [List.cons_append, dsum, dsum_append g l m]
    split
    · rw [padd_assoc]
    rfl
theorem dsum_perm {l m : List Pt} (g : Pt) (h : l.Perm m) : dsum l g = dsum m g := by
  induction h with
  | nil => rfl
  | cons x _ ih => simp only [dsum, ih]
  | swap x y l =>
    simp only [dsum]
    split <;> split <;> try rfl
    rw [← padd_assoc, ← padd_assoc, padd_comm y x]
  | trans _ _ ih1 ih2 => rw [ih1, ih2]
theorem dsum_none {l : List Pt} {g : Pt} (h : ∀ e ∈ l, crs e g ≠ 0) : dsum l g = (0, 0) := by
  induction l with
  | nil => rfl
  | cons x l ih =>
    simp only [dsum]
    rw [if_neg (h x (by simp)), ih fun e he => h e (by simp [he])]
/-- C is the canonical form of the directions in S. -/
structure Can (C S : List Pt) : Prop where
  sorted : C.Pairwise fun a b => 0 < crs a b
  ups : ∀ e ∈ C, up e
  sums : ∀ g, up g → dsum C g = dsum S g
theorem Can.perm {C S S' : List Pt} (h : Can C S) (hp : S.Perm S') : Can C S' := ⟨h.sorted, h.ups, fun g hg => by rw [h.sums g hg, dsum_perm g hp]⟩
theorem Can.own {C S : List Pt} (h : Can C S) {e : Pt} (he : e ∈ C) : dsum C e = e := by
  obtain ⟨A, B, rfl⟩ := List.append_of_mem he
  have hs := h.sorted
  rw [List.pairwise_append] at hs
  obtain ⟨h1, h2, h3⟩ := hs
  rw [List.pairwise_cons] at h2
  rw [dsum_append]
  simp only [dsum, crs_self, if_true]
  rw [dsum_none (l := A) fun a ha => by have := h3 a ha e (by simp); omega, dsum_none (l := B) fun b hb => by have := h2.1 b hb; rw [crs_anti]; omega, padd_zero, zero_padd]
theorem eq_of_sorted {r : Pt → Pt → Prop} (has : ∀ a b, r a b → ¬ r b a) : ∀ (l m : List Pt), l.Pairwise r → m.Pairwise r → (∀ x, x ∈ l ↔ x ∈ m) → l = m
  | [], [], _, _, _ => rfl
  | [], b :: m, _, _, h => absurd ((h b).2 (by simp)) (by simp)
  | a :: l, [], _, _, h => absurd ((h a).1 (by simp)) (by simp)
  | a :: l, b :: m, h1, h2, h => by
    rw [List.pairwise_cons] at h1 h2
    have hirr : ∀ x, ¬ r x x := fun x hx => has x x hx hx
    have hab : a = b := by
      rcases List.mem_cons.1 ((h a).1 (by simp)) with e | hm
      · exact e
      rcases List.mem_cons.1 ((h b).2 (by simp)) with e | hl
      · exact e.symm
      exact absurd (h1.1 b hl) (has _ _ (h2.1 a hm))
    subst hab
    have : l = m := eq_of_sorted has l m h1.2 h2.2 fun x => by
      constructor
      · intro hx
        rcases List.mem_cons.1 ((h x).1 (by simp [hx])) with e | hm
        · subst e; exact absurd (h1.1 x hx) (hirr x)
        exact hm
      intro hx
      rcases List.mem_cons.1 ((h x).2 (by simp [hx])) with e | hm
      · subst e; exact absurd (h2.1 x hx) (hirr x)
      exact hm
    rw [this]
theorem Can.nil : Can [] [] := ⟨.nil, by simp, fun _ _ => rfl⟩
/-- cmp.Compare -/
def cmpI (x y : Int) : Int := if x < y then -1 else if y < x then 1 else 0
/-- Coordinates of at most M. -/
def Bd (M : Int) (p : Pt) : Prop := -M ≤ p.1 ∧ p.1 ≤ M ∧ -M ≤ p.2 ∧ p.2 ≤ M
theorem isNaN_h (x : Int) (W : World) : Calls Try.prog 46 #[.int .i64 x] W fun e w' => e = .returned (.bool false) ∧ w' = W := by
  go_enter Try.func46, Try.ntmps46
  go_wp2
  go_ret
  exact ⟨by simp, rfl⟩
theorem compare_h (x y : Int) (W : World) : Calls Try.prog 31 #[.int .i64 x, .int .i64 y] W fun e w' => e = .returned (.int .i64 (cmpI x y)) ∧ w' = W := by
  have hcon := isNaN_h
  go_enter Try.func31, Try.ntmps31
  go_wp2_with (go_at_call 46; refine (hcon _ _).mono ?_; rintro e w' ⟨rfl, rfl⟩)
  · go_ret
    exact ⟨ret_int (by unfold cmpI; rw [if_pos (by assumption)]), rfl⟩
  · go_ret
    exact ⟨ret_int (by unfold cmpI; rw [if_neg (by omega), if_pos (by assumption)]), rfl⟩
  go_ret
  exact ⟨ret_int (by unfold cmpI; rw [if_neg (by omega), if_neg (by omega)]), rfl⟩
/-- Generators in the upper half plane, of bounded coordinates. -/
structure Up where
  p : Pt
  up : up p
  bd : Bd 268435456 p
instance : Inhabited Up := ⟨⟨(1, 0), .inr ⟨rfl, by decide⟩, by unfold Bd; simp⟩⟩

def vldB (W H : Int) (xs : List Int) : Bool := decide (1 ≤ W ∧ W ≤ 64 ∧ 1 ≤ H ∧ H ≤ 64 ∧ (xs.length : Int) = W * H ∧ ∀ v ∈ xs, v ≤ 2)
def inB (W H x y : Int) : Bool := decide (0 ≤ x ∧ x < W ∧ 0 ≤ y ∧ y < H)
def atI (W H : Int) (xs : List Int) (x y : Int) : Int := if inB W H x y then gi xs (y * W + x).toNat else 2
structure Vld (W H : Int) (xs : List Int) : Prop where
  w0 : 1 ≤ W
  w1 : W ≤ 64
  h0 : 1 ≤ H
  h1 : H ≤ 64
  len : (xs.length : Int) = W * H
  le : ∀ v ∈ xs, v ≤ 2
theorem vld_iff {W H : Int} {xs : List Int} : vldB W H xs = true ↔ Vld W H xs := by
  unfold vldB
  rw [decide_eq_true_iff]
  exact ⟨fun ⟨a, b, c, d, e, f⟩ => ⟨a, b, c, d, e, f⟩, fun ⟨a, b, c, d, e, f⟩ => ⟨a, b, c, d, e, f⟩⟩
theorem vld_false {W H : Int} {xs : List Int} : vldB W H xs = false ↔ ¬ Vld W H xs := by
  rw [← vld_iff]; simp
theorem inB_iff {W H x y : Int} : inB W H x y = true ↔ 0 ≤ x ∧ x < W ∧ 0 ≤ y ∧ y < H := by
  unfold inB; rw [decide_eq_true_iff]
theorem mul_le_64 {a b : Int} (h0 : 0 ≤ a) (h1 : a ≤ 64) (h2 : 0 ≤ b) (h3 : b ≤ 64) : 0 ≤ a * b ∧ a * b ≤ 4096 :=
  ⟨Int.mul_nonneg h0 h2, Int.le_trans (Int.mul_le_mul h1 h3 h2 (by omega)) (by omega)⟩
theorem Vld.pos {W H : Int} {xs : List Int} (h : Vld W H xs) : 1 ≤ W * H ∧ W * H ≤ 4096 ∧ 0 < xs.length ∧ xs.length ≤ 4096 := by
  have h1 : 1 * 1 ≤ W * H := Int.mul_le_mul h.w0 h.h0 (by omega) (by have := h.w0; omega)
  have h2 := mul_le_64 (a := W) (b := H) (by have := h.w0; omega) h.w1 (by have := h.h0; omega) h.h1
  have h3 := h.len
  omega
/-- The number of a cell. -/
theorem idx_bd {W H x y : Int} (h : inB W H x y = true) : 0 ≤ y * W ∧ 0 ≤ y * W + x ∧ y * W + x < W * H := by
  obtain ⟨a, b, c, d⟩ := inB_iff.1 h
  have h1 : 0 ≤ y * W := Int.mul_nonneg c (by omega)
  have h2 : (y + 1) * W ≤ H * W := Int.mul_le_mul_of_nonneg_right (by omega) (by omega)
  rw [Int.add_mul, Int.one_mul] at h2
  rw [Int.mul_comm W H]
  omega
theorem Vld.idx {W H x y : Int} {xs : List Int} (hv : Vld W H xs) (h : inB W H x y = true) : 0 ≤ y * W ∧ y * W ≤ 4096 ∧ 0 ≤ y * W + x ∧ y * W + x < W * H ∧ (y * W + x).toNat < xs.length ∧ 0 ≤ x ∧ x < 64 ∧ 0 ≤ y ∧ y < 64 := by
  have h1 := idx_bd h
  have h2 := hv.pos
  have h3 := hv.len
  obtain ⟨a, b, c, d⟩ := inB_iff.1 h
  have := hv.w1
  have := hv.h1
  omega
/-- A cell of the plan with the value v. -/
def isB (W H : Int) (xs : List Int) (x y v : Int) : Bool := inB W H x y && (gi xs (y * W + x).toNat == v)
/-- A frontier cell. -/
def froB (W H : Int) (xs : List Int) (x y : Int) : Bool := isB W H xs x y 1 && (isB W H xs (x + 1) y 0 || isB W H xs (x - 1) y 0 || isB W H xs x (y + 1) 0 || isB W H xs x (y - 1) 0)
/-- The cells with p in row y with x below j. -/
def rowP (p : Int → Int → Bool) (y : Nat) : Nat → List (Int × Int)
  | 0 => []
  | j + 1 => rowP p y j ++ if p j y = true then [((j : Int), (y : Int))] else []
/-- The cells with p in the rows below i, w cells each. -/
def gridP (p : Int → Int → Bool) (w : Nat) : Nat → List (Int × Int)
  | 0 => []
  | i + 1 => gridP p w i ++ rowP p i w
theorem rowP_len (p : Int → Int → Bool) (y : Nat) : ∀ j, (rowP p y j).length ≤ j
  | 0 => by simp [rowP]
  | j + 1 => by
    have := rowP_len p y j
    simp only [rowP, List.length_append]
    split <;> simp <;> omega
theorem gridP_len (p : Int → Int → Bool) (w : Nat) : ∀ i, (gridP p w i).length ≤ i * w
  | 0 => by simp [gridP]
  | i + 1 => by
    have := gridP_len p w i
    have := rowP_len p i w
    simp only [gridP, List.length_append]
    rw [Nat.add_mul]; omega
theorem rowP_mem (p : Int → Int → Bool) (y : Nat) : ∀ (j : Nat) (c : Int × Int), c ∈ rowP p y j ↔ (0 ≤ c.1 ∧ c.1 < j ∧ c.2 = y ∧ p c.1 c.2 = true)
  | 0, c => by simp [rowP]; omega
  | j + 1, c => by
    simp only [rowP, List.mem_append, rowP_mem p y j c]
    obtain ⟨a, b⟩ := c
    by_cases hp : p j y = true
    · rw [if_pos hp]
      simp only [List.mem_singleton, Prod.mk.injEq]
      constructor
      · rintro (⟨h1, h2, h3, h4⟩ | ⟨rfl, rfl⟩)
        · exact ⟨h1, by omega, h3, h4⟩
        exact ⟨by omega, by omega, rfl, hp⟩
      rintro ⟨h1, h2, h3, h4⟩
      by_cases hj : a = j
      · exact .inr ⟨hj, h3⟩
      exact .inl ⟨h1, by omega, h3, h4⟩
    rw [if_neg hp]
    simp only [List.not_mem_nil, or_false]
    constructor
    · rintro ⟨h1, h2, h3, h4⟩; exact ⟨h1, by omega, h3, h4⟩
    rintro ⟨h1, h2, h3, h4⟩
    refine ⟨h1, ?_, h3, h4⟩
    have : a ≠ j := fun e => hp (by rw [← e, ← h3]; exact h4)
    show a < j
    have : a < ((j + 1 : Nat) : Int) := h2
    omega
theorem gridP_mem (p : Int → Int → Bool) (w : Nat) : ∀ (i : Nat) (c : Int × Int), c ∈ gridP p w i ↔ (0 ≤ c.1 ∧ c.1 < w ∧ 0 ≤ c.2 ∧ c.2 < i ∧ p c.1 c.2 = true)
  | 0, c => by simp [gridP]; omega
  | i + 1, c => by
    simp only [gridP, List.mem_append, gridP_mem p w i c, rowP_mem]
    constructor
    · rintro (⟨h1, h2, h3, h4, h5⟩ | ⟨h1, h2, h3, h4⟩)
      · exact ⟨h1, h2, h3, by omega, h5⟩
      exact ⟨h1, h2, by omega, by omega, h4⟩
    rintro ⟨h1, h2, h3, h4, h5⟩
    by_cases hi : c.2 = i
    · exact .inr ⟨h1, h2, hi, h5⟩
    exact .inl ⟨h1, h2, h3, by omega, h5⟩
theorem prs_snoc {l : List (Int × Int)} {x y : Int} : prs l ++ [.int .i64 x, .int .i64 y] = prs (l ++ [(x, y)]) := by rw [prs_append]; rfl
/-- A slice that is appended to: none yet, or the whole of a block of its own. -/
def OutP (b : Nat) (s : AV) (X : ABlk) (l : List (Int × Int)) : Prop := (l = [] ∧ s = .sl none 0 (some 0) ∧ X = .dead) ∨ (0 < l.length ∧ s = .sl (some (b, 0)) l.length none ∧ X = .cells true 2 (prs l))
/-- What a function hands back that has made a list of pairs. -/
def retP (H : AHeap) (l : List (Int × Int)) : AV × AHeap := if l = [] then (.sl none 0 (some 0), H) else (.sl (some (H.length, 0)) l.length none, H ++ [.cells true 2 (prs l)])
theorem retP_nil {H : AHeap} : retP H [] = (.sl none 0 (some 0), H) := rfl
theorem retP_pos {H : AHeap} {l : List (Int × Int)} (h : 0 < l.length) : retP H l = (.sl (some (H.length, 0)) l.length none, H ++ [.cells true 2 (prs l)]) := by
  unfold retP; rw [if_neg (fun e => by rw [e] at h; simp at h)]
/-- The frontier cells of a plan. -/
def froL (W H : Int) (xs : List Int) : List (Int × Int) := gridP (froB W H xs) W.toNat H.toNat
theorem isB_at {W H : Int} {xs : List Int} {x y v : Int} (hv : v ≠ 2) : isB W H xs x y v = (atI W H xs x y == v) := by
  unfold isB atI
  cases h : inB W H x y
  · simp; exact fun e => hv e.symm
  simp

mutual
def AV.eqb : AV → AV → Bool
  | .any, y => (match y with | .any => true | _ => false)
  | .int k n, y => (match y with | .int k' n' => decide (k = k') && decide (n = n') | _ => false)
  | .bool b, y => (match y with | .bool b' => b == b' | _ => false)
  | .str s, y => (match y with | .str s' => decide (s = s') | _ => false)
  | .ptr a, y => (match y with | .ptr a' => decide (a = a') | _ => false)
  | .sl a l c, y => (match y with | .sl a' l' c' => decide (a = a') && (decide (l = l') && decide (c = c')) | _ => false)
  | .mp r, y => (match y with | .mp r' => decide (r = r') | _ => false)
  | .fn f cs, y => (match y with | .fn f' cs' => decide (f = f') && AV.eqbs cs cs' | _ => false)
  | .nilfn, y => (match y with | .nilfn => true | _ => false)
  | .agg cs, y => (match y with | .agg cs' => AV.eqbs cs cs' | _ => false)
  | .tup cs, y => (match y with | .tup cs' => AV.eqbs cs cs' | _ => false)
def AV.eqbs : List AV → List AV → Bool
  | [], ys => (match ys with | [] => true | _ => false)
  | x :: xs, ys => (match ys with | y :: ys => AV.eqb x y && AV.eqbs xs ys | [] => false)
end
mutual
theorem AV.eqb_eq : ∀ (x y : AV), AV.eqb x y = true → x = y
  | .any, y, h => by cases y <;> first | rfl | (simp [AV.eqb] at h)
  | .int k n, y, h => by cases y <;> first | (simp [AV.eqb] at h; done) | (simp [AV.eqb] at h; rw [h.1, h.2])
  | .bool b, y, h => by cases y <;> first | (simp [AV.eqb] at h; done) | (simp [AV.eqb] at h; rw [h])
  | .str s, y, h => by cases y <;> first | (simp [AV.eqb] at h; done) | (simp [AV.eqb] at h; rw [h])
  | .ptr a, y, h => by cases y <;> first | (simp [AV.eqb] at h; done) | (simp [AV.eqb] at h; rw [h])
  | .sl a l c, y, h => by cases y <;> first | (simp [AV.eqb] at h; done) | (simp [AV.eqb] at h; rw [h.1, h.2.1, h.2.2])
  | .mp r, y, h => by cases y <;> first | (simp [AV.eqb] at h; done) | (simp [AV.eqb] at h; rw [h])
  | .fn f cs, y, h => by
    cases y <;> first | (simp [AV.eqb] at h; done) | skip
    simp [AV.eqb] at h
    rw [h.1, AV.eqbs_eq _ _ h.2]
  | .nilfn, y, h => by cases y <;> first | rfl | (simp [AV.eqb] at h)
  | .agg cs, y, h => by
    cases y <;> first | (simp [AV.eqb] at h; done) | skip
    simp [AV.eqb] at h
    rw [AV.eqbs_eq _ _ h]
  | .tup cs, y, h => by
    cases y <;> first | (simp [AV.eqb] at h; done) | skip
    simp [AV.eqb] at h
    rw [AV.eqbs_eq _ _ h]
theorem AV.eqbs_eq : ∀ (xs ys : List AV), AV.eqbs xs ys = true → xs = ys
  | [], ys, h => by cases ys <;> first | rfl | (simp [AV.eqbs] at h)
  | x :: xs, ys, h => by
    cases ys with
    | nil => simp [AV.eqbs] at h
    | cons y ys =>
      simp [AV.eqbs] at h
      rw [AV.eqb_eq _ _ h.1, AV.eqbs_eq _ _ h.2]
end
def ABlk.eqb : ABlk → ABlk → Bool
  | .dead, y => (match y with | .dead => true | _ => false)
  | .cells o e xs, y => (match y with | .cells o' e' xs' => (o == o') && (decide (e = e') && AV.eqbs xs xs') | _ => false)
  | .map es, y => (match y with | .map es' => AV.eqbs (es.map (·.1)) (es'.map (·.1)) && AV.eqbs (es.map (·.2)) (es'.map (·.2)) | _ => false)
theorem pairs_eq {α β : Type} : ∀ {l m : List (α × β)}, l.map (·.1) = m.map (·.1) → l.map (·.2) = m.map (·.2) → l = m
  | [], [], _, _ => rfl
  | [], _ :: _, h, _ => by simp at h
  | _ :: _, [], h, _ => by simp at h
  | (a, b) :: l, (c, d) :: m, h1, h2 => by
    simp only [List.map_cons, List.cons.injEq] at h1 h2
    rw [h1.1, h2.1, pairs_eq h1.2 h2.2]
theorem ABlk.eqb_eq {x y : ABlk} (h : ABlk.eqb x y = true) : x = y := by
  cases x <;> cases y <;> first | rfl | (simp [ABlk.eqb] at h; done) | skip
  · simp [ABlk.eqb] at h
    rw [h.1, h.2.1, AV.eqbs_eq _ _ h.2.2]
  simp only [ABlk.eqb, Bool.and_eq_true] at h
  rw [pairs_eq (AV.eqbs_eq _ _ h.1) (AV.eqbs_eq _ _ h.2)]
/-- The memory begins as it was. -/
def prefixB : AHeap → AHeap → Bool
  | [], _ => true
  | x :: r, y :: s => ABlk.eqb x y && prefixB r s
  | _ :: _, [] => false
theorem prefixB_eq : ∀ {H H' : AHeap}, prefixB H H' = true → ∃ l, H' = H ++ l
  | [], H', _ => ⟨H', rfl⟩
  | x :: r, [], h => by simp [prefixB] at h
  | x :: r, y :: s, h => by
    simp only [prefixB, Bool.and_eq_true] at h
    obtain ⟨l, hl⟩ := prefixB_eq h.2
    exact ⟨l, by rw [← ABlk.eqb_eq h.1, hl]; rfl⟩
/-- A frame as a tree by the bits of a slot's number. -/
inductive FT where
  | nil
  | leaf (x : AV)
  | node (l r : FT)
def FT.get : Nat → FT → Nat → AV
  | 0, f, _ => (match f with | .leaf x => x | _ => .any)
  | d + 1, f, t => (match f with | .node l r => bif Nat.beq (t % 2) 0 then FT.get d l (t / 2) else FT.get d r (t / 2) | _ => .any)
def FT.set : Nat → Nat → AV → FT → FT
  | 0, _, x, _ => .leaf x
  | d + 1, t, x, f => (match f with
    | .node l r => bif Nat.beq (t % 2) 0 then .node (FT.set d (t / 2) x l) r else .node l (FT.set d (t / 2) x r)
    | _ => bif Nat.beq (t % 2) 0 then .node (FT.set d (t / 2) x .nil) .nil else .node .nil (FT.set d (t / 2) x .nil))
theorem FT.get_nil : ∀ (d s : Nat), FT.get d .nil s = .any
  | 0, _ => rfl
  | _ + 1, _ => rfl
theorem FT.get_set : ∀ (d t s : Nat) (x : AV) (f : FT), t < 2 ^ d → s < 2 ^ d → FT.get d (FT.set d t x f) s = if t = s then x else FT.get d f s
  | 0, t, s, x, f, ht, hs => by
    have : t = s := by simp at ht hs; omega
    rw [if_pos this]; rfl
  | d + 1, t, s, x, f, ht, hs => by
    have ht' : t / 2 < 2 ^ d := by rw [Nat.pow_succ] at ht; omega
    have hs' : s / 2 < 2 ^ d := by rw [Nat.pow_succ] at hs; omega
    have ih := FT.get_set d (t / 2) (s / 2) x
    have hb : ∀ u : Nat, Nat.beq (u % 2) 0 = decide (u % 2 = 0) := fun u => by
      by_cases h : u % 2 = 0
      · rw [h]; rfl
      have : u % 2 = 1 := by omega
      rw [this]; rfl
    have key : ∀ l r : FT, FT.get (d + 1) (bif Nat.beq (t % 2) 0 then .node (FT.set d (t / 2) x l) r else .node l (FT.set d (t / 2) x r)) s = if t = s then x else FT.get (d + 1) (.node l r) s := fun l r => by
      rw [hb]
      by_cases h1 : t % 2 = 0
      · simp only [h1, decide_true, cond_true, FT.get]
        rw [hb]
        by_cases h2 : s % 2 = 0
        · simp only [h2, decide_true, cond_true]
          rw [ih l ht' hs']
          by_cases e : t = s
          · rw [if_pos (by rw [e]), if_pos e]
          rw [if_neg (by omega), if_neg e]
        simp only [h2, decide_false, cond_false]
        rw [if_neg (by omega)]
      simp only [h1, decide_false, cond_false, FT.get]
      rw [hb]
      by_cases h2 : s % 2 = 0
      · simp only [h2, decide_true, cond_true]
        rw [if_neg (by omega)]
      simp only [h2, decide_false, cond_false]
      rw [ih r ht' hs']
      by_cases e : t = s
      · rw [if_pos (by rw [e]), if_pos e]
      rw [if_neg (by omega), if_neg e]
    cases f with
    | node l r => exact key l r
    | nil =>
      have := key .nil .nil
      rw [show FT.get (d + 1) (.node .nil .nil) s = FT.get (d + 1) .nil s by simp [FT.get, FT.get_nil]] at this
      exact this
    | leaf y =>
      have := key .nil .nil
      rw [show FT.get (d + 1) (.node .nil .nil) s = FT.get (d + 1) (.leaf y) s by simp [FT.get, FT.get_nil]] at this
      exact this
/-- What a slot holds. -/
def getT (f : FT) (t : Nat) : AV := bif Nat.blt t 1024 then FT.get 10 f t else .any
def putR (d : Option Tmp) (x : AV) (f : FT) : FT :=
  match d with
  | some t => FT.set 10 t x f
  | none => f
def okD (d : Option Tmp) : Bool :=
  match d with
  | some t => Nat.blt t 1024
  | none => true
theorem look_putR {f : FT} {G : Fr} (h : getT f = look G) {d : Option Tmp} (hd : okD d = true) (x : AV) : getT (putR d x f) = look (putF d x G) := by
  funext s
  cases d with
  | none => exact congrFun h s
  | some t =>
    have hs := congrFun h s
    have ht : t < 1024 := Nat.le_of_ble_eq_true hd
    show getT (FT.set 10 t x f) s = look ((t, x) :: G) s
    unfold getT at hs ⊢
    simp only [look]
    cases hb : Nat.blt s 1024 with
    | false =>
      rw [hb] at hs
      have hlt : ¬ s < 1024 := fun hh => by rw [show Nat.blt s 1024 = true from Nat.ble_eq_true_of_le hh] at hb; cases hb
      have : (t == s) = false := by rw [beq_eq_false_iff_ne]; exact fun e => hlt (e ▸ ht)
      rw [this]; exact hs
    | true =>
      rw [hb] at hs
      simp only [cond_true] at hs ⊢
      have hlt : s < 1024 := Nat.le_of_ble_eq_true hb
      rw [FT.get_set 10 t s x f (by simpa using ht) (by simpa using hlt), hs]
      by_cases e : t = s
      · simp [e]
      have : (t == s) = false := by simp [e]
      rw [if_neg e, this]; rfl
theorem getT_nil : getT .nil = look [] := by
  funext s
  unfold getT
  cases Nat.blt s 1024 <;> simp [FT.get_nil, look]
/-- The arguments' frame. -/
def argT : Nat → List AV → FT
  | _, [] => .nil
  | i, x :: r => FT.set 10 i x (argT (i + 1) r)
theorem argT_eq : ∀ (xs : List AV) (i : Nat), i + xs.length ≤ 1024 → getT (argT i xs) = look (argF i xs)
  | [], i, _ => getT_nil
  | x :: r, i, h => by
    simp only [List.length_cons] at h
    exact look_putR (d := some i) (argT_eq r (i + 1) (by omega)) (Nat.ble_eq_true_of_le (by omega)) x
def ev (f : FT) : Operand → AV
  | .tmp t => getT f t
  | .const v => AV.ofValue v
  | .global _ => .any
  | .func g => .fn g []
theorem ev_eq {f : FT} {G : Fr} (h : getT f = look G) : ev f = aev G := by
  funext o; cases o <;> simp [ev, aev, h]
def aopE (P : Program) (o : Op) (e : Operand → AV) (H : AHeap) : Option (AV × AHeap) :=
  match o with
  | .move x => some (e x, H)
  | .assign x => some (e x, H)
  | .pick c a b => (match e c with | .bool t => some (bif t then e a else e b, H) | _ => none)
  | .alloc t => aAlloc P t H
  | .box _ x => aBox (e x) H
  | .build t ps => (aBuild P t (ps.toList.map fun p => (p.1, e p.2))).map fun r => (r, H)
  | .buildSlice t n ps => aBuildSlice P t n (ps.toList.map fun p => (p.1, e p.2)) H
  | .load t a => aLoad P t (e a) H
  | .store t a x => (aStore P t (e a) (e x) H).map fun H' => (.any, H')
  | .nilCheck x => (match e x with | .ptr (some a) => some (.ptr (some a), H) | .fn f c => some (.fn f c, H) | _ => none)
  | .binOp op t x y _ => (aBin P op t (e x) (e y)).map fun r => (r, H)
  | .unOp op _ x => (aUn op (e x)).map fun r => (r, H)
  | .convert s d x => (aConv P s d (e x) H).map fun r => (r, H)
  | .makeFunc fn first caps => (match fn with | .func f => (need (first.toList.length = 0)).map fun _ => (.fn f (caps.toList.map e), H) | _ => none)
  | .makeMap t r => (match r with | none => some (.mp (some H.length), H ++ [.map []]) | some x => (match e x with | .int _ _ => (tMap P t).map fun _ => (.mp (some H.length), H ++ [.map []]) | _ => none))
  | .makeSlice t l c => aMakeSlice P t (e l) (e c) H
  | .slice t x lo hi mx => (aSlice P t (e x) (lo.map e) (hi.map e) (mx.map e) H).map fun r => (r, H)
  | .fieldAddr t x f => (aFieldAddr P t (e x) f).map fun r => (r, H)
  | .field t x f => (aField P t (e x) f).map fun r => (r, H)
  | .indexAddr t x i => (aIndexAddr P t (e x) (e i)).map fun r => (r, H)
  | .index t x i => (aIndex P t (e x) (e i)).map fun r => (r, H)
  | .lookup t m k ok => (aLookup P t (e m) (e k) ok H).map fun r => (r, H)
  | .mapUpdate t m k x => (aMapUpdate P t (e m) (e k) (e x) H).map fun H' => (.any, H')
  | .extract x i => (aExtract (e x) i).map fun r => (r, H)
  | .call c => (match c.callee with | .builtin b => aBuiltin P b c.argTypes.toList (c.args.toList.map e) H | _ => none)
  | _ => none
theorem aopE_eq (P : Program) (o : Op) (G : Fr) (H : AHeap) : aopE P o (aev G) H = aop P o G H := by
  cases o <;> rfl
def calleeE (o : Op) (e : Operand → AV) : Option (FuncId × List AV) :=
  match o with
  | .call c => (match c.callee with | .value f => (match e f with | .fn k caps => some (k, c.args.toList.map e ++ caps) | _ => none) | _ => none)
  | _ => none
theorem calleeE_eq (o : Op) (G : Fr) : calleeE o (aev G) = calleeOf o G := by
  cases o <;> rfl
def gdE (f : FT) : Option (Option Tmp × Bool) → Option Bool
  | none => some true
  | some (none, _) => none
  | some (some t, want) => (match getT f t with | .bool b => some (b == want) | .tup [] => some false | _ => none)
theorem gdE_eq {f : FT} {G : Fr} (h : getT f = look G) (g : Option (Option Tmp × Bool)) : gdE f g = gdL G g := by
  cases g with
  | none => rfl
  | some p =>
    obtain ⟨a, b⟩ := p
    cases a with
    | none => rfl
    | some t =>
      simp only [gdE, gdL, h]
      cases look G t with
      | tup l => cases l <;> rfl
      | _ => rfl
def aResE (P : Program) : List ResultVar → FT → AHeap → Option (List AV)
  | [], _, _ => some []
  | .tmp t :: rs, f, H => (aResE P rs f H).map fun l => getT f t :: l
  | .cell a t :: rs, f, H => (aLoad P t (getT f a) H).bind fun x => (aResE P rs f H).map fun l => x.1 :: l
theorem aResE_eq {f : FT} {G : Fr} (h : getT f = look G) (P : Program) (H : AHeap) : ∀ rs : List ResultVar, aResE P rs f H = aRes P rs G H
  | [] => rfl
  | .tmp t :: rs => by simp [aResE, aRes, h, aResE_eq h P H rs]
  | .cell a t :: rs => by simp [aResE, aRes, h, aResE_eq h P H rs]
abbrev Caller := FuncId → List AV → AHeap → Option (AV × Option AHeap)
def CallOk (P : Program) (call : Caller) : Prop := ∀ f args H x o, call f args H = some (x, o) → okFn P f = true ∧ H.length ≤ (o.getD H).length ∧ ACalls P f args H (fun y H1 => y = x ∧ H1 = o.getD H)
def belowB (m : Nat) : AV → Bool
  | .ptr (some (b, _)) => Nat.blt b m
  | .sl (some (b, _)) _ _ => Nat.blt b m
  | _ => true
def lenB (m : Nat) : AV → Bool
  | .mp (some b) => Nat.blt b m
  | _ => true
theorem belowB_ok {m : Nat} : ∀ {x : AV}, belowB m x = true → belowV m x
  | .ptr (some (_, _)), h => Nat.le_of_ble_eq_true h
  | .sl (some (_, _)) _ _, h => Nat.le_of_ble_eq_true h
  | .ptr none, _ => trivial | .sl none _ _, _ => trivial | .mp _, _ => trivial
  | .any, _ => trivial | .int _ _, _ => trivial | .bool _, _ => trivial | .str _, _ => trivial | .fn _ _, _ => trivial | .nilfn, _ => trivial | .agg _, _ => trivial | .tup _, _ => trivial
theorem lenB_ok {m : Nat} : ∀ {x : AV}, lenB m x = true → lenV m x
  | .mp (some _), h => Nat.le_of_ble_eq_true h
  | .mp none, _ => trivial | .sl _ _ _, _ => trivial | .ptr _, _ => trivial
  | .any, _ => trivial | .int _ _, _ => trivial | .bool _, _ => trivial | .str _, _ => trivial | .fn _ _, _ => trivial | .nilfn, _ => trivial | .agg _, _ => trivial | .tup _, _ => trivial
def lateB (d : Option Nat) (o : Op) (e : Operand → AV) : Bool :=
  match d with
  | some m => (match o with
    | .load _ a => belowB m (e a)
    | .slice _ x _ _ _ => belowB m (e x)
    | .call c => (match c.callee, c.args.toList with | .builtin .len, x :: _ => lenB m (e x) | _, _ => true)
    | _ => true)
  | none => true
theorem lateB_ok {m : Nat} {o : Op} {G : Fr} (h : lateB (some m) o (aev G) = true) : lateOk m o G := by
  unfold lateB at h
  unfold lateOk
  simp only at h
  split
  · exact belowB_ok h
  · exact belowB_ok h
  · simp only at h
    split
    · rename_i h1 h2
      simp only [h1, h2] at h
      exact lenB_ok h
    trivial
  trivial
/-- A call leaves what is below m. -/
def keepsB (m : Nat) (H H' : AHeap) : Bool := (List.range m).all fun b => match H[b]?, H'[b]? with | some x, some y => ABlk.eqb y x | none, none => true | _, _ => false
theorem keepsB_ok {m : Nat} {H H' : AHeap} (h : keepsB m H H' = true) : ∀ b, b < m → H'[b]? = H[b]? := fun b hb => by
  have := List.all_eq_true.1 h b (List.mem_range.2 hb)
  revert this
  cases H[b]? <;> cases H'[b]? <;> simp
  exact fun h => (ABlk.eqb_eq h)
def keepD (d : Option Nat) (H H' : AHeap) : Bool := match d with | some m => keepsB m H H' | none => true
/-- Operations in a row (keep: a call must leave the memory as it was; d: in a region that draws, how many blocks were there before it). -/
def rOps (P : Program) (keep : Bool) (d : Option Nat) (call : Caller) : List LOp → FT → AHeap → Option (FT × AHeap)
  | [], F, H => some (F, H)
  | o :: os, F, H =>
    bif okD o.dst then
      match gdE F o.g with
      | none => none
      | some false => rOps P keep d call os (putR o.dst (.tup []) F) H
      | some true =>
        match calleeE o.op (ev F) with
        | some p =>
          match call p.1 p.2 H with
          | none => none
          | some (x, none) => rOps P keep d call os (putR o.dst x F) H
          | some (x, some H') => bif keep || !keepD d H H' then none else rOps P keep d call os (putR o.dst x F) H'
        | none =>
          bif lateB d o.op (ev F) then
            match aopE P o.op (ev F) H with
            | none => none
            | some (x, H') => rOps P keep d call os (putR o.dst x F) H'
          else none
    else none
section
section
variable {P : Program} {N n m : Nat} {d : Option Nat} {q keep : Bool} {call : Caller}
theorem rOps_ok (hcall : CallOk P call) : ∀ (os : List LOp) (F : FT) (H : AHeap) (F' : FT) (H' : AHeap), rOps P keep d call os F H = some (F', H') → ∀ G, getT F = look G → AOpsL P os G H (fun G' H1 => getT F' = look G' ∧ H1 = H')
  | [], F, H, F', H', h, G, hG => by
    simp only [rOps, Option.some.injEq, Prod.mk.injEq] at h
    obtain ⟨rfl, rfl⟩ := h
    exact ⟨hG, rfl⟩
  | o :: os, F, H, F', H', h, G, hG => by
    unfold rOps at h
    unfold AOpsL
    cases hd : okD o.dst with
    | false => rw [hd] at h; cases h
    | true =>
    rw [hd, cond_true] at h
    rw [gdE_eq hG, ev_eq hG, calleeE_eq, aopE_eq] at h
    cases hg : gdL G o.g with
    | none => rw [hg] at h; cases h
    | some b =>
      rw [hg] at h
      cases b
      · exact rOps_ok hcall os _ _ _ _ h _ (look_putR hG hd _)
      simp only at h ⊢
      unfold AOp
      cases hc : calleeOf o.op G with
      | some p =>
        rw [hc] at h
        simp only at h ⊢
        cases hk : call p.1 p.2 H with
        | none => rw [hk] at h; cases h
        | some r =>
          obtain ⟨x, mm⟩ := r
          rw [hk] at h
          obtain ⟨h1, h1', h2⟩ := hcall _ _ _ _ _ hk
          cases mm with
          | none =>
            have key := rOps_ok hcall os _ _ _ _ h _ (look_putR hG hd x)
            exact ⟨h1, h2.mono fun y H1 hy => by rw [hy.1, hy.2]; exact key⟩
          | some H2 =>
            have h' : rOps P keep d call os (putR o.dst x F) H2 = some (F', H') := by
              simp only at h
              cases hqq : (keep || !keepD d H H2)
              · rw [hqq] at h; exact h
              rw [hqq] at h; cases h
            have key := rOps_ok hcall os _ _ _ _ h' _ (look_putR hG hd x)
            exact ⟨h1, h2.mono fun y H1 hy => by rw [hy.1, hy.2]; exact key⟩
      | none =>
        rw [hc] at h
        simp only at h ⊢
        cases hlt : lateB d o.op (aev G) with
        | false => rw [hlt] at h; cases h
        | true =>
        rw [hlt, cond_true] at h
        cases hx : aop P o.op G H with
        | none => rw [hx] at h; cases h
        | some r =>
          obtain ⟨x, H1⟩ := r
          rw [hx] at h
          exact ⟨_, rfl, rOps_ok hcall os _ _ _ _ h _ (look_putR hG hd _)⟩
theorem rOpsD_ok (hcall : CallOk P call) : ∀ (os : List LOp) (F : FT) (H : AHeap) (F' : FT) (H' : AHeap), rOps P q (some m) call os F H = some (F', H') → ∀ G, getT F = look G → AOpsDL P q m os G H (fun G' H1 => getT F' = look G' ∧ H1 = H')
  | [], F, H, F', H', h, G, hG => by
    simp only [rOps, Option.some.injEq, Prod.mk.injEq] at h
    obtain ⟨rfl, rfl⟩ := h
    exact ⟨hG, rfl⟩
  | o :: os, F, H, F', H', h, G, hG => by
    unfold rOps at h
    unfold AOpsDL
    cases hd : okD o.dst with
    | false => rw [hd] at h; cases h
    | true =>
    rw [hd, cond_true] at h
    rw [gdE_eq hG, ev_eq hG, calleeE_eq, aopE_eq] at h
    cases hg : gdL G o.g with
    | none => rw [hg] at h; cases h
    | some b =>
      rw [hg] at h
      cases b
      · exact rOpsD_ok hcall os _ _ _ _ h _ (look_putR hG hd _)
      simp only at h ⊢
      unfold AOpD
      cases hc : calleeOf o.op G with
      | some p =>
        rw [hc] at h
        simp only at h ⊢
        cases hk : call p.1 p.2 H with
        | none => rw [hk] at h; cases h
        | some r =>
          obtain ⟨x, mm⟩ := r
          rw [hk] at h
          obtain ⟨h1, h1', h2⟩ := hcall _ _ _ _ _ hk
          cases mm with
          | none =>
            have key := rOpsD_ok hcall os _ _ _ _ h _ (look_putR hG hd x)
            exact ⟨h1, x, H, fun _ => rfl, ⟨Nat.le_refl _, fun _ _ _ => rfl⟩, h2, key⟩
          | some H2 =>
            have hqq : q = false ∧ keepD (some m) H H2 = true := by
              cases hqq : (q || !keepD (some m) H H2)
              · simpa using hqq
              simp only [hqq] at h; cases h
            obtain ⟨hqf, hkb⟩ := hqq
            have h' : rOps P q (some m) call os (putR o.dst x F) H2 = some (F', H') := by
              simp only at h
              rw [hqf, hkb] at h
              rw [hqf]; exact h
            have key := rOpsD_ok hcall os _ _ _ _ h' _ (look_putR hG hd x)
            exact ⟨h1, x, H2, (fun hq => by rw [hqf] at hq; cases hq), ⟨h1', fun b hb _ => keepsB_ok (H := H) (H' := H2) hkb b hb⟩, h2, key⟩
      | none =>
        rw [hc] at h
        simp only at h ⊢
        cases hlt : lateB (some m) o.op (aev G) with
        | false => rw [hlt] at h; cases h
        | true =>
        rw [hlt, cond_true] at h
        cases hx : aop P o.op G H with
        | none => rw [hx] at h; cases h
        | some r =>
          obtain ⟨x, H1⟩ := r
          rw [hx] at h
          exact ⟨lateB_ok hlt, _, rfl, rOpsD_ok hcall os _ _ _ _ h _ (look_putR hG hd _)⟩
/-- Code, run (n: how many blocks were there). -/
def rCode (P : Program) (q : Bool) (n : Nat) (call : Caller) : Nat → Code → FT → AHeap → Option (Exit × FT × AHeap)
  | 0, _, _, _ => none
  | k + 1, .seq a b, F, H =>
    match rCode P q n call k a F H with
    | some (.normal, F1, H1) => rCode P q n call k b F1 H1
    | r => r
  | k + 1, .cond c a b, F, H =>
    match ev F c with
    | .bool true => rCode P q n call k a F H
    | .bool false => rCode P q n call k b F H
    | _ => none
  | k + 1, .block id c, F, H =>
    match rCode P q n call k c F H with
    | some (.exit id', F1, H1) => some (bif id' == id then .normal else .exit id', F1, H1)
    | r => r
  | k + 1, .loop c, F, H =>
    bif Nat.ble n H.length then
      match rCode P q n call k c F H with
      | some (.normal, F1, H1) => rCode P q n call k (.loop c) F1 H1
      | r => r
    else none
  | _ + 1, .region _ ops draw, F, H => (rOps P (draw && q) (bif draw then some H.length else none) call (ops.toList.map (lightOf (dsts ops))) F H).map fun r => (.normal, r.1, r.2)
  | _ + 1, .skip, F, H => some (.normal, F, H)
  | _ + 1, .label _, F, H => some (.normal, F, H)
  | _ + 1, .exit id, F, H => some (.exit id, F, H)
  | _ + 1, .ret, F, H => some (.ret, F, H)
  | _ + 1, _, _, _ => none
theorem Rel.env {E E' : Env} {x : AV} {v : Value} (h : Rel E x v) (hn : E'.n = E.n) (hl : ∀ b, E'.loc b = E.loc b) : Rel E' x v := by
  induction h with
  | any v => exact .any v
  | int k n => exact .int k n
  | bool b => exact .bool b
  | str s => exact .str s
  | nilptr => exact .nilptr
  | ptr b o hb => rw [← hl b]; exact .ptr b o (by rw [hn]; exact hb)
  | nilsl => exact .nilsl
  | nils b cap hb hc => exact .nils b cap (by rw [hn]; exact hb) hc
  | sl b o len cap c a hb h1 h2 h3 h4 h5 => exact .sl b o len cap c a (by rw [hn]; exact hb) h1 h2 h3 (by rw [hl]; exact h4) (by rw [hl]; exact h5)
  | nilmp => exact .nilmp
  | mp b hb => rw [← hl b]; exact .mp b (by rw [hn]; exact hb)
  | nilfn => exact .nilfn
  | fn f caps cs hl' _ ih => exact .fn f caps cs hl' ih
  | agg xs cs hl' _ ih => exact .agg xs cs hl' ih
  | tup xs cs hl' _ ih => exact .tup xs cs hl' ih
theorem RelL.env {E E' : Env} {xs : List AV} {vs : List Value} (h : RelL E xs vs) (hn : E'.n = E.n) (hl : ∀ b, E'.loc b = E.loc b) : RelL E' xs vs := ⟨h.1, fun i x v hx hv => (h.2 i x v hx hv).env hn hl⟩
theorem BlkOk.env {E E' : Env} {w : World} {L : Loc} {x : ABlk} (h : BlkOk E w L x) (hB : E'.B = E.B) (hn : E'.n = E.n) (hl : ∀ b, E'.loc b = E.loc b) : BlkOk E' w L x := by
  cases x with
  | dead => trivial
  | cells own es xs =>
    obtain ⟨h1, h2, h3, h4⟩ := h
    refine ⟨fun j x hj => ?_, fun ho => by rw [hB]; exact h2 ho, fun ho hl => by rw [hB]; exact h3 ho hl, h4⟩
    obtain ⟨a, v, hv, hr⟩ := h1 j x hj
    exact ⟨a, v, hv, hr.env hn hl⟩
  | map es =>
    obtain ⟨h1, h2, ents, clock, h3, h4, h5⟩ := h
    exact ⟨by rw [hB]; exact h1, h2, ents, clock, h3, h4.env hn hl, h5.env hn hl⟩
theorem Abs0.same (n : Nat) {F G : Fr} (h : look F = look G) {H : AHeap} (hn : n ≤ H.length) : Abs0 n id F H G H where
  small _ _ := rfl
  len := hn
  frame E E' h1 h2 h3 t v hv := by
    rw [← h]
    exact hv.env (h2.trans h1.symm) h3
  heap E E' h1 h2 h3 h4 w hw b x hx := by
    rw [h4 b]
    exact (hw b x hx).env h3 (h2.trans h1.symm) h4
  inj b c x y hx hy ox oy hbc := ⟨hbc, ⟨x, hx, ox⟩, y, hy, oy⟩
theorem Abs.same (n : Nat) {F G : Fr} (h : look F = look G) {H : AHeap} (hn : n ≤ H.length) : Abs n id F H G H := (Abs0.same n h hn).abs
/-- What a run says. -/
def Ran (q : Bool) (N n : Nat) (P : Program) (r : Exit × FT × AHeap) (c : Code) (F : FT) (H : AHeap) : Prop :=
  ∀ G, getT F = look G → AW P N n c (fun e G1 H1 => e = r.1 ∧ getT r.2.1 = look G1 ∧ H1 = r.2.2) G H
theorem rCode_ok (hm : P.follows .mixedOrders = true) (hcall : CallOk P call) : ∀ (K k : Nat), k ≤ K → ∀ c, codeOk N q c = true → ∀ (F : FT) (H : AHeap) (r : Exit × FT × AHeap), rCode P q n call k c F H = some r → Ran q N n P r c F H
  | K, 0, _, c, _, F, H, r, h => by unfold rCode at h; cases h
  | 0, k + 1, hk, _, _, _, _, _, _ => by omega
  | K + 1, k + 1, hk, c, hc, F, H, r, h => by
    have IH := rCode_ok hm hcall K
    intro G hG
    cases c with
    | skip =>
      simp only [rCode, Option.some.injEq] at h
      subst h
      exact AW_skip ⟨rfl, hG, rfl⟩
    | label l =>
      simp only [rCode, Option.some.injEq] at h
      subst h
      exact AW_label ⟨rfl, hG, rfl⟩
    | exit id =>
      simp only [rCode, Option.some.injEq] at h
      subst h
      exact AW_exit ⟨rfl, hG, rfl⟩
    | ret =>
      simp only [rCode, Option.some.injEq] at h
      subst h
      exact AW_ret ⟨rfl, hG, rfl⟩
    | seq a b =>
      simp only [codeOk, Bool.and_eq_true] at hc
      unfold rCode at h
      cases ha : rCode P q n call k a F H with
      | none => rw [ha] at h; cases h
      | some r1 =>
        obtain ⟨e1, F1, H1⟩ := r1
        rw [ha] at h
        refine AW_seq (AW.mono (IH k (by omega) a hc.1 F H _ ha G hG) ?_)
        rintro e G1 H2 ⟨h1, h2, h3⟩
        simp only at h1 h2 h3
        rw [h1, h3]
        cases e1 with
        | normal => exact IH k (by omega) b hc.2 F1 H1 _ h G1 h2
        | exit id => simp only [Option.some.injEq] at h; subst h; exact ⟨rfl, h2, rfl⟩
        | goto id => simp only [Option.some.injEq] at h; subst h; exact ⟨rfl, h2, rfl⟩
        | ret => simp only [Option.some.injEq] at h; subst h; exact ⟨rfl, h2, rfl⟩
        | panic ch => simp only [Option.some.injEq] at h; subst h; exact ⟨rfl, h2, rfl⟩
        | outgrown => simp only [Option.some.injEq] at h; subst h; exact ⟨rfl, h2, rfl⟩
    | cond c a b =>
      simp only [codeOk, Bool.and_eq_true] at hc
      unfold rCode at h
      rw [ev_eq hG] at h
      cases ht : aev G c with
      | bool t =>
        rw [ht] at h
        cases t with
        | true => exact AW_cond true ht (fun _ => IH k (by omega) a hc.1 F H _ h G hG) (fun e => by cases e)
        | false => exact AW_cond false ht (fun e => by cases e) (fun _ => IH k (by omega) b hc.2 F H _ h G hG)
      | _ => rw [ht] at h; cases h
    | block id c =>
      simp only [codeOk] at hc
      unfold rCode at h
      cases ha : rCode P q n call k c F H with
      | none => rw [ha] at h; cases h
      | some r1 =>
        obtain ⟨e1, F1, H1⟩ := r1
        rw [ha] at h
        refine AW_block (AW.mono (IH k (by omega) c hc F H _ ha G hG) ?_)
        rintro e G1 H2 ⟨h1, h2, h3⟩
        simp only at h1 h2 h3
        rw [h1, h3]
        cases e1 with
        | exit id' =>
          simp only [Option.some.injEq] at h
          subst h
          show (if id' = id then _ else _)
          by_cases e : id' = id
          · rw [if_pos e]; simp [e, h2]
          have hb : (id' == id) = false := by simp [e]
          rw [if_neg e, hb]; exact ⟨rfl, h2, rfl⟩
        | normal => simp only [Option.some.injEq] at h; subst h; exact ⟨rfl, h2, rfl⟩
        | goto id => simp only [Option.some.injEq] at h; subst h; exact ⟨rfl, h2, rfl⟩
        | ret => simp only [Option.some.injEq] at h; subst h; exact ⟨rfl, h2, rfl⟩
        | panic ch => simp only [Option.some.injEq] at h; subst h; exact ⟨rfl, h2, rfl⟩
        | outgrown => simp only [Option.some.injEq] at h; subst h; exact ⟨rfl, h2, rfl⟩
    | loop c =>
      simp only [codeOk] at hc
      have nle : ∀ j F H, rCode P q n call j (.loop c) F H = some r → n ≤ H.length := fun j F H hh => by
        cases j with
        | zero => unfold rCode at hh; cases hh
        | succ j =>
          unfold rCode at hh
          cases hb : Nat.ble n H.length
          · rw [hb] at hh; cases hh
          exact Nat.le_of_ble_eq_true hb
      refine AW_loop (fun j F' H' => j ≤ k + 1 ∧ ∃ F0, getT F0 = look F' ∧ rCode P q n call j (.loop c) F0 H' = some r) (k + 1) ⟨id, G, H, ⟨Nat.le_refl _, F, hG, h⟩, Abs.same n rfl (nle _ _ _ h)⟩ ?_
      rintro j F1 H1 ⟨hj, F0, hF0, hr⟩
      cases j with
      | zero => unfold rCode at hr; cases hr
      | succ j =>
        have hn := nle _ _ _ hr
        unfold rCode at hr
        rw [Nat.ble_eq_true_of_le hn, cond_true] at hr
        cases ha : rCode P q n call j c F0 H1 with
        | none => rw [ha] at hr; cases hr
        | some r1 =>
          obtain ⟨e1, F2, H2⟩ := r1
          rw [ha] at hr
          refine AW.mono (IH j (by omega) c hc F0 H1 _ ha F1 hF0) ?_
          rintro e G1 H3 ⟨h1, h2, h3⟩
          simp only at h1 h2 h3
          rw [h1, h3]
          cases e1 with
          | normal => exact ⟨j, by omega, id, G1, H2, ⟨by omega, F2, h2, hr⟩, Abs.same n rfl (nle _ _ _ hr)⟩
          | exit id => simp only [Option.some.injEq] at hr; subst hr; exact ⟨rfl, h2, rfl⟩
          | goto id => simp only [Option.some.injEq] at hr; subst hr; exact ⟨rfl, h2, rfl⟩
          | ret => simp only [Option.some.injEq] at hr; subst hr; exact ⟨rfl, h2, rfl⟩
          | panic ch => simp only [Option.some.injEq] at hr; subst hr; exact ⟨rfl, h2, rfl⟩
          | outgrown => simp only [Option.some.injEq] at hr; subst hr; exact ⟨rfl, h2, rfl⟩
    | region id ops draw =>
      unfold rCode at h
      simp only [Option.map_eq_some_iff] at h
      obtain ⟨⟨F1, H1⟩, h1, h2⟩ := h
      subst h2
      refine AW_of hm _ hc _ _ _ ?_
      cases draw with
      | false => exact AOpsL.mono (fun F H hh => ⟨rfl, hh⟩) _ _ _ (rOps_ok hcall _ _ _ _ _ h1 G hG)
      | true => exact AOpsDL.mono (fun F H hh => ⟨rfl, hh⟩) _ _ _ (rOpsD_ok hcall _ _ _ _ _ h1 G hG)
    | _ => unfold rCode at h; cases h
def lookT : List (Nat × Bool × Func) → Nat → Option (Bool × Func)
  | [], _ => none
  | p :: r, f => bif Nat.beq p.1 f then some p.2 else lookT r f
/-- A function, run: what it hands back, and the memory if it has changed. -/
def rFun (P : Program) (ext : Caller) (tb : List (Nat × Bool × Func)) (fuel : Nat) : Nat → Caller
  | 0, _, _, _ => none
  | k + 1, f, args, H =>
    match lookT tb f with
    | none => ext f args H
    | some (q, fn) =>
      match fn.body with
      | none => none
      | some c =>
        bif Nat.ble args.length fn.ntmps && Nat.ble args.length 1024 then
          match rCode P q H.length (rFun P ext tb fuel k) fuel c (argT 0 args) H with
          | none => none
          | some (e, F', H') =>
            bif (match e with | .ret => true | .normal => true | _ => false) then
              match (aResE P fn.results.toList F' H').map one1 with
              | none => none
              | some x => bif x.bel 0 && prefixB H H' then some (x, none) else bif Nat.ble H.length H'.length then some (x, some H') else none
            else none
        else none
/-- The functions of a table can be entered, and their regions are as the machine wants them. -/
inductive TbOk (P : Program) : List (Nat × Bool × Func) → Prop where
  | nil : TbOk P []
  | cons {f : Nat} {q : Bool} {fn : Func} {r : List (Nat × Bool × Func)} : okFn P f = true → P.funcs[f]? = some fn → (fn.body.map (codeOk fn.ntmps q)) = some true → TbOk P r → TbOk P ((f, q, fn) :: r)
theorem lookT_ok {P : Program} : ∀ {tb : List (Nat × Bool × Func)}, TbOk P tb → ∀ {f : Nat} {q : Bool} {fn : Func}, lookT tb f = some (q, fn) → okFn P f = true ∧ P.funcs[f]? = some fn ∧ (fn.body.map (codeOk fn.ntmps q)) = some true
  | _, .nil, f, q, fn, h => by cases h
  | _, .cons (f := g) h1 h2 h3 hr, f, q, fn, h => by
    unfold lookT at h
    cases hp : Nat.beq g f
    · simp only [hp, cond_false] at h
      exact lookT_ok hr h
    simp only [hp, cond_true, Option.some.injEq, Prod.mk.injEq] at h
    have e : g = f := Nat.eq_of_beq_eq_true hp
    obtain ⟨rfl, rfl⟩ := h
    subst e
    exact ⟨h1, h2, h3⟩
theorem rFun_ok (hm : P.follows .mixedOrders = true) {ext : Caller} (hext : CallOk P ext) (tb : List (Nat × Bool × Func)) (htb : TbOk P tb) (fuel : Nat) : ∀ k, CallOk P (rFun P ext tb fuel k)
  | 0 => fun f args H x o h => by unfold rFun at h; cases h
  | k + 1 => fun f args H x o h => by
    have IH := rFun_ok hm hext tb htb fuel k
    unfold rFun at h
    cases hq : lookT tb f with
    | none => rw [hq] at h; exact hext f args H x o h
    | some p =>
      obtain ⟨q, fn⟩ := p
      rw [hq] at h
      obtain ⟨ht1, hf, ht2⟩ := lookT_ok htb hq
      refine ⟨ht1, ?_⟩
      suffices hall : H.length ≤ (o.getD H).length ∧ ACalls P f args H (fun y H1 => y = x ∧ H1 = o.getD H) from hall
      simp only at h
      cases hb : fn.body with
      | none => rw [hb] at h; cases h
      | some c =>
        rw [hb] at h ht2
        simp only [Option.map_some, Option.some.injEq] at h ht2
        cases hN : Nat.ble args.length fn.ntmps && Nat.ble args.length 1024
        · rw [hN] at h; cases h
        rw [hN, cond_true] at h
        simp only [Bool.and_eq_true] at hN
        cases hr : rCode P q H.length (rFun P ext tb fuel k) fuel c (argT 0 args) H with
        | none => rw [hr] at h; cases h
        | some r =>
          obtain ⟨e, F', H'⟩ := r
          rw [hr] at h
          simp only at h
          have he : e = .ret ∨ e = .normal := by
            cases e <;> first | exact .inl rfl | exact .inr rfl | (simp at h)
          have h' : (match (aResE P fn.results.toList F' H').map one1 with
            | none => none
            | some x => bif x.bel 0 && prefixB H H' then some (x, none) else bif Nat.ble H.length H'.length then some (x, some H') else none) = some (x, o) := by
            rcases he with rfl | rfl <;> exact h
          clear h
          cases hx : (aResE P fn.results.toList F' H').map one1 with
          | none => rw [hx] at h'; cases h'
          | some y =>
            rw [hx] at h'
            simp only at h'
            have key : ∀ (R : AV → AHeap → Prop), (∀ G1, aResult P fn G1 H' = some y → HBel H.length H → AEnd P fn H.length R e G1 H') → ACalls P f args H R := fun R hR => by
              refine ACalls_of hf hb rfl (Nat.le_of_ble_eq_true hN.1) fun hbel => AW.mono (rCode_ok hm IH fuel fuel (Nat.le_refl _) c ht2 _ _ _ hr _ (argT_eq args 0 (by have := Nat.le_of_ble_eq_true hN.2; omega))) ?_
              rintro e1 G1 H1 ⟨h1, h2, h3⟩
              simp only at h1 h2 h3
              rw [h1, h3]
              exact hR G1 (by unfold aResult; rw [← aResE_eq h2]; exact hx) hbel
            cases hp : y.bel 0 && prefixB H H'
            · rw [hp, cond_false] at h'
              cases hle : Nat.ble H.length H'.length
              · rw [hle] at h'; cases h'
              rw [hle, cond_true] at h'
              simp only [Option.some.injEq, Prod.mk.injEq] at h'
              obtain ⟨rfl, rfl⟩ := h'
              refine ⟨Nat.le_of_ble_eq_true hle, key _ fun G1 hG1 _ => ?_⟩
              have : ∃ x1, aResult P fn G1 H' = some x1 ∧ ∃ σ x2 H2, (x2 = y ∧ H2 = (some H').getD H) ∧ Abs H.length σ [(0, x1)] H' [(0, x2)] H2 :=
                ⟨y, hG1, id, y, H', ⟨rfl, rfl⟩, Abs.same _ rfl (Nat.le_of_ble_eq_true hle)⟩
              rcases he with rfl | rfl <;> exact this
            rw [hp, cond_true] at h'
            simp only [Option.some.injEq, Prod.mk.injEq] at h'
            obtain ⟨rfl, rfl⟩ := h'
            simp only [Bool.and_eq_true] at hp
            obtain ⟨l, rfl⟩ := prefixB_eq hp.2
            exact ⟨Nat.le_refl _, key _ fun G1 hG1 hbel => end_plain he hbel hG1 hp.1 ⟨rfl, rfl⟩⟩
/-- A call at known arguments, by the kernel's own run. -/
theorem ran (hm : P.follows .mixedOrders = true) {ext : Caller} (hext : CallOk P ext) (tb : List (Nat × Bool × Func)) (htb : TbOk P tb) (fuel k : Nat) {f : FuncId} {args : List AV} {H : AHeap} {x : AV} {o : Option AHeap} (h : rFun P ext tb fuel k f args H = some (x, o)) : ACalls P f args H (fun y H1 => y = x ∧ H1 = o.getD H) :=
  (rFun_ok hm hext tb htb fuel k f args H x o h).2.2
theorem rel_closed {E E' : Env} {x : AV} {v : Value} (h : Rel E x v) : x.bel 0 = true → Rel E' x v := by
  induction h with
  | any v => exact fun _ => .any v
  | int k n => exact fun _ => .int k n
  | bool b => exact fun _ => .bool b
  | str s => exact fun _ => .str s
  | nilptr => exact fun _ => .nilptr
  | ptr b o hb => exact fun hx => by simp [AV.bel] at hx
  | nilsl => exact fun _ => .nilsl
  | nils b cap hb hc => exact fun hx => by simp [AV.bel] at hx
  | sl b o len cap c a hb h1 h2 h3 h4 h5 => exact fun hx => by simp [AV.bel] at hx
  | nilmp => exact fun _ => .nilmp
  | mp b hb => exact fun hx => by simp [AV.bel] at hx
  | nilfn => exact fun _ => .nilfn
  | fn f caps cs hl _ ih => exact fun hx => .fn f caps cs hl fun i x v h1 h2 => ih i x v h1 h2 (by simp only [AV.bel, AV.bels_eq] at hx; exact List.all_eq_true.1 hx _ (List.mem_of_getElem? h1))
  | agg xs cs hl _ ih => exact fun hx => .agg xs cs hl fun i x v h1 h2 => ih i x v h1 h2 (by simp only [AV.bel, AV.bels_eq] at hx; exact List.all_eq_true.1 hx _ (List.mem_of_getElem? h1))
  | tup xs cs hl _ ih => exact fun hx => .tup xs cs hl fun i x v h1 h2 => ih i x v h1 h2 (by simp only [AV.bel, AV.bels_eq] at hx; exact List.all_eq_true.1 hx _ (List.mem_of_getElem? h1))
/-- A call that takes and hands back plain values and leaves an empty memory empty leaves any memory as it was. -/
theorem ACalls.closed {f : FuncId} {args : List AV} {x : AV} (h : ACalls P f args [] (fun y H1 => y = x ∧ H1 = [])) (ha : args.all (AV.bel 0) = true) (hx : x.bel 0 = true) (H : AHeap) : ACalls P f args H (fun y H1 => y = x ∧ H1 = H) := by
  intro E w vs hE hv
  let E0 : Env := ⟨w.heap.size, w, 0, fun _ => ⟨0, 0, 0, 0⟩⟩
  have hE0 : Emb E0 [] w := ⟨rfl, Below.refl _ _, Nat.le_refl _, fun b x h => by simp at h, fun b c x y h => by simp at h⟩
  refine (h E0 w vs hE0 ⟨hv.1, fun i y v h1 h2 => rel_closed (hv.2 i y v h1 h2) (List.all_eq_true.1 ha _ (List.mem_of_getElem? h1))⟩).mono ?_
  rintro e w' ⟨E', v, H', y, he, ⟨rfl, rfl⟩, hle, hr, hemb⟩
  have hb := hemb.below
  rw [hle.B, hle.w0] at hb
  exact ⟨E, v, H, y, he, ⟨rfl, rfl⟩, .refl E, rel_closed hr hx, hE.up hb⟩
end
end
/-- The functions that the machine can enter. -/
noncomputable def tb : List (Nat × Bool × Func) := [(2, false, Try.f2), (3, false, Try.f3), (4, false, Try.f4), (5, false, Try.f5), (6, false, Try.f6), (7, false, Try.f7), (8, false, Try.f8), (9, false, Try.f9), (10, false, Try.f10), (11, false, Try.f11), (12, false, Try.f12), (13, false, Try.f13), (14, false, Try.f14), (15, false, Try.f15), (16, false, Try.f16), (17, false, Try.f17), (18, false, Try.f18), (19, false, Try.f19), (20, false, Try.f20), (21, false, Try.f21), (22, false, Try.f22), (23, false, Try.f23), (24, false, Try.f24), (25, false, Try.f25), (26, false, Try.f26), (27, false, Try.f27), (28, false, Try.f28), (29, false, Try.f29), (30, false, Try.f30), (31, false, Try.f31), (32, false, Try.f32), (33, false, Try.f33), (34, false, Try.f34), (35, false, Try.f35), (36, false, Try.f36), (37, false, Try.f37), (38, false, Try.f38), (39, false, Try.f39), (40, false, Try.f40), (41, false, Try.f41), (42, false, Try.f42), (43, false, Try.f43), (45, false, Try.f45), (46, false, Try.f46), (47, false, Try.f47), (48, false, Try.f48), (49, false, Try.f49), (50, false, Try.f50), (51, false, Try.f51), (52, false, Try.f52), (53, false, Try.f53), (54, false, Try.f54), (55, false, Try.f55), (56, false, Try.f56), (57, false, Try.f57), (58, false, Try.f58), (59, false, Try.f59), (60, false, Try.f60), (61, false, Try.f61), (64, false, Try.f64), (65, false, Try.f65), (66, false, Try.f66), (67, false, Try.f67), (68, false, Try.f68), (69, false, Try.f69), (70, false, Try.f70), (71, false, Try.f71), (72, false, Try.f72), (73, false, Try.f73), (74, false, Try.f74), (75, false, Try.f75), (76, false, Try.f76), (77, false, Try.f77), (78, false, Try.f78), (79, false, Try.f79), (80, false, Try.f80), (81, false, Try.f81), (82, false, Try.f82), (83, false, Try.f83), (84, false, Try.f84)]
set_option maxRecDepth 100000 in
theorem tb_ok : TbOk Try.prog tb :=
  .cons (by kernel_rfl) Try.func2 (by kernel_rfl) (
  .cons (by kernel_rfl) Try.func3 (by kernel_rfl) (
  .cons (by kernel_rfl) Try.func4 (by kernel_rfl) (
  .cons (by kernel_rfl) Try.func5 (by kernel_rfl) (
  .cons (by kernel_rfl) Try.func6 (by kernel_rfl) (
  .cons (by kernel_rfl) Try.func7 (by kernel_rfl) (
  .cons (by kernel_rfl) Try.func8 (by kernel_rfl) (
  .cons (by kernel_rfl) Try.func9 (by kernel_rfl) (
  .cons (by kernel_rfl) Try.func10 (by kernel_rfl) (
  .cons (by kernel_rfl) Try.func11 (by kernel_rfl) (
  .cons (by kernel_rfl) Try.func12 (by kernel_rfl) (
  .cons (by kernel_rfl) Try.func13 (by kernel_rfl) (
  .cons (by kernel_rfl) Try.func14 (by kernel_rfl) (
  .cons (by kernel_rfl) Try.func15 (by kernel_rfl) (
  .cons (by kernel_rfl) Try.func16 (by kernel_rfl) (
  .cons (by kernel_rfl) Try.func17 (by kernel_rfl) (
  .cons (by kernel_rfl) Try.func18 (by kernel_rfl) (
  .cons (by kernel_rfl) Try.func19 (by kernel_rfl) (
  .cons (by kernel_rfl) Try.func20 (by kernel_rfl) (
  .cons (by kernel_rfl) Try.func21 (by kernel_rfl) (
  .cons (by kernel_rfl) Try.func22 (by kernel_rfl) (
  .cons (by kernel_rfl) Try.func23 (by kernel_rfl) (
  .cons (by kernel_rfl) Try.func24 (by kernel_rfl) (
  .cons (by kernel_rfl) Try.func25 (by kernel_rfl) (
  .cons (by kernel_rfl) Try.func26 (by kernel_rfl) (
  .cons (by kernel_rfl) Try.func27 (by kernel_rfl) (
  .cons (by kernel_rfl) Try.func28 (by kernel_rfl) (
  .cons (by kernel_rfl) Try.func29 (by kernel_rfl) (
  .cons (by kernel_rfl) Try.func30 (by kernel_rfl) (
  .cons (by kernel_rfl) Try.func31 (by kernel_rfl) (
  .cons (by kernel_rfl) Try.func32 (by kernel_rfl) (
  .cons (by kernel_rfl) Try.func33 (by kernel_rfl) (
  .cons (by kernel_rfl) Try.func34 (by kernel_rfl) (
  .cons (by kernel_rfl) Try.func35 (by kernel_rfl) (
  .cons (by kernel_rfl) Try.func36 (by kernel_rfl) (
  .cons (by kernel_rfl) Try.func37 (by kernel_rfl) (
  .cons (by kernel_rfl) Try.func38 (by kernel_rfl) (
  .cons (by kernel_rfl) Try.func39 (by kernel_rfl) (
  .cons (by kernel_rfl) Try.func40 (by kernel_rfl) (
  .cons (by kernel_rfl) Try.func41 (by kernel_rfl) (
  .cons (by kernel_rfl) Try.func42 (by kernel_rfl) (
  .cons (by kernel_rfl) Try.func43 (by kernel_rfl) (
  .cons (by kernel_rfl) Try.func45 (by kernel_rfl) (
  .cons (by kernel_rfl) Try.func46 (by kernel_rfl) (
  .cons (by kernel_rfl) Try.func47 (by kernel_rfl) (
  .cons (by kernel_rfl) Try.func48 (by kernel_rfl) (
  .cons (by kernel_rfl) Try.func49 (by kernel_rfl) (
  .cons (by kernel_rfl) Try.func50 (by kernel_rfl) (
  .cons (by kernel_rfl) Try.func51 (by kernel_rfl) (
  .cons (by kernel_rfl) Try.func52 (by kernel_rfl) (
  .cons (by kernel_rfl) Try.func53 (by kernel_rfl) (
  .cons (by kernel_rfl) Try.func54 (by kernel_rfl) (
  .cons (by kernel_rfl) Try.func55 (by kernel_rfl) (
  .cons (by kernel_rfl) Try.func56 (by kernel_rfl) (
  .cons (by kernel_rfl) Try.func57 (by kernel_rfl) (
  .cons (by kernel_rfl) Try.func58 (by kernel_rfl) (
  .cons (by kernel_rfl) Try.func59 (by kernel_rfl) (
  .cons (by kernel_rfl) Try.func60 (by kernel_rfl) (
  .cons (by kernel_rfl) Try.func61 (by kernel_rfl) (
  .cons (by kernel_rfl) Try.func64 (by kernel_rfl) (
  .cons (by kernel_rfl) Try.func65 (by kernel_rfl) (
  .cons (by kernel_rfl) Try.func66 (by kernel_rfl) (
  .cons (by kernel_rfl) Try.func67 (by kernel_rfl) (
  .cons (by kernel_rfl) Try.func68 (by kernel_rfl) (
  .cons (by kernel_rfl) Try.func69 (by kernel_rfl) (
  .cons (by kernel_rfl) Try.func70 (by kernel_rfl) (
  .cons (by kernel_rfl) Try.func71 (by kernel_rfl) (
  .cons (by kernel_rfl) Try.func72 (by kernel_rfl) (
  .cons (by kernel_rfl) Try.func73 (by kernel_rfl) (
  .cons (by kernel_rfl) Try.func74 (by kernel_rfl) (
  .cons (by kernel_rfl) Try.func75 (by kernel_rfl) (
  .cons (by kernel_rfl) Try.func76 (by kernel_rfl) (
  .cons (by kernel_rfl) Try.func77 (by kernel_rfl) (
  .cons (by kernel_rfl) Try.func78 (by kernel_rfl) (
  .cons (by kernel_rfl) Try.func79 (by kernel_rfl) (
  .cons (by kernel_rfl) Try.func80 (by kernel_rfl) (
  .cons (by kernel_rfl) Try.func81 (by kernel_rfl) (
  .cons (by kernel_rfl) Try.func82 (by kernel_rfl) (
  .cons (by kernel_rfl) Try.func83 (by kernel_rfl) (
  .cons (by kernel_rfl) Try.func84 (by kernel_rfl) (
  .nil))))))))))))))))))))))))))))))))))))))))))))))))))))))))))))))))))))))))))))))))
def ext : Caller := fun f args _ =>
  match args with
  | [.int .u64 x] => bif Nat.beq f 44 && (decide (0 ≤ x) && decide (x ≤ 18446744073709551615)) then some (.int .i64 (Lib.bitLen x.toNat), none) else none
  | _ => none
theorem ext_ok : CallOk Try.prog ext := fun f args H x o h => by
  unfold ext at h
  split at h
  · rename_i x'
    cases hb : Nat.beq f 44 && (decide (0 ≤ x') && decide (x' ≤ 18446744073709551615))
    · rw [hb] at h; cases h
    rw [hb, cond_true] at h
    simp only [Option.some.injEq, Prod.mk.injEq] at h
    obtain ⟨rfl, rfl⟩ := h
    simp only [Bool.and_eq_true, decide_eq_true_eq] at hb
    obtain ⟨h1, h2, h3⟩ := hb
    have e := Nat.eq_of_beq_eq_true h1
    subst e
    refine ⟨by kernel_rfl, Nat.le_refl _, fun E w vs hE hv => ?_⟩
    obtain ⟨v1, l1, rfl, k1, hr⟩ := rels_cons hv
    obtain rfl := rels_nil hr
    obtain rfl := rel_int k1
    refine (Try.bits_Len x' w h2 h3).mono fun e w' ⟨he, hw⟩ => ?_
    subst hw
    exact ⟨E, _, H, _, he, ⟨rfl, rfl⟩, .refl E, .int _ _, hE⟩
  cases h
def gp (l : List Pt) (i : Nat) : Pt := (g1 l i, g2 l i)
theorem gp_eq {l : List Pt} {i : Nat} (h : i < l.length) : gp l i = l[i] := by
  simp [gp, g1, g2, List.getD_eq_getElem?_getD, h]
section
variable (H : AHeap)
def within (x m : Int) : Bool := decide (0 - m ≤ x) && decide (x ≤ m)
theorem bsize_c (x m : Int) (h : 0 ≤ m ∧ m ≤ 4611686018427387904) : ACalls Try.prog 25 [.int .i64 x, .int .i64 m] H (fun v H' => v = .bool (within x m) ∧ H' = H) := by
  (refine ACalls_run try_mixed Try.func25 true _ rfl (Nat.le_of_ble_eq_true (by kernel_rfl)) (by kernel_rfl) ?_; intro hbel Q hQ hQ' c hc; unfold Try.f25 at hc; simp only [Option.some.injEq] at hc; subst hc; clear hQ')
  by_cases h1 : 0 - m ≤ x
  · simp -implicitDefEqProofs (disch := omega) only [h1, ge_iff_le, simprocAttr, amset, tyset, Function.comp_apply, one1, lenV, calleeOf, lateOk, belowV, aop, AV.ofValue, AV.ofCell, AV.cells, AV.flat, AV.one, arep, aBin, aAppend, aConv]
    repeat refine And.intro (by omega) ?_
    exact hQ _ _ (end_plain0 (.inl rfl) hbel (x := .bool (decide (x ≤ m))) (resT Try.results25) rfl ⟨by simp only [within, h1, decide_true, Bool.true_and], rfl⟩)
  simp -implicitDefEqProofs (disch := omega) only [h1, ge_iff_le, simprocAttr, amset, tyset, Function.comp_apply, one1, lenV, calleeOf, lateOk, belowV, aop, AV.ofValue, AV.ofCell, AV.cells, AV.flat, AV.one, arep, aBin, aAppend, aConv]
  repeat refine And.intro (by omega) ?_
  exact hQ _ _ (end_plain0 (.inl rfl) hbel (x := .bool false) (resT Try.results25) rfl ⟨by simp only [within, h1, decide_false, Bool.false_and], rfl⟩)
end
set_option maxRecDepth 100000 in
theorem sortc_f {α : Type} [Inhabited α] (val : α → Int × Int) (cf : α → α → Int) (hO : SWO (ltOf cf)) (g : FuncId) (eg : ∀ args w, (callFunc g args).run Try.prog w = .ok (.enter g args) w)
    (hcmp : ∀ (x y : α) (W : World), Calls Try.prog g #[.agg #[.int .i64 (val x).1, .int .i64 (val x).2], .agg #[.int .i64 (val y).1, .int .i64 (val y).2]] W fun e w' => e = .returned (.int .i64 (cf x y)) ∧ ∃ q os', w' = grow (W.drewN q) os')
    {H : AHeap} {b n : Nat} {cap : Option Nat} {zs : List α} (hg : H[b]? = some (.cells true 2 (prs (zs.map val)))) (hn : n = zs.length) (h0 : 0 < n) (h1 : n ≤ 1000000) :
    ACalls Try.prog 23 [.sl (some (b, 0)) n cap, .fn g []] H
      (fun v H' => v = .tup [] ∧ ∃ ys : List α, ys.Perm zs ∧ ys.Pairwise (fun x y => ltOf cf y x = false) ∧ H' = H.set b (.cells true 2 (prs (ys.map val)))) := fun E w vs hE hv => by
  obtain ⟨v1, l1, rfl, k1, h1'⟩ := rels_cons hv
  obtain ⟨v2, l2, rfl, k2, h2'⟩ := rels_cons h1'
  obtain rfl := rels_nil h2'
  have hf : v2 = .func (.func g) #[] #[] := by
    cases k2 with
    | fn _ _ cs hl _ =>
      have : cs = #[] := by
        have : cs.size = 0 := hl.symm
        exact Array.eq_empty_of_size_eq_zero this
      rw [this]
  subst hf
  cases k1 with
  | nils _ _ _ _ => exact absurd h0 (Nat.lt_irrefl 0)
  | sl _ _ _ _ c a hb h2 h3 h4 h5 h6 =>
  have hc : c ≠ 0 := by omega
  obtain rfl := h5.resolve_left hc
  obtain ⟨m1, m2, -, -⟩ := hE.blk b _ hg
  obtain ⟨o1, o2, o3, o4, o5⟩ := m2 rfl
  have hpl : (prs (zs.map val)).length = zs.length * 2 := by rw [prs_len]; simp
  have hH : HoldsK (encP val) 2 w (E.loc b).blk (E.loc b).off zs.toArray := by
    show Holds id w _ _ (flatK (encP val) 2 zs.toArray)
    rw [flat_list]
    intro j hj
    have hj' : j < zs.length * 2 := by simpa [enc2_len] using hj
    refine ⟨?_, (o5 j (by omega)).2⟩
    have hx : (prs (zs.map val))[j]? = some (prs (zs.map val))[j] := List.getElem?_eq_getElem (by omega)
    obtain ⟨-, v, hv, hr⟩ := m1 j _ hx
    rw [hv]
    obtain ⟨u, hu, hru⟩ := (rels_prs (E := E) (zs.map val)).get hx
    have : ∀ (k : Nat) (l : List (Int × Int)) (y : AV) (v u : Value), (prs l)[k]? = some y → Rel E y v → (enc2 l)[k]? = some u → v = u := by
      intro k l
      induction l generalizing k with
      | nil => intro y v u h; simp [prs] at h
      | cons p l ih =>
        intro y v u h1 h2 h3
        match k with
        | 0 => simp [prs_cons, enc2] at h1 h3; subst h1 h3; exact rel_int h2
        | 1 => simp [prs_cons, enc2] at h1 h3; subst h1 h3; exact rel_int h2
        | k + 2 =>
          refine ih k y v u (by simpa [prs_cons] using h1) h2 ?_
          simpa [enc2] using h3
    have e := this j _ _ v u hx hr hu
    subst e
    simp [List.getElem!_eq_getElem?_getD, hu]
  have hcon := AnyQ.slices_SortFunc Try.sort23 2 Try.isAgg36 Try.sizeOf36 (encP val) (fun _ => rfl) (fun x v hv => by simp [encP] at hv; rcases hv with rfl | rfl <;> rfl) cf hO g #[] (E.loc b).blk (E.loc b).off c zs.toArray w eg
    (fun _ _ _ _ x y => by simpa [encP] using hcmp x y _) hH o2 (by simp; omega)
  change Calls Try.prog 23 _ _ _ at hcon
  have hsz : zs.toArray.size = n := by simp [hn]
  rw [hsz] at hcon
  refine hcon.mono fun e w' ⟨he, d', q, os, hp, hs, hw⟩ => ?_
  subst hw
  obtain ⟨p1, -, p3⟩ := hp
  have hperm : d'.toList.Perm zs := by
    have a1 : d'.extract 0 n = d' := by rw [← hsz, ← p1]; simp
    have a2 : zs.toArray.extract 0 n = zs.toArray := by rw [← hsz]; simp
    rw [a1, a2] at p3
    simpa using p3
  have hl : (d'.toList.map val).length = (zs.map val).length := by simp [hperm.length_eq]
  refine ⟨E, _, _, .tup [], he, ⟨rfl, d'.toList, hperm, ?_, rfl⟩, .refl E, .tup [] #[] rfl (fun i x v h => by simp at h), ?_⟩
  · rw [List.pairwise_iff_getElem]
    intro i j hi hj hij
    have := hs i j (Nat.zero_le _) hij (by have := hperm.length_eq; simp at hj this; omega)
    simp at hi hj
    simpa [hi, hj] using this
  have hd : d' = d'.toList.toArray := by simp
  have e1 : sortWorldK (encP val) 2 w (E.loc b).blk (E.loc b).off q d' os = grow ((w.drewN q).setCells (E.loc b).blk (E.loc b).off (enc2 (d'.toList.map val))) os := by
    unfold sortWorldK
    congr 1
    show putRow id (Sort.ahead w q) _ _ (flatK (encP val) 2 d') = _
    rw [hd, flat_list]
    have := Lib.putRow_eq_setCells id w (E.loc b).blk (E.loc b).off (flatK (encP val) 2 zs.toArray) (enc2 (d'.toList.map val)) q hH (by rw [enc2_len, hl]; simp)
    simpa using this
  rw [e1]
  exact hE.putP hg hl os
/-- Before by (Y, X). -/
def befP (a b : Pt) : Prop := a.2 < b.2 ∨ (a.2 = b.2 ∧ a.1 < b.1)
theorem befP_anti (a b : Pt) (h : befP a b) : ¬ befP b a := by unfold befP at *; omega
/-- Sorted lists with the same elements are one. -/
theorem eq_sorted {l m : List Pt} (hl : l.Pairwise befP) (hm : m.Pairwise befP) (h : ∀ c, c ∈ l ↔ c ∈ m) : l = m := eq_of_sorted befP_anti l m hl hm h
theorem befP_asymm {a b : Int × Int} (h : befP a b) : ¬ befP b a := by unfold befP at *; omega
theorem befP_irr {a : Int × Int} : ¬ befP a a := by unfold befP; omega
theorem befP_trans {a b c : Int × Int} (h : befP a b) (k : befP b c) : befP a c := by unfold befP at *; omega
theorem befP_tri (a b : Int × Int) : befP a b ∨ a = b ∨ befP b a := by
  unfold befP
  rcases Int.lt_trichotomy a.2 b.2 with h | h | h
  · exact .inl (.inl h)
  · rcases Int.lt_trichotomy a.1 b.1 with k | k | k
    · exact .inl (.inr ⟨h, k⟩)
    · exact .inr (.inl (Prod.ext k h))
    exact .inr (.inr (.inr ⟨h.symm, k⟩))
  exact .inr (.inr (.inl h))
def leC (a b : Int × Int) : Prop := a = b ∨ befP a b
/-- Two sorted rows with the same elements are one. -/
theorem leC_anti {a b : Int × Int} (h : leC a b) (k : leC b a) : a = b := by
  unfold leC at *
  rcases h with h | h
  · exact h
  rcases k with k | k
  · exact k.symm
  exact absurd k (befP_asymm h)
theorem sortP_eq : ∀ {l m : List (Int × Int)}, l.Perm m → l.Pairwise leC → m.Pairwise leC → l = m
  | [], m, h, _, _ => (List.Perm.nil_eq h)
  | a :: l, [], h, _, _ => absurd h.symm.nil_eq (by simp)
  | a :: l, b :: m, h, h1, h2 => by
    rw [List.pairwise_cons] at h1 h2
    have hab : a = b := by
      have ha : a ∈ b :: m := h.subset (List.mem_cons_self ..)
      have hb : b ∈ a :: l := h.symm.subset (List.mem_cons_self ..)
      rcases List.mem_cons.1 ha with e | e
      · exact e
      rcases List.mem_cons.1 hb with e2 | e2
      · exact e2.symm
      exact leC_anti (h1.1 b e2) (h2.1 a e)
    subst hab
    rw [sortP_eq (List.Perm.cons_inv h) h1.2 h2.2]
theorem leC_tot (a b : Int × Int) : leC a b ∨ leC b a := by
  unfold leC
  rcases befP_tri a b with h | h | h
  · exact .inl (.inr h)
  · exact .inl (.inl h)
  exact .inr (.inr h)
theorem leC_trans {a b c : Int × Int} (h : leC a b) (k : leC b c) : leC a c := by
  unfold leC at *
  rcases h with rfl | h
  · exact k
  rcases k with rfl | k
  · exact .inr h
  exact .inr (befP_trans h k)
instance (a b : Int × Int) : Decidable (befP a b) := by unfold befP; infer_instance
instance (a b : Int × Int) : Decidable (leC a b) := by unfold leC; infer_instance
/-- The sorted row. -/
def srtC (l : List (Int × Int)) : List (Int × Int) := l.mergeSort fun a b => decide (leC a b)
theorem srtC_perm (l : List (Int × Int)) : (srtC l).Perm l := List.mergeSort_perm _ _
theorem srtC_len (l : List (Int × Int)) : (srtC l).length = l.length := (srtC_perm l).length_eq
theorem srtC_sorted (l : List (Int × Int)) : (srtC l).Pairwise leC := by
  have h := List.pairwise_mergeSort (le := fun a b => decide (leC a b)) (fun a b c h k => by simp only [decide_eq_true_eq] at *; exact leC_trans h k) (fun a b => by simp only [Bool.or_eq_true, decide_eq_true_eq]; exact leC_tot a b) l
  unfold srtC
  refine h.imp fun {a b} k => ?_
  simpa using k
theorem or_h (a b : Int) (w : World) (blk off c : Nat) (h0 : w.cell? ⟨blk, off, none⟩ = some (.int .i64 a)) (h1 : w.cell? ⟨blk, off + 1, none⟩ = some (.int .i64 b)) :
    Calls Try.prog 30 #[.slice (some ⟨blk, off, none⟩) 2 c] w fun e w' => e = .returned (.int .i64 (if a = 0 then b else a)) ∧ w' = w := by
  have g0 : w.cell? ⟨blk, off + 0, none⟩ = some (.int .i64 a) := h0
  go_enter Try.func30, Try.ntmps30
  go_wp2
  go_loop [8] (fun i => ∃ k : Nat, k ≤ 2 ∧ i = .int .i64 k ∧ Hid ((1 ≤ k → a = 0) ∧ (2 ≤ k → b = 0))) (fun i => 2 - (intOf i).toNat)
  case atStart => exact ⟨0, by omega, rfl, ⟨fun h => by omega, fun h => by omega⟩⟩
  case round =>
    obtain ⟨k, hk, rfl, HK⟩ := hrel
    rcases (by omega : k = 0 ∨ k = 1 ∨ k = 2) with rfl | rfl | rfl
    · by_cases ha : a = 0
      · go_wp2
        go_round
        case rel => exact ⟨1, by omega, by go_num, ⟨fun _ => ha, fun h => by omega⟩⟩
        case measure => simp [intOf]
      go_wp2
      go_ret
      exact ⟨ret_int (by first | rfl | (rw [if_neg ha])), rfl⟩
    · have ha := HK.out.1 (by omega)
      by_cases hb : b = 0
      · go_wp2
        go_round
        case rel => exact ⟨2, by omega, by go_num, ⟨fun _ => ha, fun h => hb⟩⟩
        case measure => simp [intOf]
      go_wp2
      go_ret
      exact ⟨ret_int (by first | rfl | (rw [if_pos ha])), rfl⟩
    have ha := HK.out.1 (by omega)
    have hb := HK.out.2 (by omega)
    go_wp2
    go_ret
    exact ⟨ret_int (by first | rfl | (rw [if_pos ha, hb])), rfl⟩
theorem cell_last (w : World) (cs : Array Value) (t B j : Nat) (hB : B = w.heap.size) : (w.alloc (.cells cs t)).cell? ⟨B, j, none⟩ = cs[j]? := by
  subst hB
  unfold World.cell?
  have : (w.alloc (.cells cs t)).heap[w.heap.size]? = some (.cells cs t) := by
    show (w.heap.push _)[w.heap.size]? = _
    rw [Array.getElem?_push, if_pos rfl]
  rw [this]; rfl
theorem cell_lastd (w : World) (cs : Array Value) (t B j : Nat) (hB : B = w.heap.size) : (w.alloc (.cells cs t)).drew.cell? ⟨B, j, none⟩ = cs[j]? := cell_last w cs t B j hB
/-- By (Y, X). -/
def cfC (a b : Pt) : Int := if cmpI a.2 b.2 = 0 then cmpI a.1 b.1 else cmpI a.2 b.2
set_option maxHeartbeats 20000000 in
theorem before_h (x y : Pt) (W : World) : Calls Try.prog 24 #[.agg #[.int .i64 x.1, .int .i64 x.2], .agg #[.int .i64 y.1, .int .i64 y.2]] W fun e w' => e = .returned (.int .i64 (cfC x y)) ∧ ∃ q os', w' = grow (W.drewN q) os' := by
  have hcon := compare_h
  have hcon2 : ∀ (w : World) (blk off c : Nat), w.cell? ⟨blk, off, none⟩ = some (.int .i64 (cmpI x.2 y.2)) → w.cell? ⟨blk, off + 1, none⟩ = some (.int .i64 (cmpI x.1 y.1)) →
    Calls Try.prog 30 #[.slice (some ⟨blk, off, none⟩) 2 c] w fun e w' => e = .returned (.int .i64 (cfC x y)) ∧ w' = w := by
    intro w blk off c h0 h1
    have k := or_h (cmpI x.2 y.2) (cmpI x.1 y.1) w blk off c h0 h1
    unfold cfC
    exact k
  go_enter Try.func24, Try.ntmps24
  go_wp2_with (first | (go_at_call 31; refine (hcon _ _ _).mono ?_; rintro e w' ⟨rfl, rfl⟩) | fail)
  go_region_held3 (fun w' => w'.cell? ⟨W.heap.size, 0, none⟩ = some (.int .i64 x.1) ∧ w'.cell? ⟨W.heap.size, 1, none⟩ = some (.int .i64 x.2) ∧ w'.cell? ⟨W.heap.size + 1, 0, none⟩ = some (.int .i64 y.1) ∧ w'.cell? ⟨W.heap.size + 1, 1, none⟩ = some (.int .i64 y.2)) (go_keep)
    (first
      | (go_at_call 31; refine (hcon _ _ _).mono ?_; rintro e w' ⟨rfl, rfl⟩)
      | (go_at_call 30; refine (hcon2 _ _ _ _ ?h1 ?h2).mono ?_; case h1 => first | exact (cell_last _ _ _ _ _ (by simp)).trans rfl | exact (cell_lastd _ _ _ _ _ (by simp)).trans rfl
         case h2 => first | exact (cell_last _ _ _ _ _ (by simp)).trans rfl | exact (cell_lastd _ _ _ _ _ (by simp)).trans rfl
         rintro e w' ⟨rfl, rfl⟩))
  go_wp2
  go_ret
  exact ⟨rfl, 1, _, by rw [alloc_eq_grow, alloc_eq_grow, alloc_eq_grow, grow_grow, grow_grow]; rfl⟩
theorem ltC_iff (x y : Pt) : ltOf cfC x y = decide (befP x y) := by
  rw [Bool.eq_iff_iff]
  unfold ltOf
  rw [decide_eq_true_eq, decide_eq_true_eq]
  unfold cfC cmpI befP
  repeat' split
  all_goals omega
theorem swoC : SWO (ltOf cfC) where
  irrefl x := by rw [ltC_iff, decide_eq_false_iff_not]; exact befP_irr
  trans x y z h1 h2 := by
    rw [ltC_iff, decide_eq_true_eq] at *
    exact befP_trans h1 h2
  ntrans x y z h1 h2 := by
    rw [ltC_iff, decide_eq_false_iff_not] at *
    unfold befP at *; omega
set_option maxRecDepth 100000 in
/-- Cells sorted by (Y, X). -/
theorem sortc_c (H : AHeap) (b : Nat) (cap : Option Nat) (l : List Pt) (hb : H[b]? = some (.cells true 2 (prs l))) (h0 : 0 < l.length) (h1 : l.length ≤ 1000000) :
    ACalls Try.prog 23 [.sl (some (b, 0)) l.length cap, .fn 24 []] H (fun v H' => v = .tup [] ∧ H' = H.set b (.cells true 2 (prs (srtC l)))) := by
  have eg : ∀ args w, (callFunc 24 args).run Try.prog w = .ok (.enter 24 args) w := enters_of Try.func24 (by kernel_rfl) rfl
  refine (sortc_f (α := Pt) id cfC swoC 24 eg (fun x y W => before_h x y W) (zs := l) (by rw [List.map_id]; exact hb) rfl h0 h1).mono ?_
  rintro v H' ⟨rfl, ys, hp, hs, rfl⟩
  have e : ys = srtC l := by
    refine sortP_eq (hp.trans (srtC_perm l).symm) (hs.imp fun {x y} h => ?_) (srtC_sorted l)
    rw [ltC_iff, decide_eq_false_iff_not] at h
    rcases leC_tot x y with k | k
    · exact k
    unfold leC at k ⊢
    rcases k with k | k
    · exact .inl k.symm
    exact absurd k h
  rw [List.map_id, e]
  exact ⟨rfl, rfl⟩
/-- What is left, and a cluster. -/
abbrev FS := List Pt × List Pt
/-- Two cells that touch each other. -/
def adjP (a b : Pt) : Prop := (-1 ≤ a.1 - b.1 ∧ a.1 - b.1 ≤ 1) ∧ (-1 ≤ a.2 - b.2 ∧ a.2 - b.2 ≤ 1)
theorem adjP_symm {a b : Pt} (h : adjP a b) : adjP b a := by unfold adjP at *; omega
def stF (i : Nat) (s : FS) (dx dy : Int) : FS :=
  if memP s.1 (g1 s.2 i + dx) (g2 s.2 i + dy) = true then (s.1.erase (g1 s.2 i + dx, g2 s.2 i + dy), s.2 ++ [(g1 s.2 i + dx, g2 s.2 i + dy)]) else s
def dxF (i : Nat) (dy : Int) : Nat → FS → FS
  | 0, s => s
  | n + 1, s => stF i (dxF i dy n s) ((n : Int) - 1) dy
def dyF (i : Nat) : Nat → FS → FS
  | 0, s => s
  | n + 1, s => dxF i ((n : Int) - 1) 3 (dyF i n s)
def bfN : Nat → FS → FS
  | 0, s => s
  | n + 1, s => if n < (bfN n s).2.length then dyF n 3 (bfN n s) else bfN n s
def bfR (s : FS) : FS := bfN (s.1.length + s.2.length) s
/-- Further on: the cluster is longer, and less is left. -/
def extP (s t : FS) : Prop := (∃ m, t.2 = s.2 ++ m) ∧ (∀ b, b ∈ t.1 → b ∈ s.1) ∧ (t.1 ++ t.2).Perm (s.1 ++ s.2)
theorem extP.refl (s : FS) : extP s s := ⟨⟨[], by simp⟩, fun _ h => h, List.Perm.refl _⟩
theorem extP.trans {s t u : FS} (h : extP s t) (k : extP t u) : extP s u := by
  obtain ⟨⟨m, hm⟩, h2, h3⟩ := h
  obtain ⟨⟨m', hm'⟩, k2, k3⟩ := k
  exact ⟨⟨m ++ m', by rw [hm', hm, List.append_assoc]⟩, fun b hb => h2 b (k2 b hb), k3.trans h3⟩
theorem extP.len {s t : FS} (h : extP s t) : t.1.length + t.2.length = s.1.length + s.2.length := by
  have := h.2.2.length_eq
  simpa using this
theorem extP.le {s t : FS} (h : extP s t) : s.2.length ≤ t.2.length := by
  obtain ⟨⟨m, hm⟩, -⟩ := h
  rw [hm]; simp
theorem extP.gp {s t : FS} (h : extP s t) {i : Nat} (hi : i < s.2.length) : gp t.2 i = gp s.2 i := by
  have hl := h.le
  obtain ⟨⟨m, hm⟩, -⟩ := h
  rw [gp_eq (by omega), gp_eq hi]
  simp [hm, List.getElem_append_left, hi]
theorem stF_ext (i : Nat) (s : FS) (dx dy : Int) : extP s (stF i s dx dy) := by
  unfold stF
  split
  · rename_i h
    have h := memP_iff.1 h
    refine ⟨⟨_, rfl⟩, fun b hb => List.mem_of_mem_erase hb, ?_⟩
    have e := List.perm_cons_erase h
    have e1 : (s.1.erase (g1 s.2 i + dx, g2 s.2 i + dy) ++ (s.2 ++ [(g1 s.2 i + dx, g2 s.2 i + dy)])).Perm ((g1 s.2 i + dx, g2 s.2 i + dy) :: (s.1.erase (g1 s.2 i + dx, g2 s.2 i + dy) ++ s.2)) := by
      rw [← List.append_assoc]
      exact List.perm_append_singleton _ _
    refine e1.trans ?_
    rw [← List.cons_append]
    exact (e.symm).append_right _
  exact extP.refl s
theorem dxF_ext (i : Nat) (dy : Int) : ∀ n s, extP s (dxF i dy n s)
  | 0, s => extP.refl s
  | n + 1, s => (dxF_ext i dy n s).trans (stF_ext _ _ _ _)
theorem dyF_ext (i : Nat) : ∀ n s, extP s (dyF i n s)
  | 0, s => extP.refl s
  | n + 1, s => (dyF_ext i n s).trans (dxF_ext _ _ _ _)
theorem bfN_ext : ∀ n s, extP s (bfN n s)
  | 0, s => extP.refl s
  | n + 1, s => by
    unfold bfN
    split
    · exact (bfN_ext n s).trans (dyF_ext _ _ _)
    exact bfN_ext n s
theorem bfN_stop {s : FS} {i : Nat} (h : (bfN i s).2.length ≤ i) : ∀ j, bfN (i + j) s = bfN i s
  | 0 => rfl
  | j + 1 => by
    have e := bfN_stop h j
    show (if i + j < (bfN (i + j) s).2.length then dyF (i + j) 3 (bfN (i + j) s) else bfN (i + j) s) = _
    rw [e, if_neg (by omega)]
theorem bfR_stop {s : FS} {i : Nat} (h : (bfN i s).2.length ≤ i) (hi : i ≤ s.1.length + s.2.length) : bfR s = bfN i s := by
  have := bfN_stop h (s.1.length + s.2.length - i)
  rw [show i + (s.1.length + s.2.length - i) = s.1.length + s.2.length by omega] at this
  exact this
theorem nodup_ext {s t : FS} (h : extP s t) (hn : (s.1 ++ s.2).Nodup) : (t.1 ++ t.2).Nodup := h.2.2.nodup_iff.2 hn
theorem stF_gone {i : Nat} {s : FS} (hn : (s.1 ++ s.2).Nodup) (dx dy : Int) : (g1 s.2 i + dx, g2 s.2 i + dy) ∉ (stF i s dx dy).1 := by
  unfold stF
  split
  · rename_i h
    intro hb
    exact ((List.nodup_append.1 hn).1.not_mem_erase) hb
  rename_i h
  intro hb
  exact h (memP_iff.2 hb)
theorem dxF_gone {i : Nat} {dy : Int} : ∀ {n : Nat} {s : FS}, (s.1 ++ s.2).Nodup → i < s.2.length → ∀ k : Nat, k < n → (g1 s.2 i + ((k : Int) - 1), g2 s.2 i + dy) ∉ (dxF i dy n s).1
  | 0, _, _, _, k, hk => by omega
  | n + 1, s, hn, hi, k, hk => by
    have e := dxF_ext i dy n s
    have eg := e.gp hi
    simp only [gp, Prod.mk.injEq] at eg
    by_cases h : k = n
    · have := stF_gone (i := i) (nodup_ext e hn) ((n : Int) - 1) dy
      rw [eg.1, eg.2] at this
      rw [h]; exact this
    intro hb
    exact dxF_gone (n := n) hn hi k (by omega) ((stF_ext _ _ _ _).2.1 _ hb)
theorem dyF_gone {i : Nat} : ∀ {n : Nat} {s : FS}, (s.1 ++ s.2).Nodup → i < s.2.length → ∀ k j : Nat, k < 3 → j < n → (g1 s.2 i + ((k : Int) - 1), g2 s.2 i + ((j : Int) - 1)) ∉ (dyF i n s).1
  | 0, _, _, _, k, j, _, hj => by omega
  | n + 1, s, hn, hi, k, j, hk, hj => by
    have e := dyF_ext i n s
    have eg := e.gp hi
    simp only [gp, Prod.mk.injEq] at eg
    by_cases h : j = n
    · have := dxF_gone (i := i) (dy := (n : Int) - 1) (n := 3) (nodup_ext e hn) (Nat.lt_of_lt_of_le hi e.le) k hk
      rw [eg.1, eg.2] at this
      rw [h]; exact this
    intro hb
    exact dyF_gone (n := n) hn hi k j hk (by omega) ((dxF_ext _ _ _ _).2.1 _ hb)
theorem dyF_done {i : Nat} {s : FS} (hn : (s.1 ++ s.2).Nodup) (hi : i < s.2.length) : ∀ b ∈ (dyF i 3 s).1, ¬ adjP (gp s.2 i) b := fun b hb ha => by
  unfold adjP gp at ha
  simp only at ha
  have := dyF_gone (i := i) (n := 3) hn hi (b.1 - g1 s.2 i + 1).toNat (b.2 - g2 s.2 i + 1).toNat (by omega) (by omega)
  rw [show g1 s.2 i + (((b.1 - g1 s.2 i + 1).toNat : Int) - 1) = b.1 by omega, show g2 s.2 i + (((b.2 - g2 s.2 i + 1).toNat : Int) - 1) = b.2 by omega] at this
  exact this hb
theorem bfN_done : ∀ {n : Nat} {s : FS}, (s.1 ++ s.2).Nodup → ∀ k, k < n → k < (bfN n s).2.length → ∀ b ∈ (bfN n s).1, ¬ adjP (gp (bfN n s).2 k) b
  | 0, _, _, k, hk, _, _, _ => by omega
  | n + 1, s, hn, k, hk, hl, b, hb => by
    have e := bfN_ext n s
    have hnn := nodup_ext e hn
    unfold bfN at hl hb ⊢
    split at hl
    · rename_i h
      rw [if_pos h] at hb ⊢
      have e2 := dyF_ext n 3 (bfN n s)
      by_cases hkn : k = n
      · rw [hkn, e2.gp h]
        exact dyF_done hnn h b hb
      rw [e2.gp (by omega)]
      exact bfN_done hn k (by omega) (by omega) b (e2.2.1 b hb)
    rename_i h
    rw [if_neg h] at hb ⊢
    exact bfN_done hn k (by omega) hl b hb
/-- What a cluster's first cell has in common with all that touch it, all of the cluster have. -/
def carP (T : List Pt) (Q : Pt → Prop) : Prop := ∀ a b, a ∈ T → b ∈ T → adjP a b → Q a → Q b
theorem stF_car {T : List Pt} {Q : Pt → Prop} (hQ : carP T Q) {i : Nat} {s : FS} (hi : i < s.2.length) (hT : ∀ x, x ∈ s.1 ++ s.2 → x ∈ T) (h : ∀ x ∈ s.2, Q x) {dx dy : Int} (hx : -1 ≤ dx ∧ dx ≤ 1) (hy : -1 ≤ dy ∧ dy ≤ 1) : ∀ x ∈ (stF i s dx dy).2, Q x := by
  unfold stF
  split
  · rename_i hm
    intro x hxm
    simp only [List.mem_append, List.mem_singleton] at hxm
    rcases hxm with hxm | rfl
    · exact h x hxm
    have hg : gp s.2 i ∈ s.2 := by rw [gp_eq hi]; exact List.getElem_mem hi
    refine hQ (gp s.2 i) _ (hT _ (List.mem_append.2 (.inr hg))) (hT _ (List.mem_append.2 (.inl (memP_iff.1 hm)))) ?_ (h _ hg)
    unfold adjP gp; simp only; omega
  exact h
theorem mem_ext {T : List Pt} {s t : FS} (e : extP s t) (hT : ∀ x, x ∈ s.1 ++ s.2 → x ∈ T) : ∀ x, x ∈ t.1 ++ t.2 → x ∈ T := fun x hx => hT x (e.2.2.mem_iff.1 hx)
theorem dxF_car {T : List Pt} {Q : Pt → Prop} (hQ : carP T Q) {i : Nat} {dy : Int} (hy : -1 ≤ dy ∧ dy ≤ 1) : ∀ {n : Nat} {s : FS}, n ≤ 3 → i < s.2.length → (∀ x, x ∈ s.1 ++ s.2 → x ∈ T) → (∀ x ∈ s.2, Q x) → ∀ x ∈ (dxF i dy n s).2, Q x
  | 0, _, _, _, _, h => h
  | n + 1, s, hn, hi, hT, h => by
    have e := dxF_ext i dy n s
    exact stF_car hQ (Nat.lt_of_lt_of_le hi e.le) (mem_ext e hT) (dxF_car hQ hy (by omega) hi hT h) (by omega) hy
theorem dyF_car {T : List Pt} {Q : Pt → Prop} (hQ : carP T Q) {i : Nat} : ∀ {n : Nat} {s : FS}, n ≤ 3 → i < s.2.length → (∀ x, x ∈ s.1 ++ s.2 → x ∈ T) → (∀ x ∈ s.2, Q x) → ∀ x ∈ (dyF i n s).2, Q x
  | 0, _, _, _, _, h => h
  | n + 1, s, hn, hi, hT, h => by
    have e := dyF_ext i n s
    exact dxF_car hQ (by omega) (Nat.le_refl 3) (Nat.lt_of_lt_of_le hi e.le) (mem_ext e hT) (dyF_car hQ (by omega) hi hT h)
theorem bfN_car {T : List Pt} {Q : Pt → Prop} (hQ : carP T Q) : ∀ {n : Nat} {s : FS}, (∀ x, x ∈ s.1 ++ s.2 → x ∈ T) → (∀ x ∈ s.2, Q x) → ∀ x ∈ (bfN n s).2, Q x
  | 0, _, _, h => h
  | n + 1, s, hT, h => by
    unfold bfN
    split
    · rename_i hi
      exact dyF_car hQ (Nat.le_refl 3) hi (mem_ext (bfN_ext n s) hT) (bfN_car hQ hT h)
    exact bfN_car hQ hT h
theorem bfR_ext (s : FS) : extP s (bfR s) := bfN_ext _ s
theorem bfR_done {s : FS} (hn : (s.1 ++ s.2).Nodup) : ∀ a ∈ (bfR s).2, ∀ b ∈ (bfR s).1, ¬ adjP a b := fun a ha b hb => by
  obtain ⟨k, hk, rfl⟩ := List.mem_iff_getElem.1 ha
  rw [← gp_eq hk]
  have := (bfR_ext s).len
  exact bfN_done hn k (by omega) hk b hb
theorem bfR_car {T : List Pt} {Q : Pt → Prop} (hQ : carP T Q) {s : FS} (hT : ∀ x, x ∈ s.1 ++ s.2 → x ∈ T) (h : ∀ x ∈ s.2, Q x) : ∀ x ∈ (bfR s).2, Q x := bfN_car hQ hT h
/-- The cells that are left, and the clusters so far. srt is how a cluster is sorted. -/
def clN (srt : List Pt → List Pt) (all S0 : List Pt) : Nat → List Pt × List (List Pt)
  | 0 => (S0, [])
  | n + 1 =>
    if memP (clN srt all S0 n).1 (g1 all n) (g2 all n) = true then
      ((bfR ((clN srt all S0 n).1.erase (g1 all n, g2 all n), [(g1 all n, g2 all n)])).1, (clN srt all S0 n).2 ++ [srt (bfR ((clN srt all S0 n).1.erase (g1 all n, g2 all n), [(g1 all n, g2 all n)])).2])
    else clN srt all S0 n
structure ClInv (all : List Pt) (n : Nat) (r : List Pt × List (List Pt)) : Prop where
  perm : (r.1 ++ r.2.flatten).Perm all
  gone : ∀ k, k < n → gp all k ∉ r.1
  ne : ∀ c ∈ r.2, c ≠ []
  off : ∀ c ∈ r.2, ∀ a ∈ c, ∀ b ∈ r.1, ¬ adjP a b
  apart : r.2.Pairwise fun c d => ∀ a ∈ c, ∀ b ∈ d, ¬ adjP a b
  conn : ∀ Q, carP all Q → ∀ c ∈ r.2, ∀ a ∈ c, Q a → ∀ b ∈ c, Q b
theorem carP.not {T : List Pt} {Q : Pt → Prop} (h : carP T Q) : carP T fun x => ¬ Q x := fun a b ha hb hab hq hqb => hq (h b a hb ha (adjP_symm hab) hqb)
theorem clN_inv {srt : List Pt → List Pt} (hs : ∀ l, (srt l).Perm l) {all S0 : List Pt} (h0 : S0.Perm all) (hn : all.Nodup) : ∀ n, n ≤ all.length → ClInv all n (clN srt all S0 n)
  | 0, _ => ⟨by simpa [clN] using h0, fun k hk => by omega, by simp [clN], by simp [clN], by simp [clN], by simp [clN]⟩
  | n + 1, hl => by
    have I := clN_inv hs h0 hn n (by omega)
    unfold clN
    generalize clN srt all S0 n = r at I
    obtain ⟨S, cs⟩ := r
    have hnd : (S ++ cs.flatten).Nodup := I.perm.nodup_iff.2 hn
    have hndS : S.Nodup := (List.nodup_append.1 hnd).1
    split
    · rename_i hm
      have hm := memP_iff.1 hm
      simp only at hm ⊢
      generalize hc : ((g1 all n, g2 all n) : Pt) = c at hm ⊢
      have hcg : gp all n = c := hc
      have pS := List.perm_cons_erase hm
      have hsub : ∀ b, b ∈ S.erase c → b ∈ S := fun b hb => List.mem_of_mem_erase hb
      have p0 : (S.erase c ++ [c]).Perm S := (List.perm_append_singleton _ _).trans pS.symm
      have nd0 : ((S.erase c, [c]) : FS).1.Nodup ∧ ((S.erase c) ++ [c]).Nodup := ⟨hndS.erase _, p0.nodup_iff.2 hndS⟩
      have hin : ∀ x, x ∈ S → x ∈ all := fun x hx => I.perm.mem_iff.1 (List.mem_append.2 (.inl hx))
      have e := bfR_ext (S.erase c, [c])
      have hd := bfR_done (s := (S.erase c, [c])) nd0.2
      have hcar := fun Q (hQ : carP all Q) (hq : Q c) => bfR_car hQ (s := (S.erase c, [c])) (fun x hx => hin x (p0.mem_iff.1 hx)) (by simpa using hq)
      have hperm : (((bfR (S.erase c, [c])).1 ++ (bfR (S.erase c, [c])).2)).Perm S := e.2.2.trans p0
      obtain ⟨⟨m, hm2⟩, hless, -⟩ := e
      generalize bfR (S.erase c, [c]) = t at *
      obtain ⟨S', cl⟩ := t
      simp only at *
      refine ⟨?_, fun k hk => ?_, fun d hd' => ?_, fun d hd' a ha b hb => ?_, ?_, fun Q hQ d hd' a ha hqa b hb => ?_⟩
      · simp only [List.flatten_append, List.flatten_cons, List.flatten_nil, List.append_nil]
        have : (S' ++ (cs.flatten ++ srt cl)).Perm ((S' ++ cl) ++ cs.flatten) := by
          rw [List.append_assoc]
          exact List.Perm.append_left _ ((List.perm_append_comm).trans (List.Perm.append_right _ (hs cl)))
        exact this.trans ((hperm.append_right _).trans I.perm)
      · intro hb
        have hbS := hsub _ (hless _ hb)
        by_cases hkn : k = n
        · rw [hkn, hcg] at hb
          exact hndS.not_mem_erase (hless _ hb)
        exact I.gone k (by omega) hbS
      · rcases List.mem_append.1 hd' with q | q
        · exact I.ne d q
        rw [List.mem_singleton.1 q]
        intro q0
        have := (hs cl).length_eq
        rw [q0, hm2] at this
        simp at this
      · rcases List.mem_append.1 hd' with q | q
        · exact I.off d q a ha b (hsub _ (hless _ hb))
        rw [List.mem_singleton.1 q] at ha
        exact hd a ((hs cl).mem_iff.1 ha) b hb
      · rw [List.pairwise_append]
        refine ⟨I.apart, List.pairwise_singleton _ _, fun d hd' d2 hd2 a ha b hb => ?_⟩
        rw [List.mem_singleton.1 hd2] at hb
        exact I.off d hd' a ha b (hperm.mem_iff.1 (List.mem_append.2 (.inr ((hs cl).mem_iff.1 hb))))
      rcases List.mem_append.1 hd' with q | q
      · exact I.conn Q hQ d q a ha hqa b hb
      rw [List.mem_singleton.1 q] at ha hb
      have hc : Q c := by
        refine Classical.byContradiction fun hq => ?_
        exact hcar _ hQ.not hq a ((hs cl).mem_iff.1 ha) hqa
      exact hcar Q hQ hc b ((hs cl).mem_iff.1 hb)
    rename_i hm
    refine ⟨I.perm, fun k hk => ?_, I.ne, I.off, I.apart, I.conn⟩
    by_cases hkn : k = n
    · rw [hkn]; exact fun hb => hm (memP_iff.2 hb)
    exact I.gone k (by omega)
/-- All cells are in clusters at the end. -/
theorem clN_end {all : List Pt} {r : List Pt × List (List Pt)} (I : ClInv all all.length r) : r.1 = [] ∧ r.2.flatten.Perm all := by
  have h : r.1 = [] := by
    cases hr : r.1 with
    | nil => rfl
    | cons x l =>
      have hx : x ∈ all := I.perm.mem_iff.1 (List.mem_append.2 (.inl (by rw [hr]; exact List.mem_cons_self ..)))
      obtain ⟨k, hk, e⟩ := List.mem_iff_getElem.1 hx
      have := I.gone k hk
      rw [gp_eq hk, e, hr] at this
      exact (this (List.mem_cons_self ..)).elim
  refine ⟨h, ?_⟩
  have := I.perm
  rw [h] at this
  simpa using this
/-- The set of the first cells of a row. -/
def insN (all : List Pt) : Nat → List Pt
  | 0 => []
  | n + 1 => insP (insN all n) (g1 all n) (g2 all n)
theorem insN_take {all : List Pt} (hn : all.Nodup) : ∀ n, n ≤ all.length → insN all n = all.take n
  | 0, _ => rfl
  | n + 1, h => by
    rw [insN, insN_take hn n (by omega), List.take_succ_eq_append_getElem (by omega)]
    have e : ((g1 all n, g2 all n) : Pt) = all[n] := gp_eq (by omega)
    unfold insP
    rw [if_neg, e]
    rw [memP_iff, e]
    intro hm
    obtain ⟨k, hk, ek⟩ := List.mem_iff_getElem.1 hm
    rw [List.length_take] at hk
    rw [List.getElem_take] at ek
    have := List.pairwise_iff_getElem.1 hn k n (by omega) (by omega) (by omega)
    exact this ek
theorem insN_all {all : List Pt} (hn : all.Nodup) : insN all all.length = all := by rw [insN_take hn _ (Nat.le_refl _), List.take_length]
theorem gc_mem {cs : List (List Pt)} {a : Nat} (h : a < cs.length) : gc cs a ∈ cs := by rw [gc_lt h]; exact List.getElem_mem h
theorem gp_mem {l : List Pt} {b : Nat} (h : b < l.length) : gp l b ∈ l := by rw [gp_eq h]; exact List.getElem_mem h
def uniP (cs : List (List Pt)) : Prop := ∀ a b a' b', a < cs.length → b < (gc cs a).length → a' < cs.length → b' < (gc cs a').length → gp (gc cs a) b = gp (gc cs a') b' → a = a' ∧ b = b'
theorem gp_inj {l : List Pt} (hn : l.Nodup) {i j : Nat} (hi : i < l.length) (hj : j < l.length) (h : gp l i = gp l j) : i = j := by
  rw [gp_eq hi, gp_eq hj] at h
  have k := List.pairwise_iff_getElem.1 hn
  rcases Nat.lt_trichotomy i j with q | q | q
  · exact (k i j hi hj q h).elim
  · exact q
  exact (k j i hj hi q h.symm).elim
theorem uni_of : ∀ {cs : List (List Pt)}, cs.flatten.Nodup → uniP cs
  | [], _ => fun a b a' b' h => by simp at h
  | c :: cs, h => by
    rw [List.flatten_cons, List.nodup_append] at h
    have ih := uni_of (cs := cs) h.2.1
    intro a b a' b' ha hb ha' hb' e
    cases a with
    | zero => cases a' with
      | zero => exact ⟨rfl, gp_inj h.1 hb hb' e⟩
      | succ a' =>
        have q : gp (gc cs a') b' ∈ cs.flatten := List.mem_flatten.2 ⟨_, gc_mem (by simpa using ha'), gp_mem hb'⟩
        exact (h.2.2 _ (gp_mem hb) _ q e).elim
    | succ a => cases a' with
      | zero =>
        have q : gp (gc cs a) b ∈ cs.flatten := List.mem_flatten.2 ⟨_, gc_mem (by simpa using ha), gp_mem hb⟩
        exact (h.2.2 _ (gp_mem hb') _ q e.symm).elim
      | succ a' =>
        have := ih a b a' b' (by simpa using ha) hb (by simpa using ha') hb' e
        exact ⟨by omega, this.2⟩
theorem gi_setC {s : List Int} {a j : Nat} {v : Int} (h : a < s.length) : gi (s.set a v) j = if a = j then v else gi s j := by
  simp only [gi, List.getD_eq_getElem?_getD, List.getElem?_set]
  split
  · rfl
  rfl
theorem cflat_len : ∀ {cs : List (List Pt)}, (∀ c ∈ cs, c ≠ []) → cs.length ≤ cs.flatten.length
  | [], _ => Nat.zero_le _
  | c :: cs, h => by
    have ih := cflat_len (cs := cs) fun d hd => h d (List.mem_cons_of_mem _ hd)
    have : 0 < c.length := List.length_pos_iff.2 (h c (List.mem_cons_self ..))
    simp only [List.flatten_cons, List.length_append, List.length_cons]; omega
theorem cflat_le : ∀ {cs : List (List Pt)} {c : List Pt}, c ∈ cs → c.length ≤ cs.flatten.length
  | d :: cs, c, h => by
    simp only [List.flatten_cons, List.length_append]
    rcases List.mem_cons.1 h with rfl | h
    · omega
    have := cflat_le h; omega
theorem gp_in {l : List Pt} {i : Nat} (h : i < l.length) : gp l i ∈ l := gp_mem h
theorem rowP_nodup (p : Int → Int → Bool) (y : Nat) : ∀ j, (rowP p y j).Nodup
  | 0 => List.nodup_nil
  | j + 1 => by
    unfold rowP
    refine List.nodup_append.2 ⟨rowP_nodup p y j, by split <;> simp, fun a ha b hb => ?_⟩
    split at hb
    · rw [List.mem_singleton] at hb
      have := (rowP_mem p y j a).1 ha
      intro e; subst e; rw [hb] at this; simp only at this; omega
    cases hb
theorem gridP_nodup (p : Int → Int → Bool) (w : Nat) : ∀ i, (gridP p w i).Nodup
  | 0 => List.nodup_nil
  | i + 1 => by
    unfold gridP
    refine List.nodup_append.2 ⟨gridP_nodup p w i, rowP_nodup p i w, fun a ha b hb => ?_⟩
    have h1 := (gridP_mem p w i a).1 ha
    have h2 := (rowP_mem p i w b).1 hb
    intro e; subst e; omega
theorem fro_nodup {W Hh : Int} {xs : List Int} : (froL W Hh xs).Nodup := gridP_nodup _ _ _
theorem fro_len {W Hh : Int} {xs : List Int} (hV : Vld W Hh xs) : (froL W Hh xs).length ≤ 4096 := by
  have h := gridP_len (froB W Hh xs) W.toNat Hh.toNat
  have h2 : Hh.toNat * W.toNat ≤ 64 * 64 := Nat.mul_le_mul (by have := hV.h1; omega) (by have := hV.w1; omega)
  exact Nat.le_trans h h2
/-- The clusters of a row of cells. -/
def cluL (A : List Pt) : List (List Pt) := (clN srtC A A A.length).2
structure CluP (A : List Pt) (cs : List (List Pt)) : Prop where
  perm : cs.flatten.Perm A
  uni : uniP cs
  len : cs.length ≤ A.length
  pos : ∀ i, i < cs.length → 0 < (gc cs i).length
  le : ∀ i, i < cs.length → (gc cs i).length ≤ A.length
  mem : ∀ i k, i < cs.length → k < (gc cs i).length → gp (gc cs i) k ∈ A
  apart : cs.Pairwise fun c d => ∀ a ∈ c, ∀ b ∈ d, ¬ adjP a b
  conn : ∀ Q, carP A Q → ∀ c ∈ cs, ∀ a ∈ c, Q a → ∀ b ∈ c, Q b
theorem cluL_ok {A : List Pt} (hn : A.Nodup) : CluP A (cluL A) := by
  have I := clN_inv srtC_perm (S0 := A) (List.Perm.refl _) hn A.length (Nat.le_refl _)
  have hE := (clN_end I).2
  have hl := hE.length_eq
  refine ⟨hE, uni_of (hE.nodup_iff.2 hn), by rw [← hl]; exact cflat_len I.ne, fun i hi => List.length_pos_iff.2 (I.ne _ (gc_mem hi)), fun i hi => by rw [← hl]; exact cflat_le (gc_mem hi), fun i k hi hk => hE.mem_iff.1 (List.mem_flatten.2 ⟨_, gc_mem hi, gp_mem hk⟩), I.apart, I.conn⟩
def adjB (a b c d : Int) : Bool := decide ((-1 ≤ a - c ∧ a - c ≤ 1) ∧ -1 ≤ b - d ∧ b - d ≤ 1)
theorem adj_w {a b c d : Int} {r : Bool} (h : r = (within (a - c) 1 && within (b - d) 1)) : r = adjB a b c d := by
  rw [h, Bool.eq_iff_iff]
  unfold within adjB
  simp only [Bool.and_eq_true, decide_eq_true_eq]
  omega
theorem adjB_iff {p q : Pt} : adjB p.1 p.2 q.1 q.2 = true ↔ adjP p q := by unfold adjB adjP; rw [decide_eq_true_eq]
section
variable (H : AHeap)
theorem psize_c (x : Int) : ACalls Try.prog 40 [.int .i64 x] H (fun v H' => v = .bool (decide (1 ≤ x) && decide (x ≤ 64)) ∧ H' = H) := by
  (refine ACalls_run try_mixed Try.func40 true _ rfl (Nat.le_of_ble_eq_true (by kernel_rfl)) (by kernel_rfl) ?_; intro hbel Q hQ hQ' c hc; unfold Try.f40 at hc; simp only [Option.some.injEq] at hc; subst hc; clear hQ')
  by_cases h1 : 1 ≤ x
  · simp -implicitDefEqProofs (disch := omega) only [h1, simprocAttr, amset, tyset, Function.comp_apply, one1, lenV, calleeOf, lateOk, belowV, aop, AV.ofValue, AV.ofCell, AV.cells, AV.flat, AV.one, arep, aBin, aAppend, aConv]
    exact hQ _ _ (end_plain0 (.inl rfl) hbel (x := .bool (decide (x ≤ 64))) (resT Try.results40) rfl ⟨by simp only [h1, decide_true, Bool.true_and], rfl⟩)
  simp -implicitDefEqProofs (disch := omega) only [h1, simprocAttr, amset, tyset, Function.comp_apply, one1, lenV, calleeOf, lateOk, belowV, aop, AV.ofValue, AV.ofCell, AV.cells, AV.flat, AV.one, arep, aBin, aAppend, aConv]
  exact hQ _ _ (end_plain0 (.inl rfl) hbel (x := .bool false) (resT Try.results40) rfl ⟨by simp only [h1, decide_false, Bool.false_and], rfl⟩)
set_option maxRecDepth 100000 in
theorem max_c (xs : List Int) (b : Nat) (own : Bool) (cap : Option Nat) (hb : H[b]? = some (.cells own 1 (ints .u8 xs))) (h0 : 0 < xs.length) (hn : xs.length ≤ 1000000) : ACalls Try.prog 41 [.sl (some (b, 0)) xs.length cap] H (fun v H' => ∃ m, v = .int .u8 m ∧ m ∈ xs ∧ (∀ x ∈ xs, x ≤ m) ∧ H' = H) := by
  have hbl := getElem?_lt hb
  have hg0 := ints_get (k := .u8) (xs := xs) (j := 0) h0
  (refine ACalls_run try_mixed Try.func41 true _ rfl (Nat.le_of_ble_eq_true (by kernel_rfl)) (by kernel_rfl) ?_; intro hbel Q hQ hQ' c hc; unfold Try.f41 at hc; simp only [Option.some.injEq] at hc; subst hc; clear hQ')
  have h1 : ¬ (xs.length : Int) < 1 := by omega
  simp -implicitDefEqProofs (disch := omega) only [h1, hb, hg0, simprocAttr, amset, tyset, Function.comp_apply, one1, lenV, calleeOf, lateOk, belowV, aop, AV.ofValue, AV.ofCell, AV.cells, AV.flat, AV.one, arep, aBin, aAppend, aConv]
  repeat refine And.intro (by omega) ?_
  refine go_loop try_mixed (by kernel_rfl) (fun k F Hx => ∃ (i : Nat) (m : Int), i + k = xs.length ∧ 1 ≤ i ∧ m ∈ xs ∧ (∀ j, j < i → gi xs j ≤ m) ∧ F = [(0, .sl (some (b, 0)) xs.length none), (3, .int .u8 m), (4, .int .i64 (i : Nat))] ∧ Hx = H) (xs.length - 1) ?_ ?_
  · refine ⟨_, _, _, ⟨1, gi xs 0, by omega, by omega, gi_mem h0, fun j hj => by obtain rfl : j = 0 := by omega
                                                                                exact Int.le_refl _, rfl, rfl⟩, Abs.by0 hbel ?_⟩
    exact absT
  rintro k F Hx ⟨i, m, hik, hi1, hm, hle, rfl, rfl⟩ J hJ
  by_cases hi : i < xs.length
  · have hii : (i : Int) < (xs.length : Int) := by omega
    have hg := ints_get (k := .u8) (xs := xs) (j := i) hi
    simp -implicitDefEqProofs (disch := omega) only [hii, hb, hg, simprocAttr, amset, tyset, Function.comp_apply, one1, lenV, calleeOf, lateOk, belowV, aop, AV.ofValue, AV.ofCell, AV.cells, AV.flat, AV.one, arep, aBin, aAppend, aConv]
    repeat refine And.intro (by omega) ?_
    refine hJ _ _ ⟨k - 1, by omega, _, _, _, ⟨i + 1, if m < gi xs i then gi xs i else m, by omega, by omega, by split; exact gi_mem hi; exact hm, fun j hj => ?_, rfl, rfl⟩, Abs.by0 hbel ?_⟩
    · by_cases hji : j = i
      · subst hji; split <;> omega
      have := hle j (by omega); split <;> omega
    exact absT
  have hnn : ¬ ((i : Int) < (xs.length : Int)) := by omega
  simp -implicitDefEqProofs (disch := omega) only [hnn, simprocAttr, amset, tyset, Function.comp_apply, one1, lenV, calleeOf, lateOk, belowV, aop, AV.ofValue, AV.ofCell, AV.cells, AV.flat, AV.one, arep, aBin, aAppend, aConv]
  exact hQ _ _ (end_plain0 (.inl rfl) hbel (x := .int .u8 m) (resT Try.results41) rfl ⟨m, rfl, hm, fun x hx => by
    obtain ⟨j, hj, rfl⟩ := List.getElem_of_mem hx
    rw [← gi_lt hj]; exact hle j (by omega), rfl⟩)
theorem vldB_neg {W Hh : Int} {xs : List Int} (h : ¬ (1 ≤ W ∧ W ≤ 64 ∧ 1 ≤ Hh ∧ Hh ≤ 64 ∧ (xs.length : Int) = W * Hh)) : vldB W Hh xs = false := vld_false.2 fun v => h ⟨v.w0, v.w1, v.h0, v.h1, v.len⟩
set_option maxRecDepth 100000 in
theorem valid_a (W Hh : Int) (s : AV) (xs : List Int) (hs : IsI H .u8 s xs) : ACalls Try.prog 21 [.agg [.int .i64 W, .int .i64 Hh, s]] H (fun v H' => v = .bool (vldB W Hh xs) ∧ H' = H) := by
  have hs1 : ∃ a c, s = .sl a xs.length c := by
    rcases hs with ⟨rfl, rfl⟩ | ⟨b, own, cap, rfl, hb⟩
    · exact ⟨_, _, rfl⟩
    exact ⟨_, _, rfl⟩
  obtain ⟨a1, c1, rfl⟩ := hs1
  (refine ACalls_run try_mixed Try.func21 true _ rfl (Nat.le_of_ble_eq_true (by kernel_rfl)) (by kernel_rfl) ?_; intro hbel Q hQ hQ' c hc; unfold Try.f21 at hc; simp only [Option.some.injEq] at hc; subst hc; clear hQ')
  simp -implicitDefEqProofs (disch := omega) only [simprocAttr, amset, tyset, Function.comp_apply, one1, lenV, calleeOf, lateOk, belowV, aop, AV.ofValue, AV.ofCell, AV.cells, AV.flat, AV.one, arep, aBin, aAppend, aConv]
  refine call_v (by kernel_rfl) (psize_c _ _) ?_
  cases h1 : (decide (1 ≤ W) && decide (W ≤ 64))
  · simp only [Bool.and_eq_false_iff, decide_eq_false_iff_not] at h1
    simp -implicitDefEqProofs (disch := omega) only [simprocAttr, amset, tyset, Function.comp_apply, one1, lenV, calleeOf, lateOk, belowV, aop, AV.ofValue, AV.ofCell, AV.cells, AV.flat, AV.one, arep, aBin, aAppend, aConv]
    exact hQ _ _ (end_plain (.inl rfl) hbel (x := .bool false) (resT Try.results21) rfl ⟨by rw [vldB_neg (by omega)], rfl⟩)
  simp only [Bool.and_eq_true, decide_eq_true_eq] at h1
  simp -implicitDefEqProofs (disch := omega) only [simprocAttr, amset, tyset, Function.comp_apply, one1, lenV, calleeOf, lateOk, belowV, aop, AV.ofValue, AV.ofCell, AV.cells, AV.flat, AV.one, arep, aBin, aAppend, aConv]
  refine call_v (by kernel_rfl) (psize_c _ _) ?_
  cases h2 : (decide (1 ≤ Hh) && decide (Hh ≤ 64))
  · simp only [Bool.and_eq_false_iff, decide_eq_false_iff_not] at h2
    simp -implicitDefEqProofs (disch := omega) only [simprocAttr, amset, tyset, Function.comp_apply, one1, lenV, calleeOf, lateOk, belowV, aop, AV.ofValue, AV.ofCell, AV.cells, AV.flat, AV.one, arep, aBin, aAppend, aConv]
    exact hQ _ _ (end_plain (.inl rfl) hbel (x := .bool false) (resT Try.results21) rfl ⟨by rw [vldB_neg (by omega)], rfl⟩)
  simp only [Bool.and_eq_true, decide_eq_true_eq] at h2
  have hm := mul_le_64 (a := W) (b := Hh) (by omega) (by omega) (by omega) (by omega)
  have hm1 := Int.mul_le_mul (a := 1) (b := 1) (c := W) (d := Hh) h1.1 h2.1 (by omega) (by omega)
  by_cases h3 : (xs.length : Int) = W * Hh
  · have h3' : ((xs.length : Int) != W * Hh) = false := by simp [h3]
    have h4 : ((xs.length : Int) == 0) = false := beq_eq_false_iff_ne.2 (by omega)
    obtain ⟨b, own, cap, e1, hb⟩ := hs.resolve_left (fun h => by rw [h.1] at h3; simp at h3; omega)
    injection e1 with e1 _ e1'; subst e1 e1'
    have hb0 := fun l => get_app (l := l) hb
    have hbl := getElem?_lt hb
    simp -implicitDefEqProofs (disch := omega) only [h3', h4, simprocAttr, amset, tyset, Function.comp_apply, one1, lenV, calleeOf, lateOk, belowV, aop, AV.ofValue, AV.ofCell, AV.cells, AV.flat, AV.one, arep, aBin, aAppend, aConv]
    refine call_of (by kernel_rfl) (max_c _ xs b own c1 (hb0 _) (by omega) (by omega)) ?_
    rintro x H' ⟨m, rfl, hm, hle, rfl⟩
    simp -implicitDefEqProofs (disch := omega) only [simprocAttr, amset, tyset, Function.comp_apply, one1, lenV, calleeOf, lateOk, belowV, aop, AV.ofValue, AV.ofCell, AV.cells, AV.flat, AV.one, arep, aBin, aAppend, aConv]
    exact hQ _ _ (end_plain (.inl rfl) hbel (x := .bool (decide (m ≤ 2))) (resT Try.results21) rfl ⟨by
      congr 1
      rw [Bool.eq_iff_iff, vld_iff, decide_eq_true_eq]
      exact ⟨fun h => ⟨h1.1, h1.2, h2.1, h2.2, h3, fun v hv => Int.le_trans (hle v hv) h⟩, fun h => h.le m hm⟩, rfl⟩)
  have h3' : ((xs.length : Int) != W * Hh) = true := by simp [h3]
  simp -implicitDefEqProofs (disch := omega) only [h3', simprocAttr, amset, tyset, Function.comp_apply, one1, lenV, calleeOf, lateOk, belowV, aop, AV.ofValue, AV.ofCell, AV.cells, AV.flat, AV.one, arep, aBin, aAppend, aConv]
  exact hQ _ _ (end_plain (.inl rfl) hbel (x := .bool false) (resT Try.results21) rfl ⟨by rw [vldB_neg (by omega)], rfl⟩)
set_option maxRecDepth 100000 in
theorem rplan_a (W Hh : Int) (s : AV) (xs : List Int) (hs : IsI H .u8 s xs) : ACalls Try.prog 17 [.agg [.int .i64 W, .int .i64 Hh, s]] H (fun v H' => v = .bool (vldB W Hh xs) ∧ H' = H) := by
  have hs1 : ∃ a c, s = .sl a xs.length c := by
    rcases hs with ⟨rfl, rfl⟩ | ⟨b, own, cap, rfl, hb⟩
    · exact ⟨_, _, rfl⟩
    exact ⟨_, _, rfl⟩
  obtain ⟨a1, c1, rfl⟩ := hs1
  (refine ACalls_run try_mixed Try.func17 true _ rfl (Nat.le_of_ble_eq_true (by kernel_rfl)) (by kernel_rfl) ?_; intro hbel Q hQ hQ' c hc; unfold Try.f17 at hc; simp only [Option.some.injEq] at hc; subst hc; clear hQ')
  by_cases h1 : W < 1
  · simp -implicitDefEqProofs (disch := omega) only [h1, simprocAttr, amset, tyset, Function.comp_apply, one1, lenV, calleeOf, lateOk, belowV, aop, AV.ofValue, AV.ofCell, AV.cells, AV.flat, AV.one, arep, aBin, aAppend, aConv]
    exact hQ _ _ (end_plain (.inl rfl) hbel (x := .bool false) (resT Try.results17) rfl ⟨by rw [vldB_neg (by omega)], rfl⟩)
  by_cases h2 : 64 < W
  · simp -implicitDefEqProofs (disch := omega) only [h1, h2, simprocAttr, amset, tyset, Function.comp_apply, one1, lenV, calleeOf, lateOk, belowV, aop, AV.ofValue, AV.ofCell, AV.cells, AV.flat, AV.one, arep, aBin, aAppend, aConv]
    exact hQ _ _ (end_plain (.inl rfl) hbel (x := .bool false) (resT Try.results17) rfl ⟨by rw [vldB_neg (by omega)], rfl⟩)
  by_cases h3 : Hh < 1
  · simp -implicitDefEqProofs (disch := omega) only [h1, h2, h3, simprocAttr, amset, tyset, Function.comp_apply, one1, lenV, calleeOf, lateOk, belowV, aop, AV.ofValue, AV.ofCell, AV.cells, AV.flat, AV.one, arep, aBin, aAppend, aConv]
    exact hQ _ _ (end_plain (.inl rfl) hbel (x := .bool false) (resT Try.results17) rfl ⟨by rw [vldB_neg (by omega)], rfl⟩)
  by_cases h4 : 64 < Hh
  · simp -implicitDefEqProofs (disch := omega) only [h1, h2, h3, h4, simprocAttr, amset, tyset, Function.comp_apply, one1, lenV, calleeOf, lateOk, belowV, aop, AV.ofValue, AV.ofCell, AV.cells, AV.flat, AV.one, arep, aBin, aAppend, aConv]
    exact hQ _ _ (end_plain (.inl rfl) hbel (x := .bool false) (resT Try.results17) rfl ⟨by rw [vldB_neg (by omega)], rfl⟩)
  have hm := mul_le_64 (a := W) (b := Hh) (by omega) (by omega) (by omega) (by omega)
  have hm1 := Int.mul_le_mul (a := 1) (b := 1) (c := W) (d := Hh) (by omega) (by omega) (by omega) (by omega)
  by_cases h5 : (xs.length : Int) = W * Hh
  · have h5' : ((xs.length : Int) != W * Hh) = false := by simp [h5]
    obtain ⟨b, own, cap, e1, hb⟩ := hs.resolve_left (fun h => by rw [h.1] at h5; simp at h5; omega)
    injection e1 with e1 _ e1'; subst e1 e1'
    have hb0 := fun l => get_app (l := l) hb
    have hbl := getElem?_lt hb
    simp -implicitDefEqProofs (disch := omega) only [h1, h2, h3, h4, h5', simprocAttr, amset, tyset, Function.comp_apply, one1, lenV, calleeOf, lateOk, belowV, aop, AV.ofValue, AV.ofCell, AV.cells, AV.flat, AV.one, arep, aBin, aAppend, aConv]
    refine go_loop try_mixed (by kernel_rfl) (fun k F Hx => ∃ (i : Nat), i + k = xs.length ∧ (∀ j, j < i → gi xs j ≤ 2) ∧ F = [(1, .ptr (some (H.length, 0))), (3, .int .i64 (i : Nat))] ∧ Hx = H ++ [.cells true 0 [.int .i64 W, .int .i64 Hh, .sl (some (b, 0)) xs.length c1]]) xs.length ?_ ?_
    · refine ⟨_, _, _, ⟨0, by omega, fun j hj => absurd hj (Nat.not_lt_zero j), rfl, rfl⟩, Abs.by hbel [0] (by decide) ?_⟩
      exact absT
    rintro k F Hx ⟨i, hik, hle, rfl, rfl⟩ J hJ
    by_cases hi : i < xs.length
    · have hii : (i : Int) < (xs.length : Int) := by omega
      have hg := ints_get (k := .u8) (xs := xs) (j := i) hi
      by_cases h6 : 2 < gi xs i
      · simp -implicitDefEqProofs (disch := omega) only [hii, hb0, hg, h6, simprocAttr, amset, tyset, Function.comp_apply, one1, lenV, calleeOf, lateOk, belowV, aop, AV.ofValue, AV.ofCell, AV.cells, AV.flat, AV.one, arep, aBin, aAppend, aConv]
        repeat refine And.intro (by omega) ?_
        exact hQ _ _ (end_plain (.inl rfl) hbel (x := .bool false) (resT Try.results17) rfl ⟨by rw [vld_false.2 fun v => absurd (v.le _ (gi_mem hi)) (by omega)], rfl⟩)
      simp -implicitDefEqProofs (disch := omega) only [hii, hb0, hg, h6, simprocAttr, amset, tyset, Function.comp_apply, one1, lenV, calleeOf, lateOk, belowV, aop, AV.ofValue, AV.ofCell, AV.cells, AV.flat, AV.one, arep, aBin, aAppend, aConv]
      repeat refine And.intro (by omega) ?_
      refine hJ _ _ ⟨k - 1, by omega, _, _, _, ⟨i + 1, by omega, fun j hj => ?_, rfl, rfl⟩, Abs.by hbel [0] (by decide) ?_⟩
      · by_cases hji : j = i
        · subst hji; omega
        exact hle j (by omega)
      exact absT
    have hnn : ¬ ((i : Int) < (xs.length : Int)) := by omega
    simp -implicitDefEqProofs (disch := omega) only [hnn, simprocAttr, amset, tyset, Function.comp_apply, one1, lenV, calleeOf, lateOk, belowV, aop, AV.ofValue, AV.ofCell, AV.cells, AV.flat, AV.one, arep, aBin, aAppend, aConv]
    exact hQ _ _ (end_plain (.inl rfl) hbel (x := .bool true) (resT Try.results17) rfl ⟨by rw [vld_iff.2 ⟨by omega, by omega, by omega, by omega, h5, fun x hx => by
      obtain ⟨j, hj, rfl⟩ := List.getElem_of_mem hx
      rw [← gi_lt hj]; exact hle j (by omega)⟩], rfl⟩)
  have h5' : ((xs.length : Int) != W * Hh) = true := by simp [h5]
  simp -implicitDefEqProofs (disch := omega) only [h1, h2, h3, h4, h5', simprocAttr, amset, tyset, Function.comp_apply, one1, lenV, calleeOf, lateOk, belowV, aop, AV.ofValue, AV.ofCell, AV.cells, AV.flat, AV.one, arep, aBin, aAppend, aConv]
  exact hQ _ _ (end_plain (.inl rfl) hbel (x := .bool false) (resT Try.results17) rfl ⟨by rw [vldB_neg (by omega)], rfl⟩)
end
section
variable {H : AHeap} {W Hh x y : Int} {s : AV} {xs : List Int} {g : Nat} {own : Bool} {cap : Option Nat} {n : Nat}
set_option maxRecDepth 100000 in
theorem rinside_c {a : Option (Nat × Nat)} : ACalls Try.prog 34 [.agg [.int .i64 W, .int .i64 Hh, .sl a n cap], .agg [.int .i64 x, .int .i64 y]] H (fun v H' => v = .bool (inB W Hh x y) ∧ H' = H) := by
  (refine ACalls_run try_mixed Try.func34 true _ rfl (Nat.le_of_ble_eq_true (by kernel_rfl)) (by kernel_rfl) ?_; intro hbel Q hQ hQ' c hc; unfold Try.f34 at hc; simp only [Option.some.injEq] at hc; subst hc; clear hQ')
  by_cases h1 : 0 ≤ x
  · by_cases h2 : x < W
    · by_cases h3 : 0 ≤ y
      · simp -implicitDefEqProofs (disch := omega) only [h1, h2, h3, simprocAttr, amset, tyset, Function.comp_apply, one1, lenV, calleeOf, lateOk, belowV, aop, AV.ofValue, AV.ofCell, AV.cells, AV.flat, AV.one, arep, aBin, aAppend, aConv]
        exact hQ _ _ (end_plain (.inl rfl) hbel (x := .bool (decide (y < Hh))) (resT Try.results34) rfl ⟨by simp [inB, h1, h2, h3], rfl⟩)
      simp -implicitDefEqProofs (disch := omega) only [h1, h2, h3, simprocAttr, amset, tyset, Function.comp_apply, one1, lenV, calleeOf, lateOk, belowV, aop, AV.ofValue, AV.ofCell, AV.cells, AV.flat, AV.one, arep, aBin, aAppend, aConv]
      exact hQ _ _ (end_plain (.inl rfl) hbel (x := .bool false) (resT Try.results34) rfl ⟨by simp [inB, h1, h2, h3], rfl⟩)
    simp -implicitDefEqProofs (disch := omega) only [h1, h2, simprocAttr, amset, tyset, Function.comp_apply, one1, lenV, calleeOf, lateOk, belowV, aop, AV.ofValue, AV.ofCell, AV.cells, AV.flat, AV.one, arep, aBin, aAppend, aConv]
    exact hQ _ _ (end_plain (.inl rfl) hbel (x := .bool false) (resT Try.results34) rfl ⟨by simp [inB, h1, h2], rfl⟩)
  simp -implicitDefEqProofs (disch := omega) only [h1, simprocAttr, amset, tyset, Function.comp_apply, one1, lenV, calleeOf, lateOk, belowV, aop, AV.ofValue, AV.ofCell, AV.cells, AV.flat, AV.one, arep, aBin, aAppend, aConv]
  exact hQ _ _ (end_plain (.inl rfl) hbel (x := .bool false) (resT Try.results34) rfl ⟨by simp [inB, h1], rfl⟩)
set_option maxRecDepth 100000 in
theorem is_c {v : Int} (hV : Vld W Hh xs) (hg : H[g]? = some (.cells own 1 (ints .u8 xs))) (hn : n = xs.length) : ACalls Try.prog 42 [.agg [.int .i64 W, .int .i64 Hh, .sl (some (g, 0)) n cap], .agg [.int .i64 x, .int .i64 y], .int .u8 v] H (fun r H' => r = .bool (isB W Hh xs x y v) ∧ H' = H) := by
  (refine ACalls_run try_mixed Try.func42 true _ rfl (Nat.le_of_ble_eq_true (by kernel_rfl)) (by kernel_rfl) ?_; intro hbel Q hQ hQ' c hc; unfold Try.f42 at hc; simp only [Option.some.injEq] at hc; subst hc; clear hQ')
  have hg0 := fun l => get_app (l := l) hg
  by_cases h1 : 0 ≤ x
  · by_cases h2 : x < W
    · by_cases h3 : 0 ≤ y
      · by_cases h4 : y < Hh
        · have hi : inB W Hh x y = true := inB_iff.2 ⟨h1, h2, h3, h4⟩
          obtain ⟨i1, i2, i3, i4, i5, -⟩ := hV.idx hi
          have hl := hV.len
          have hp := hV.pos
          have hgi := ints_get (k := .u8) (xs := xs) (j := (y * W + x).toNat) i5
          simp -implicitDefEqProofs (disch := omega) only [h1, h2, h3, h4, hg0, hgi, simprocAttr, amset, tyset, Function.comp_apply, one1, lenV, calleeOf, lateOk, belowV, aop, AV.ofValue, AV.ofCell, AV.cells, AV.flat, AV.one, arep, aBin, aAppend, aConv]
          repeat refine And.intro (by omega) ?_
          exact hQ _ _ (end_plain (.inl rfl) hbel (x := .bool (gi xs (y * W + x).toNat == v)) (resT Try.results42) rfl ⟨by simp [isB, hi], rfl⟩)
        simp -implicitDefEqProofs (disch := omega) only [h1, h2, h3, h4, simprocAttr, amset, tyset, Function.comp_apply, one1, lenV, calleeOf, lateOk, belowV, aop, AV.ofValue, AV.ofCell, AV.cells, AV.flat, AV.one, arep, aBin, aAppend, aConv]
        exact hQ _ _ (end_plain (.inl rfl) hbel (x := .bool false) (resT Try.results42) rfl ⟨by simp [isB, inB, h1, h2, h3, h4], rfl⟩)
      simp -implicitDefEqProofs (disch := omega) only [h1, h2, h3, simprocAttr, amset, tyset, Function.comp_apply, one1, lenV, calleeOf, lateOk, belowV, aop, AV.ofValue, AV.ofCell, AV.cells, AV.flat, AV.one, arep, aBin, aAppend, aConv]
      exact hQ _ _ (end_plain (.inl rfl) hbel (x := .bool false) (resT Try.results42) rfl ⟨by simp [isB, inB, h1, h2, h3], rfl⟩)
    simp -implicitDefEqProofs (disch := omega) only [h1, h2, simprocAttr, amset, tyset, Function.comp_apply, one1, lenV, calleeOf, lateOk, belowV, aop, AV.ofValue, AV.ofCell, AV.cells, AV.flat, AV.one, arep, aBin, aAppend, aConv]
    exact hQ _ _ (end_plain (.inl rfl) hbel (x := .bool false) (resT Try.results42) rfl ⟨by simp [isB, inB, h1, h2], rfl⟩)
  simp -implicitDefEqProofs (disch := omega) only [h1, simprocAttr, amset, tyset, Function.comp_apply, one1, lenV, calleeOf, lateOk, belowV, aop, AV.ofValue, AV.ofCell, AV.cells, AV.flat, AV.one, arep, aBin, aAppend, aConv]
  exact hQ _ _ (end_plain (.inl rfl) hbel (x := .bool false) (resT Try.results42) rfl ⟨by simp [isB, inB, h1], rfl⟩)
set_option maxRecDepth 100000 in
theorem at_c (hV : Vld W Hh xs) (hg : H[g]? = some (.cells own 1 (ints .u8 xs))) (hn : n = xs.length) : ACalls Try.prog 18 [.agg [.int .i64 W, .int .i64 Hh, .sl (some (g, 0)) n cap], .agg [.int .i64 x, .int .i64 y]] H (fun r H' => r = .int .u8 (atI W Hh xs x y) ∧ H' = H) := by
  (refine ACalls_run try_mixed Try.func18 true _ rfl (Nat.le_of_ble_eq_true (by kernel_rfl)) (by kernel_rfl) ?_; intro hbel Q hQ hQ' c hc; unfold Try.f18 at hc; simp only [Option.some.injEq] at hc; subst hc; clear hQ')
  have hg0 := fun l => get_app (l := l) hg
  simp -implicitDefEqProofs (disch := omega) only [simprocAttr, amset, tyset, Function.comp_apply, one1, lenV, calleeOf, lateOk, belowV, aop, AV.ofValue, AV.ofCell, AV.cells, AV.flat, AV.one, arep, aBin, aAppend, aConv]
  refine call_v (by kernel_rfl) rinside_c ?_
  cases hi : inB W Hh x y
  · simp -implicitDefEqProofs (disch := omega) only [simprocAttr, amset, tyset, Function.comp_apply, one1, lenV, calleeOf, lateOk, belowV, aop, AV.ofValue, AV.ofCell, AV.cells, AV.flat, AV.one, arep, aBin, aAppend, aConv]
    exact hQ _ _ (end_plain (.inl rfl) hbel (x := .int .u8 2) (resT Try.results18) rfl ⟨by simp [atI, hi], rfl⟩)
  obtain ⟨i1, i2, i3, i4, i5, -⟩ := hV.idx hi
  have hl := hV.len
  have hp := hV.pos
  have hgi := ints_get (k := .u8) (xs := xs) (j := (y * W + x).toNat) i5
  simp -implicitDefEqProofs (disch := omega) only [hg0, hgi, simprocAttr, amset, tyset, Function.comp_apply, one1, lenV, calleeOf, lateOk, belowV, aop, AV.ofValue, AV.ofCell, AV.cells, AV.flat, AV.one, arep, aBin, aAppend, aConv]
  repeat refine And.intro (by omega) ?_
  exact hQ _ _ (end_plain (.inl rfl) hbel (x := .int .u8 (gi xs (y * W + x).toNat)) (resT Try.results18) rfl ⟨by simp [atI, hi], rfl⟩)
theorem unknown_c (hV : Vld W Hh xs) (hg : H[g]? = some (.cells own 1 (ints .u8 xs))) (hn : n = xs.length) : ACalls Try.prog 35 [.agg [.int .i64 W, .int .i64 Hh, .sl (some (g, 0)) n cap], .agg [.int .i64 x, .int .i64 y]] H (fun r H' => r = .bool (isB W Hh xs x y 0) ∧ H' = H) := by
  (refine ACalls_run try_mixed Try.func35 true _ rfl (Nat.le_of_ble_eq_true (by kernel_rfl)) (by kernel_rfl) ?_; intro hbel Q hQ hQ' c hc; unfold Try.f35 at hc; simp only [Option.some.injEq] at hc; subst hc; clear hQ')
  have hg0 := fun l => get_app (l := l) hg
  simp -implicitDefEqProofs (disch := omega) only [simprocAttr, amset, tyset, Function.comp_apply, one1, lenV, calleeOf, lateOk, belowV, aop, AV.ofValue, AV.ofCell, AV.cells, AV.flat, AV.one, arep, aBin, aAppend, aConv]
  refine call_v (by kernel_rfl) rinside_c ?_
  cases hi : inB W Hh x y
  · simp -implicitDefEqProofs (disch := omega) only [simprocAttr, amset, tyset, Function.comp_apply, one1, lenV, calleeOf, lateOk, belowV, aop, AV.ofValue, AV.ofCell, AV.cells, AV.flat, AV.one, arep, aBin, aAppend, aConv]
    exact hQ _ _ (end_plain (.inl rfl) hbel (x := .bool false) (resT Try.results35) rfl ⟨by simp [isB, hi], rfl⟩)
  simp -implicitDefEqProofs (disch := omega) only [simprocAttr, amset, tyset, Function.comp_apply, one1, lenV, calleeOf, lateOk, belowV, aop, AV.ofValue, AV.ofCell, AV.cells, AV.flat, AV.one, arep, aBin, aAppend, aConv]
  refine call_v (by kernel_rfl) (at_c hV (hg0 _) hn) ?_
  simp -implicitDefEqProofs (disch := omega) only [simprocAttr, amset, tyset, Function.comp_apply, one1, lenV, calleeOf, lateOk, belowV, aop, AV.ofValue, AV.ofCell, AV.cells, AV.flat, AV.one, arep, aBin, aAppend, aConv]
  exact hQ _ _ (end_plain (.inl rfl) hbel (x := .bool (atI W Hh xs x y == 0)) (resT Try.results35) rfl ⟨by rw [isB_at (by omega)], rfl⟩)
set_option maxRecDepth 100000 in
theorem ris_c (hV : Vld W Hh xs) (hg : H[g]? = some (.cells own 1 (ints .u8 xs))) (hn : n = xs.length) (hx : -1000000 ≤ x ∧ x ≤ 1000000 ∧ -1000000 ≤ y ∧ y ≤ 1000000) : ACalls Try.prog 19 [.agg [.int .i64 W, .int .i64 Hh, .sl (some (g, 0)) n cap], .agg [.int .i64 x, .int .i64 y]] H (fun r H' => r = .bool (froB W Hh xs x y) ∧ H' = H) := by
  (refine ACalls_run try_mixed Try.func19 true _ rfl (Nat.le_of_ble_eq_true (by kernel_rfl)) (by kernel_rfl) ?_; intro hbel Q hQ hQ' c hc; unfold Try.f19 at hc; simp only [Option.some.injEq] at hc; subst hc; clear hQ')
  have hg0 := fun l => get_app (l := l) hg
  simp -implicitDefEqProofs (disch := omega) only [simprocAttr, amset, tyset, Function.comp_apply, one1, lenV, calleeOf, lateOk, belowV, aop, AV.ofValue, AV.ofCell, AV.cells, AV.flat, AV.one, arep, aBin, aAppend, aConv]
  refine call_v (by kernel_rfl) (at_c hV (hg0 _) hn) ?_
  have h0 : isB W Hh xs x y 1 = (atI W Hh xs x y == 1) := isB_at (by omega)
  cases h1 : (atI W Hh xs x y == 1)
  · have h1' : (atI W Hh xs x y != 1) = true := by rw [bne, h1]; rfl
    simp -implicitDefEqProofs (disch := omega) only [h1', simprocAttr, amset, tyset, Function.comp_apply, one1, lenV, calleeOf, lateOk, belowV, aop, AV.ofValue, AV.ofCell, AV.cells, AV.flat, AV.one, arep, aBin, aAppend, aConv]
    exact hQ _ _ (end_plain (.inl rfl) hbel (x := .bool false) (resT Try.results19) rfl ⟨by simp [froB, h0, h1], rfl⟩)
  have h1' : (atI W Hh xs x y != 1) = false := by rw [bne, h1]; rfl
  simp -implicitDefEqProofs (disch := omega) only [h1', simprocAttr, amset, tyset, Function.comp_apply, one1, lenV, calleeOf, lateOk, belowV, aop, AV.ofValue, AV.ofCell, AV.cells, AV.flat, AV.one, arep, aBin, aAppend, aConv]
  refine call_v (by kernel_rfl) (unknown_c hV (hg0 _) hn) ?_
  cases h2 : isB W Hh xs (x + 1) y 0
  · simp -implicitDefEqProofs (disch := omega) only [simprocAttr, amset, tyset, Function.comp_apply, one1, lenV, calleeOf, lateOk, belowV, aop, AV.ofValue, AV.ofCell, AV.cells, AV.flat, AV.one, arep, aBin, aAppend, aConv]
    refine call_v (by kernel_rfl) (unknown_c hV (hg0 _) hn) ?_
    cases h3 : isB W Hh xs (x - 1) y 0
    · simp -implicitDefEqProofs (disch := omega) only [simprocAttr, amset, tyset, Function.comp_apply, one1, lenV, calleeOf, lateOk, belowV, aop, AV.ofValue, AV.ofCell, AV.cells, AV.flat, AV.one, arep, aBin, aAppend, aConv]
      refine call_v (by kernel_rfl) (unknown_c hV (hg0 _) hn) ?_
      cases h4 : isB W Hh xs x (y + 1) 0
      · simp -implicitDefEqProofs (disch := omega) only [simprocAttr, amset, tyset, Function.comp_apply, one1, lenV, calleeOf, lateOk, belowV, aop, AV.ofValue, AV.ofCell, AV.cells, AV.flat, AV.one, arep, aBin, aAppend, aConv]
        refine call_v (by kernel_rfl) (unknown_c hV (hg0 _) hn) ?_
        simp -implicitDefEqProofs (disch := omega) only [simprocAttr, amset, tyset, Function.comp_apply, one1, lenV, calleeOf, lateOk, belowV, aop, AV.ofValue, AV.ofCell, AV.cells, AV.flat, AV.one, arep, aBin, aAppend, aConv]
        exact hQ _ _ (end_plain (.inl rfl) hbel (x := .bool (isB W Hh xs x (y - 1) 0)) (resT Try.results19) rfl ⟨by simp [froB, h0, h1, h2, h3, h4], rfl⟩)
      simp -implicitDefEqProofs (disch := omega) only [simprocAttr, amset, tyset, Function.comp_apply, one1, lenV, calleeOf, lateOk, belowV, aop, AV.ofValue, AV.ofCell, AV.cells, AV.flat, AV.one, arep, aBin, aAppend, aConv]
      exact hQ _ _ (end_plain (.inl rfl) hbel (x := .bool true) (resT Try.results19) rfl ⟨by simp [froB, h0, h1, h2, h3, h4], rfl⟩)
    simp -implicitDefEqProofs (disch := omega) only [simprocAttr, amset, tyset, Function.comp_apply, one1, lenV, calleeOf, lateOk, belowV, aop, AV.ofValue, AV.ofCell, AV.cells, AV.flat, AV.one, arep, aBin, aAppend, aConv]
    exact hQ _ _ (end_plain (.inl rfl) hbel (x := .bool true) (resT Try.results19) rfl ⟨by simp [froB, h0, h1, h2, h3], rfl⟩)
  simp -implicitDefEqProofs (disch := omega) only [simprocAttr, amset, tyset, Function.comp_apply, one1, lenV, calleeOf, lateOk, belowV, aop, AV.ofValue, AV.ofCell, AV.cells, AV.flat, AV.one, arep, aBin, aAppend, aConv]
  exact hQ _ _ (end_plain (.inl rfl) hbel (x := .bool true) (resT Try.results19) rfl ⟨by simp [froB, h0, h1, h2], rfl⟩)
end
set_option maxRecDepth 100000 in
theorem fcells_c (H : AHeap) (W Hh : Int) (xs : List Int) (g : Nat) (own : Bool) (cap : Option Nat) (n : Nat) (hV : Vld W Hh xs) (hg : H[g]? = some (.cells own 1 (ints .u8 xs))) (hn : n = xs.length) :
    ACalls Try.prog 22 [.agg [.int .i64 W, .int .i64 Hh, .sl (some (g, 0)) n cap]] H (fun v H' => v = (retP H (froL W Hh xs)).1 ∧ H' = (retP H (froL W Hh xs)).2) := by
  have hW : 1 ≤ W ∧ W ≤ 64 ∧ 1 ≤ Hh ∧ Hh ≤ 64 := ⟨hV.w0, hV.w1, hV.h0, hV.h1⟩
  have hgl := getElem?_lt hg
  (refine ACalls_run try_mixed Try.func22 true _ rfl (Nat.le_of_ble_eq_true (by kernel_rfl)) (by kernel_rfl) ?_; intro hbel Q hQ hQ' c hc; unfold Try.f22 at hc; simp only [Option.some.injEq] at hc; subst hc; clear hQ')
  have hg0 := fun l => get_app (l := l) hg
  simp -implicitDefEqProofs (disch := omega) only [hg0, simprocAttr, amset, tyset, Function.comp_apply, one1, lenV, calleeOf, lateOk, belowV, aop, AV.ofValue, AV.ofCell, AV.cells, AV.flat, AV.one, arep, aBin, aAppend, aConv]
  refine go_loop try_mixed (by kernel_rfl) (fun k F Hx => ∃ (y : Nat) (s : AV) (X : ABlk), y + k = Hh.toNat ∧ OutP (H.length + 1) s X (gridP (froB W Hh xs) W.toNat y) ∧
    F = [(1, .ptr (some (H.length, 0))), (3, s), (8, .int .i64 Hh), (9, .int .i64 (y : Nat))] ∧ Hx = H ++ [.cells true 0 [.int .i64 W, .int .i64 Hh, .sl (some (g, 0)) n cap], X]) Hh.toNat ?_ ?_
  · refine ⟨_, _, _, ⟨0, _, _, by omega, .inl ⟨rfl, rfl, rfl⟩, rfl, rfl⟩, Abs.by hbel [0, 1] (by decide) ?_⟩
    exact absT
  rintro k F Hx ⟨y, s, X, hyk, hO, rfl, rfl⟩ J1 hJ1
  by_cases hy : (y : Int) < Hh
  · have hgl := gridP_len (froB W Hh xs) W.toNat y
    have hgl2 : y * W.toNat ≤ 64 * 64 := Nat.mul_le_mul (by omega) (by omega)
    simp -implicitDefEqProofs (disch := omega) only [hy, simprocAttr, amset, tyset, Function.comp_apply, one1, lenV, calleeOf, lateOk, belowV, aop, AV.ofValue, AV.ofCell, AV.cells, AV.flat, AV.one, arep, aBin, aAppend, aConv]
    refine go_loop try_mixed (by kernel_rfl) (fun k F Hx => ∃ (x : Nat) (s : AV) (X : ABlk), x + k = W.toNat ∧ OutP (H.length + 1) s X (gridP (froB W Hh xs) W.toNat y ++ rowP (froB W Hh xs) y x) ∧
      F = [(1, .ptr (some (H.length, 0))), (3, s), (4, .int .i64 (y : Nat)), (8, .int .i64 Hh), (9, .int .i64 (y : Nat)), (13, .int .i64 W), (14, .int .i64 (x : Nat))] ∧ Hx = H ++ [.cells true 0 [.int .i64 W, .int .i64 Hh, .sl (some (g, 0)) n cap], X]) W.toNat ?_ ?_
    · refine ⟨_, _, _, ⟨0, s, X, by omega, by simpa [rowP] using hO, rfl, rfl⟩, Abs.by hbel [0, 1] (by decide) ?_⟩
      rcases hO with ⟨-, rfl, rfl⟩ | ⟨-, rfl, rfl⟩
      · exact absT
      exact absT
    rintro k F Hx ⟨x, s, X, hxk, hO, rfl, rfl⟩ J hJ
    by_cases hx : (x : Int) < W
    · have hrl := rowP_len (froB W Hh xs) y x
      have hrow : rowP (froB W Hh xs) y (x + 1) = rowP (froB W Hh xs) y x ++ if froB W Hh xs x y = true then [((x : Int), (y : Int))] else [] := rfl
      have hend0 : froB W Hh xs x y = false → gridP (froB W Hh xs) W.toNat y ++ rowP (froB W Hh xs) y (x + 1) = gridP (froB W Hh xs) W.toNat y ++ rowP (froB W Hh xs) y x := fun h => by rw [hrow, if_neg (by rw [h]; simp), List.append_nil]
      have hend1 : froB W Hh xs x y = true → gridP (froB W Hh xs) W.toNat y ++ rowP (froB W Hh xs) y (x + 1) = gridP (froB W Hh xs) W.toNat y ++ rowP (froB W Hh xs) y x ++ [((x : Int), (y : Int))] := fun h => by rw [hrow, if_pos h, List.append_assoc]
      have hLl : (gridP (froB W Hh xs) W.toNat y ++ rowP (froB W Hh xs) y x).length ≤ 5000 := by rw [List.length_append]; omega
      generalize gridP (froB W Hh xs) W.toNat y ++ rowP (froB W Hh xs) y x = L at *
      have fin0 : froB W Hh xs x y = false → ∀ (F : Fr) (l1 : AHeap), (absF (H.length + l1.length) (sig H.length l1.length [0, 1]) F [(1, .ptr (some (H.length, 0))), (3, s), (4, .int .i64 (y : Nat)), (8, .int .i64 Hh), (9, .int .i64 (y : Nat)), (13, .int .i64 W), (14, .int .i64 ((x + 1 : Nat) : Int))] ∧ absH (H.length + l1.length) (sig H.length l1.length [0, 1]) l1 [0, 1] [.cells true 0 [.int .i64 W, .int .i64 Hh, .sl (some (g, 0)) n cap], X]) → J F (H ++ l1) := fun hf F l1 ha =>
        hJ _ _ ⟨k - 1, by omega, _, _, _, ⟨x + 1, s, X, by omega, by rw [hend0 hf]; exact hO, rfl, rfl⟩, Abs.by hbel [0, 1] (by decide) ha⟩
      have fin1 : froB W Hh xs x y = true → ∀ (F : Fr) (l1 : AHeap), (absF (H.length + l1.length) (sig H.length l1.length [0, 4]) F [(1, .ptr (some (H.length, 0))), (3, .sl (some (H.length + 1, 0)) (L.length + 1) none), (4, .int .i64 (y : Nat)), (8, .int .i64 Hh), (9, .int .i64 (y : Nat)), (13, .int .i64 W), (14, .int .i64 ((x + 1 : Nat) : Int))] ∧ absH (H.length + l1.length) (sig H.length l1.length [0, 4]) l1 [0, 4] [.cells true 0 [.int .i64 W, .int .i64 Hh, .sl (some (g, 0)) n cap], .cells true 2 (prs (L ++ [((x : Int), (y : Int))]))]) → J F (H ++ l1) := fun hf F l1 ha =>
        hJ _ _ ⟨k - 1, by omega, _, _, _, ⟨x + 1, _, _, by omega, by rw [hend1 hf]; exact .inr ⟨by simp, by simp, rfl⟩, rfl, rfl⟩, Abs.by hbel [0, 4] (by decide) ha⟩
      have hLt : List.take (L.length * 2) (prs L) = prs L := List.take_of_length_le (by rw [prs_len]; omega)
      simp -implicitDefEqProofs (disch := omega) only [hx, simprocAttr, amset, tyset, Function.comp_apply, one1, lenV, calleeOf, lateOk, belowV, aop, AV.ofValue, AV.ofCell, AV.cells, AV.flat, AV.one, arep, aBin, aAppend, aConv]
      refine call_v (by kernel_rfl) (is_c hV (hg0 _) hn) ?_
      cases h1 : isB W Hh xs x y 1
      · simp -implicitDefEqProofs (disch := omega) only [simprocAttr, amset, tyset, Function.comp_apply, one1, lenV, calleeOf, lateOk, belowV, aop, AV.ofValue, AV.ofCell, AV.cells, AV.flat, AV.one, arep, aBin, aAppend, aConv]
        refine fin0 (by simp [froB, h1]) _ _ ?_
        rcases hO with ⟨-, rfl, rfl⟩ | ⟨-, rfl, rfl⟩
        · exact absT
        exact absT
      simp -implicitDefEqProofs (disch := omega) only [simprocAttr, amset, tyset, Function.comp_apply, one1, lenV, calleeOf, lateOk, belowV, aop, AV.ofValue, AV.ofCell, AV.cells, AV.flat, AV.one, arep, aBin, aAppend, aConv]
      refine call_v (by kernel_rfl) (is_c hV (hg0 _) hn) ?_
      cases h2 : isB W Hh xs (x + 1) y 0
      · simp -implicitDefEqProofs (disch := omega) only [simprocAttr, amset, tyset, Function.comp_apply, one1, lenV, calleeOf, lateOk, belowV, aop, AV.ofValue, AV.ofCell, AV.cells, AV.flat, AV.one, arep, aBin, aAppend, aConv]
        refine call_v (by kernel_rfl) (is_c hV (hg0 _) hn) ?_
        cases h3 : isB W Hh xs (x - 1) y 0
        · simp -implicitDefEqProofs (disch := omega) only [simprocAttr, amset, tyset, Function.comp_apply, one1, lenV, calleeOf, lateOk, belowV, aop, AV.ofValue, AV.ofCell, AV.cells, AV.flat, AV.one, arep, aBin, aAppend, aConv]
          refine call_v (by kernel_rfl) (is_c hV (hg0 _) hn) ?_
          cases h4 : isB W Hh xs x (y + 1) 0
          · simp -implicitDefEqProofs (disch := omega) only [simprocAttr, amset, tyset, Function.comp_apply, one1, lenV, calleeOf, lateOk, belowV, aop, AV.ofValue, AV.ofCell, AV.cells, AV.flat, AV.one, arep, aBin, aAppend, aConv]
            refine call_v (by kernel_rfl) (is_c hV (hg0 _) hn) ?_
            cases h5 : isB W Hh xs x (y - 1) 0
            · simp -implicitDefEqProofs (disch := omega) only [simprocAttr, amset, tyset, Function.comp_apply, one1, lenV, calleeOf, lateOk, belowV, aop, AV.ofValue, AV.ofCell, AV.cells, AV.flat, AV.one, arep, aBin, aAppend, aConv]
              refine fin0 (by simp [froB, h1, h2, h3, h4, h5]) _ _ ?_
              rcases hO with ⟨-, rfl, rfl⟩ | ⟨-, rfl, rfl⟩
              · exact absT
              exact absT
            rcases hO with ⟨rfl, rfl, rfl⟩ | ⟨hL0, rfl, rfl⟩
            · simp -implicitDefEqProofs (disch := omega) only [simprocAttr, amset, tyset, Function.comp_apply, one1, lenV, calleeOf, lateOk, belowV, aop, AV.ofValue, AV.ofCell, AV.cells, AV.flat, AV.one, arep, aBin, aAppend, aConv]
              refine fin1 (by simp [froB, h1, h2, h3, h4, h5]) _ _ ?_
              exact absT
            simp -implicitDefEqProofs (disch := omega) only [prs_snoc, hLt, simprocAttr, amset, tyset, Function.comp_apply, one1, lenV, calleeOf, lateOk, belowV, aop, AV.ofValue, AV.ofCell, AV.cells, AV.flat, AV.one, arep, aBin, aAppend, aConv]
            repeat refine And.intro (by omega) ?_
            refine fin1 (by simp [froB, h1, h2, h3, h4, h5]) _ _ ?_
            exact absT
          simp -implicitDefEqProofs (disch := omega) only [simprocAttr, amset, tyset, Function.comp_apply, one1, lenV, calleeOf, lateOk, belowV, aop, AV.ofValue, AV.ofCell, AV.cells, AV.flat, AV.one, arep, aBin, aAppend, aConv]
          rcases hO with ⟨rfl, rfl, rfl⟩ | ⟨hL0, rfl, rfl⟩
          · simp -implicitDefEqProofs (disch := omega) only [simprocAttr, amset, tyset, Function.comp_apply, one1, lenV, calleeOf, lateOk, belowV, aop, AV.ofValue, AV.ofCell, AV.cells, AV.flat, AV.one, arep, aBin, aAppend, aConv]
            refine fin1 (by simp [froB, h1, h2, h3, h4]) _ _ ?_
            exact absT
          simp -implicitDefEqProofs (disch := omega) only [prs_snoc, hLt, simprocAttr, amset, tyset, Function.comp_apply, one1, lenV, calleeOf, lateOk, belowV, aop, AV.ofValue, AV.ofCell, AV.cells, AV.flat, AV.one, arep, aBin, aAppend, aConv]
          repeat refine And.intro (by omega) ?_
          refine fin1 (by simp [froB, h1, h2, h3, h4]) _ _ ?_
          exact absT
        simp -implicitDefEqProofs (disch := omega) only [simprocAttr, amset, tyset, Function.comp_apply, one1, lenV, calleeOf, lateOk, belowV, aop, AV.ofValue, AV.ofCell, AV.cells, AV.flat, AV.one, arep, aBin, aAppend, aConv]
        rcases hO with ⟨rfl, rfl, rfl⟩ | ⟨hL0, rfl, rfl⟩
        · simp -implicitDefEqProofs (disch := omega) only [simprocAttr, amset, tyset, Function.comp_apply, one1, lenV, calleeOf, lateOk, belowV, aop, AV.ofValue, AV.ofCell, AV.cells, AV.flat, AV.one, arep, aBin, aAppend, aConv]
          refine fin1 (by simp [froB, h1, h2, h3]) _ _ ?_
          exact absT
        simp -implicitDefEqProofs (disch := omega) only [prs_snoc, hLt, simprocAttr, amset, tyset, Function.comp_apply, one1, lenV, calleeOf, lateOk, belowV, aop, AV.ofValue, AV.ofCell, AV.cells, AV.flat, AV.one, arep, aBin, aAppend, aConv]
        repeat refine And.intro (by omega) ?_
        refine fin1 (by simp [froB, h1, h2, h3]) _ _ ?_
        exact absT
      simp -implicitDefEqProofs (disch := omega) only [simprocAttr, amset, tyset, Function.comp_apply, one1, lenV, calleeOf, lateOk, belowV, aop, AV.ofValue, AV.ofCell, AV.cells, AV.flat, AV.one, arep, aBin, aAppend, aConv]
      rcases hO with ⟨rfl, rfl, rfl⟩ | ⟨hL0, rfl, rfl⟩
      · simp -implicitDefEqProofs (disch := omega) only [simprocAttr, amset, tyset, Function.comp_apply, one1, lenV, calleeOf, lateOk, belowV, aop, AV.ofValue, AV.ofCell, AV.cells, AV.flat, AV.one, arep, aBin, aAppend, aConv]
        refine fin1 (by simp [froB, h1, h2]) _ _ ?_
        exact absT
      simp -implicitDefEqProofs (disch := omega) only [prs_snoc, hLt, simprocAttr, amset, tyset, Function.comp_apply, one1, lenV, calleeOf, lateOk, belowV, aop, AV.ofValue, AV.ofCell, AV.cells, AV.flat, AV.one, arep, aBin, aAppend, aConv]
      repeat refine And.intro (by omega) ?_
      refine fin1 (by simp [froB, h1, h2]) _ _ ?_
      exact absT
    have hxe : x = W.toNat := by omega
    subst hxe
    have hrow : gridP (froB W Hh xs) W.toNat (y + 1) = gridP (froB W Hh xs) W.toNat y ++ rowP (froB W Hh xs) y W.toNat := rfl
    rw [← hrow] at hO
    simp -implicitDefEqProofs (disch := omega) only [hx, simprocAttr, amset, tyset, Function.comp_apply, one1, lenV, calleeOf, lateOk, belowV, aop, AV.ofValue, AV.ofCell, AV.cells, AV.flat, AV.one, arep, aBin, aAppend, aConv]
    refine hJ1 _ _ ⟨Hh.toNat - (y + 1), by omega, _, _, _, ⟨y + 1, s, X, by omega, hO, rfl, rfl⟩, Abs.by hbel [0, 1] (by decide) ?_⟩
    rcases hO with ⟨-, rfl, rfl⟩ | ⟨-, rfl, rfl⟩
    · exact absT
    exact absT
  have hye : y = Hh.toNat := by omega
  subst hye
  have e : gridP (froB W Hh xs) W.toNat Hh.toNat = froL W Hh xs := rfl
  rw [e] at hO
  simp -implicitDefEqProofs (disch := omega) only [hy, simprocAttr, amset, tyset, Function.comp_apply, one1, lenV, calleeOf, lateOk, belowV, aop, AV.ofValue, AV.ofCell, AV.cells, AV.flat, AV.one, arep, aBin, aAppend, aConv]
  rcases hO with ⟨h, rfl, rfl⟩ | ⟨h, rfl, rfl⟩
  · rw [h] at hQ
    exact hQ _ _ (end_plain (.inl rfl) hbel (x := .sl none 0 (some 0)) (resT Try.results22) rfl ⟨rfl, rfl⟩)
  rw [retP_pos h] at hQ
  refine hQ _ _ (end_by (.inl rfl) hbel (x1 := .sl (some (H.length + 1, 0)) (froL W Hh xs).length none) (.sl (some (H.length, 0)) (froL W Hh xs).length none) (resT Try.results22) [1] (by decide) ⟨rfl, rfl⟩ ?_)
  exact absT
set_option maxHeartbeats 4000000
set_option maxRecDepth 100000
theorem prs_allC {l : List (Int × Int)} : (prs l).take (l.length * 2) = prs l := List.take_of_length_le (by rw [prs_len]; omega)
theorem fro_bd {W Hh : Int} {xs : List Int} (hV : Vld W Hh xs) : ∀ p ∈ froL W Hh xs, (0 ≤ p.1 ∧ p.1 < 64) ∧ 0 ≤ p.2 ∧ p.2 < 64 := fun p hp => by
  obtain ⟨w0, w1, h0, h1, -⟩ := hV
  have := (gridP_mem _ _ _ p).1 hp
  omega
theorem fcells_u (H : AHeap) (W Hh : Int) (s : AV) (xs : List Int) (A : List (Int × Int)) (hA : froL W Hh xs = A) (hV : Vld W Hh xs) (hs : Sl H 1 s xs.length (ints .u8 xs)) :
    ACalls Try.prog 22 [.agg [iV W, iV Hh, s]] H (fun v H' => v = .sl (some (H.length, 0)) A.length (capG A.length) ∧ H' = H ++ [.cells (ownG A.length) 2 (prs A)]) := by
  obtain ⟨b, own, cap, rfl, hb⟩ := hs
  have h := fcells_c H W Hh xs b own cap _ hV hb rfl
  rw [hA] at h
  rcases Nat.eq_zero_or_pos A.length with h0 | h0
  · rw [List.eq_nil_of_length_eq_zero h0] at h ⊢
    simp only [retP_nil] at h
    refine ACalls.weak0 h [.cells false 2 []] rfl [0] (by decide) _ _ ?_
    exact absTf (jn @List.length_nil.{0} (jn @capG_0 (jn @ownG_0 @prs_nil)))
  rw [retP_pos h0] at h
  refine ACalls.weak h [] rfl [0] (by decide) _ _ ?_
  rw [capG_p h0, ownG_p h0]
  generalize A = L
  exact absT
theorem clus_y (H : AHeap) (A : List (Int × Int)) (n0 : Nat) (W Hh : Int) (pp : AV) (xs : List Int) (hpp : Sl H 1 pp xs.length (ints .u8 xs)) (hv : vldB W Hh xs = true) (hA : froL W Hh xs = A) (hn0 : n0 = H.length) : ACalls Try.prog 10 [.agg [iV W, iV Hh, pp]] H (fun v H' => ∃ X : AHeap, (∀ x ∈ X, ABlk.bel (H ++ X).length x = true) ∧ (X = (cluL A).map cblk) ∧ v = .tup [.sl (some ((H ++ X).length, 0)) ((cluL A).length) (capG (cluL A).length), iV 0] ∧ H' = H ++ X ++ [.cells (ownG (cluL A).length) 1 (slr n0 (cluL A))]) := by
  obtain ⟨bpp, opp, cpp, rfl, hbpp⟩ := hpp
  have hblpp := getElem?_lt hbpp
  have hb0pp := fun l => get_app (l := l) hbpp
  have hV := vld_iff.1 hv
  have hAb : ∀ p ∈ A, (0 ≤ p.1 ∧ p.1 < 64) ∧ 0 ≤ p.2 ∧ p.2 < 64 := hA ▸ fro_bd hV
  have hAn : A.Nodup := hA ▸ fro_nodup
  have hAl : A.length ≤ 4096 := hA ▸ fro_len hV
  have hins := insN_all hAn
  refine AcT true Try.func10 ?_; intro hbel Q hQ
  have h0bel := hbel
  simp -implicitDefEqProofs (disch := omega) only [lk_gen, lk_mp, up_eq, de_eq, mset_nil, hbpp, hb0pp, prs_allC, aApp_nil, aApp_none, aApp_some, aApp_grw, simprocAttr, amset, tyset, Function.comp_apply, one1, lenV, calleeOf, lateOk, belowV, aop, AV.ofValue, AV.ofCell, AV.cells, AV.flat, AV.one, arep, aBin, aConv]
  repeat refine And.intro (by omega) ?_
  refine cv (valid_a _ W Hh _ xs (.inr ⟨_, _, _, rfl, by first | exact hb0pp _ | exact hbpp⟩)) ?_
  simp -implicitDefEqProofs (disch := omega) only [lk_gen, lk_mp, up_eq, de_eq, mset_nil, hbpp, hb0pp, prs_allC, aApp_nil, aApp_none, aApp_some, aApp_grw, simprocAttr, amset, tyset, Function.comp_apply, one1, lenV, calleeOf, lateOk, belowV, aop, AV.ofValue, AV.ofCell, AV.cells, AV.flat, AV.one, arep, aBin, aConv]
  repeat refine And.intro (by omega) ?_
  refine cond_split (fun h1 => ?_) (fun h1 => ?_)
  · have h1d := bsT h1
    rw [hv] at h1d; cases h1d
  have h1d := bsT h1
  simp -implicitDefEqProofs (disch := omega) only [lk_gen, lk_mp, up_eq, de_eq, mset_nil, hbpp, hb0pp, h1, h1d, prs_allC, aApp_nil, aApp_none, aApp_some, aApp_grw, simprocAttr, amset, tyset, Function.comp_apply, one1, lenV, calleeOf, lateOk, belowV, aop, AV.ofValue, AV.ofCell, AV.cells, AV.flat, AV.one, arep, aBin, aConv]
  repeat refine And.intro (by omega) ?_
  refine cv (fcells_u _ W Hh _ xs A hA hV (⟨_, _, _, rfl, by first | exact hb0pp _ | exact hbpp⟩)) ?_
  simp -implicitDefEqProofs (disch := omega) only [lk_gen, lk_mp, up_eq, de_eq, mset_nil, hbpp, hb0pp, h1, h1d, prs_allC, aApp_nil, aApp_none, aApp_some, aApp_grw, simprocAttr, amset, tyset, Function.comp_apply, one1, lenV, calleeOf, lateOk, belowV, aop, AV.ofValue, AV.ofCell, AV.cells, AV.flat, AV.one, arep, aBin, aConv]
  repeat refine And.intro (by omega) ?_
  refine glp (fun k F Hx => ∃ i : Nat, i + k = A.length ∧ F = [(4, .mp (some (H.length))), (5, .sl (some (H.length + 1, 0)) A.length (capG A.length)), (22, .sl (some (H.length + 1, 0)) A.length (capG A.length)), (23, iV ((A.length : Nat) : Int)), (24, iV ((i : Nat) : Int))] ∧ Hx = H ++ [.map (mset (insN A i)), .cells (ownG A.length) 2 (prs A)]) (A.length) ?_ ?_
  · refine ⟨_, _, _, ⟨0, by omega, rfl, rfl⟩, bS hbel [1, 2] (absRf (jn @insN.eq_1 (jn @mv_mset @mset_nil)))⟩
  rintro k0 F Hx ⟨i, hm0, rfl, rfl⟩ J0 hJ0
  simp -implicitDefEqProofs (disch := omega) only [lk_gen, lk_mp, up_eq, de_eq, mset_nil, hbpp, hb0pp, h1, h1d, prs_len, prs_one, prs_allC, aApp_nil, aApp_none, aApp_some, aApp_grw, simprocAttr, amset, tyset, Function.comp_apply, one1, lenV, calleeOf, lateOk, belowV, aop, AV.ofValue, AV.ofCell, AV.cells, AV.flat, AV.one, arep, aBin, aConv]
  repeat refine And.intro (by omega) ?_
  refine cond_split (fun h2 => ?_) (fun h2 => ?_)
  · have h2d := bsT h2
    have hlt : i < A.length := by omega
    have q3 := prs_load (l := A) (j := i) (by omega)
    have qm51_l := fun l x y => lk_mblk (P := Try.prog) (t := 51) (kt := 36) (et := 4) (by kernel_rfl) tEq36 (by kernel_rfl) (by kernel_rfl) l x y
    have qm51_u := fun l x y => up_mblk (P := Try.prog) (t := 51) (kt := 36) (et := 4) (by kernel_rfl) tEq36 l x y
    have qm51_d := fun l x y => de_mblk (P := Try.prog) (t := 51) (kt := 36) (et := 4) (by kernel_rfl) tEq36 l x y
    simp -implicitDefEqProofs (disch := omega) only [lk_gen, lk_mp, up_eq, de_eq, mset_nil, hbpp, hb0pp, h1, h1d, prs_len, prs_one, h2, h2d, q3, qm51_l, qm51_u, qm51_d, prs_allC, aApp_nil, aApp_none, aApp_some, aApp_grw, simprocAttr, amset, tyset, Function.comp_apply, one1, lenV, calleeOf, lateOk, belowV, aop, AV.ofValue, AV.ofCell, AV.cells, AV.flat, AV.one, arep, aBin, aConv]
    repeat refine And.intro (by omega) ?_
    refine hJ0 _ _ ⟨k0 - 1, by omega, _, _, _, ⟨i + 1, by omega, rfl, rfl⟩, bS hbel [0, 1] (absRf (jn @insN.eq_2 (jn @mv_mset @mset_nil)))⟩
  have h2d := bsT h2
  obtain rfl : i = A.length := by omega
  simp -implicitDefEqProofs (disch := omega) only [lk_gen, lk_mp, up_eq, de_eq, mset_nil, hbpp, hb0pp, h1, h1d, prs_len, prs_one, h2, h2d, prs_allC, aApp_nil, aApp_none, aApp_some, aApp_grw, simprocAttr, amset, tyset, Function.comp_apply, one1, lenV, calleeOf, lateOk, belowV, aop, AV.ofValue, AV.ofCell, AV.cells, AV.flat, AV.one, arep, aBin, aConv]
  repeat refine And.intro (by omega) ?_
  have hmvs : ∀ m k sel, AV.mvs (sig m k sel) (slr n0 []) = slr n0 [] := fun _ _ _ => rfl
  refine glp (fun k F Hx => ∃ j : Nat, ∃ S : List (Int × Int), ∃ cs : List (List (Int × Int)), ∃ Hg1 : AHeap, ∃ XX1 : AHeap, j + k = A.length ∧ Hg1 = H ++ XX1 ∧ (∀ x ∈ XX1, ABlk.bel Hg1.length x = true) ∧ clN srtC A A j = (S, cs) ∧ n0 + cs.length = Hg1.length ∧ XX1 = cs.map cblk ∧ S.length ≤ 4096 ∧ (∀ p ∈ S, p ∈ A) ∧ cs.length ≤ j ∧ F = [(4, .mp (some (Hg1.length))), (8, .sl (some (Hg1.length + 2, 0)) cs.length (capG cs.length)), (31, .sl (some (Hg1.length + 1, 0)) A.length (capG A.length)), (32, iV ((A.length : Nat) : Int)), (33, iV ((j : Nat) : Int))] ∧ Hx = Hg1 ++ [.map (mset S), .cells (ownG A.length) 2 (prs A), .cells (ownG cs.length) 1 (slr n0 cs)]) (A.length) ?_ ?_
  · refine ⟨_, _, _, ⟨0, A, [], H, [], by omega, (List.append_nil _).symm, (fun x h => by cases h), rfl, hn0, rfl, hAl, fun _ h => h, Nat.le_refl _, rfl, rfl⟩, Abs.byG hbel [.cells false 1 []] rfl [0, 1, 2] (by decide) ?_⟩
    exact absRf (jn @hins (jn @slr_nil (jn @mv_mset @mset_nil)))
  rintro k1 F Hx ⟨j, S, cs, Hg1, XX1, hm1, hgX1, hXb_g1, hst, hgl, hXX, hSl, hSA, hcj, rfl, rfl⟩ J1 hJ1
  have hbel_g1 := hbel_grow hgX1 hbel hXb_g1
  have hbpp_g1 := grow1 hgX1 hb0pp
  have hblpp_g1 := getElem?_lt hbpp_g1
  have hb0pp_g1 := fun l => get_app (l := l) hbpp_g1
  have hpre_g1 : ∃ X, Hg1 = H ++ X := ⟨_, hgX1⟩
  have hle_g1 := pre_le hpre_g1
  have hmvs := fun k sel => mvs_slr (m := Hg1.length) (k := k) (sel := sel) (n := n0) (cs := cs) (by omega)
  simp -implicitDefEqProofs (disch := omega) only [lk_gen, lk_mp, up_eq, de_eq, mset_nil, hbpp_g1, hb0pp_g1, h1, h1d, prs_len, prs_one, h2, h2d, slr_len, slr_ones, prs_allC, aApp_nil, aApp_none, aApp_some, aApp_grw, simprocAttr, amset, tyset, Function.comp_apply, one1, lenV, calleeOf, lateOk, belowV, aop, AV.ofValue, AV.ofCell, AV.cells, AV.flat, AV.one, arep, aBin, aConv]
  repeat refine And.intro (by omega) ?_
  refine cond_split (fun h4 => ?_) (fun h4 => ?_)
  · have h4d := bsT h4
    have hlt : j < A.length := by omega
    have q5 := prs_load (l := A) (j := j) (by omega)
    have qm51_l := fun l x y => lk_mblk (P := Try.prog) (t := 51) (kt := 36) (et := 4) (by kernel_rfl) tEq36 (by kernel_rfl) (by kernel_rfl) l x y
    have qm51_u := fun l x y => up_mblk (P := Try.prog) (t := 51) (kt := 36) (et := 4) (by kernel_rfl) tEq36 l x y
    have qm51_d := fun l x y => de_mblk (P := Try.prog) (t := 51) (kt := 36) (et := 4) (by kernel_rfl) tEq36 l x y
    simp -implicitDefEqProofs (disch := omega) only [lk_gen, lk_mp, up_eq, de_eq, mset_nil, hbpp_g1, hb0pp_g1, h1, h1d, prs_len, prs_one, h2, h2d, slr_len, slr_ones, h4, h4d, q5, qm51_l, qm51_u, qm51_d, prs_allC, aApp_nil, aApp_none, aApp_some, aApp_grw, simprocAttr, amset, tyset, Function.comp_apply, one1, lenV, calleeOf, lateOk, belowV, aop, AV.ofValue, AV.ofCell, AV.cells, AV.flat, AV.one, arep, aBin, aConv]
    repeat refine And.intro (by omega) ?_
    refine cond_split (fun h6 => ?_) (fun h6 => ?_)
    · have h6d := bsT h6
      simp -implicitDefEqProofs (disch := omega) only [lk_gen, lk_mp, up_eq, de_eq, mset_nil, hbpp_g1, hb0pp_g1, h1, h1d, prs_len, prs_one, h2, h2d, slr_len, slr_ones, h4, h4d, q5, qm51_l, qm51_u, qm51_d, h6, h6d, prs_allC, aApp_nil, aApp_none, aApp_some, aApp_grw, simprocAttr, amset, tyset, Function.comp_apply, one1, lenV, calleeOf, lateOk, belowV, aop, AV.ofValue, AV.ofCell, AV.cells, AV.flat, AV.one, arep, aBin, aConv]
      repeat refine And.intro (by omega) ?_
      refine hJ1 _ _ ⟨k1 - 1, by omega, _, _, _, ⟨j + 1, S, cs, Hg1, XX1, by omega, by assumption, by assumption, by rw [clN, hst]; exact if_neg (by rw [h6d]; decide), by assumption, by assumption, by assumption, by assumption, by omega, rfl, rfl⟩, (Abs.byG hbel_g1 [] rfl [0, 1, 2] (by decide) ?_).le hle_g1⟩
      exact absRf (jn @hmvs (jn @slr_snoc (jn @hgl (jn @mv_mset (jn @mset_nil @slr_nil)))))
    have h6d := bsT h6
    have hmS := memP_iff.1 h6d
    have hel := List.length_erase_of_mem hmS
    have hpos := List.length_pos_of_mem hmS
    simp -implicitDefEqProofs (disch := omega) only [lk_gen, lk_mp, up_eq, de_eq, mset_nil, hbpp_g1, hb0pp_g1, h1, h1d, prs_len, prs_one, h2, h2d, slr_len, slr_ones, h4, h4d, q5, qm51_l, qm51_u, qm51_d, h6, h6d, prs_allC, aApp_nil, aApp_none, aApp_some, aApp_grw, simprocAttr, amset, tyset, Function.comp_apply, one1, lenV, calleeOf, lateOk, belowV, aop, AV.ofValue, AV.ofCell, AV.cells, AV.flat, AV.one, arep, aBin, aConv]
    repeat refine And.intro (by omega) ?_
    refine glp (fun k F Hx => ∃ n : Nat, ∃ T : List (Int × Int), ∃ cl : List (Int × Int), n + k = (S.erase (g1 A j, g2 A j)).length + 1 ∧ bfN n (S.erase (g1 A j, g2 A j), [(g1 A j, g2 A j)]) = (T, cl) ∧ T.length + cl.length = (S.erase (g1 A j, g2 A j)).length + 1 ∧ n ≤ cl.length ∧ (∀ p ∈ T, p ∈ A) ∧ (∀ p ∈ cl, p ∈ A) ∧ F = [(4, .mp (some (Hg1.length))), (8, .sl (some (Hg1.length + 2, 0)) cs.length (capG cs.length)), (11, .sl (some (Hg1.length + 3, 0)) cl.length none), (12, iV ((n : Nat) : Int)), (31, .sl (some (Hg1.length + 1, 0)) A.length (capG A.length)), (32, iV ((A.length : Nat) : Int)), (33, iV ((j : Nat) : Int))] ∧ Hx = Hg1 ++ [.map (mset T), .cells (ownG A.length) 2 (prs A), .cells (ownG cs.length) 1 (slr n0 cs), .cells true 2 (prs cl)]) ((S.erase (g1 A j, g2 A j)).length + 1) ?_ ?_
    · refine ⟨_, _, _, ⟨0, S.erase (g1 A j, g2 A j), [(g1 A j, g2 A j)], by omega, rfl, rfl, by omega, (fun p hp => hSA p (List.mem_of_mem_erase hp)), (fun p hp => hSA p ((List.mem_singleton.1 hp) ▸ hmS)), rfl, rfl⟩, (Abs.byG hbel_g1 [] rfl [0, 1, 2, 4] (by decide) ?_).le hle_g1⟩
      exact absRf (jn @hmvs (jn @mv_mset (jn @mset_nil @slr_nil)))
    rintro k2 F Hx ⟨n, T, cl, hm2, hbf, hln, hnl, hTA, hcA, rfl, rfl⟩ J2 hJ2
    simp -implicitDefEqProofs (disch := omega) only [lk_gen, lk_mp, up_eq, de_eq, mset_nil, hbpp_g1, hb0pp_g1, h1, h1d, prs_len, prs_one, h2, h2d, slr_len, slr_ones, h4, h4d, q5, qm51_l, qm51_u, qm51_d, h6, h6d, prs_allC, aApp_nil, aApp_none, aApp_some, aApp_grw, simprocAttr, amset, tyset, Function.comp_apply, one1, lenV, calleeOf, lateOk, belowV, aop, AV.ofValue, AV.ofCell, AV.cells, AV.flat, AV.one, arep, aBin, aConv]
    repeat refine And.intro (by omega) ?_
    refine cond_split (fun h7 => ?_) (fun h7 => ?_)
    · have h7d := bsT h7
      have hlt2 : n < cl.length := by omega
      simp -implicitDefEqProofs (disch := omega) only [lk_gen, lk_mp, up_eq, de_eq, mset_nil, hbpp_g1, hb0pp_g1, h1, h1d, prs_len, prs_one, h2, h2d, slr_len, slr_ones, h4, h4d, q5, qm51_l, qm51_u, qm51_d, h6, h6d, h7, h7d, prs_allC, aApp_nil, aApp_none, aApp_some, aApp_grw, simprocAttr, amset, tyset, Function.comp_apply, one1, lenV, calleeOf, lateOk, belowV, aop, AV.ofValue, AV.ofCell, AV.cells, AV.flat, AV.one, arep, aBin, aConv]
      repeat refine And.intro (by omega) ?_
      have hzz1 : ((0 : Nat) : Int) - 1 = -1 := rfl
      refine glp (fun k F Hx => ∃ a : Nat, ∃ T3 : List (Int × Int), ∃ cl3 : List (Int × Int), a + k = 3 ∧ dyF n a (T, cl) = (T3, cl3) ∧ T3.length + cl3.length = T.length + cl.length ∧ n < cl3.length ∧ (∀ p ∈ T3, p ∈ A) ∧ (∀ p ∈ cl3, p ∈ A) ∧ F = [(4, .mp (some (Hg1.length))), (8, .sl (some (Hg1.length + 2, 0)) cs.length (capG cs.length)), (11, .sl (some (Hg1.length + 3, 0)) cl3.length none), (12, iV ((n : Nat) : Int)), (13, iV (((a : Nat) : Int) - 1)), (31, .sl (some (Hg1.length + 1, 0)) A.length (capG A.length)), (32, iV ((A.length : Nat) : Int)), (33, iV ((j : Nat) : Int))] ∧ Hx = Hg1 ++ [.map (mset T3), .cells (ownG A.length) 2 (prs A), .cells (ownG cs.length) 1 (slr n0 cs), .cells true 2 (prs cl3)]) (3) ?_ ?_
      · refine ⟨_, _, _, ⟨0, T, cl, by omega, rfl, rfl, hlt2, hTA, hcA, rfl, rfl⟩, (Abs.byG hbel_g1 [] rfl [0, 1, 2, 3] (by decide) ?_).le hle_g1⟩
        exact absRf (jn @hmvs (jn @hzz1 (jn @mv_mset (jn @mset_nil @slr_nil))))
      rintro k3 F Hx ⟨a, T3, cl3, hm3, hdy, hln3, hnl3, hTA3, hcA3, rfl, rfl⟩ J3 hJ3
      have ha1 : ((a : Nat) : Int) - 1 + 1 = ((a + 1 : Nat) : Int) - 1 := by omega
      simp -implicitDefEqProofs (disch := omega) only [lk_gen, lk_mp, up_eq, de_eq, mset_nil, hbpp_g1, hb0pp_g1, h1, h1d, prs_len, prs_one, h2, h2d, slr_len, slr_ones, h4, h4d, q5, qm51_l, qm51_u, qm51_d, h6, h6d, h7, h7d, prs_allC, aApp_nil, aApp_none, aApp_some, aApp_grw, simprocAttr, amset, tyset, Function.comp_apply, one1, lenV, calleeOf, lateOk, belowV, aop, AV.ofValue, AV.ofCell, AV.cells, AV.flat, AV.one, arep, aBin, aConv]
      repeat refine And.intro (by omega) ?_
      refine cond_split (fun h8 => ?_) (fun h8 => ?_)
      · have h8d := bsT h8
        simp -implicitDefEqProofs (disch := omega) only [lk_gen, lk_mp, up_eq, de_eq, mset_nil, hbpp_g1, hb0pp_g1, h1, h1d, prs_len, prs_one, h2, h2d, slr_len, slr_ones, h4, h4d, q5, qm51_l, qm51_u, qm51_d, h6, h6d, h7, h7d, h8, h8d, prs_allC, aApp_nil, aApp_none, aApp_some, aApp_grw, simprocAttr, amset, tyset, Function.comp_apply, one1, lenV, calleeOf, lateOk, belowV, aop, AV.ofValue, AV.ofCell, AV.cells, AV.flat, AV.one, arep, aBin, aConv]
        repeat refine And.intro (by omega) ?_
        have hzz2 : ((0 : Nat) : Int) - 1 = -1 := rfl
        refine glp (fun k F Hx => ∃ b : Nat, ∃ T4 : List (Int × Int), ∃ cl4 : List (Int × Int), b + k = 3 ∧ dxF n (((a : Nat) : Int) - 1) b (T3, cl3) = (T4, cl4) ∧ T4.length + cl4.length = T3.length + cl3.length ∧ n < cl4.length ∧ (∀ p ∈ T4, p ∈ A) ∧ (∀ p ∈ cl4, p ∈ A) ∧ F = [(4, .mp (some (Hg1.length))), (8, .sl (some (Hg1.length + 2, 0)) cs.length (capG cs.length)), (11, .sl (some (Hg1.length + 3, 0)) cl4.length none), (12, iV ((n : Nat) : Int)), (13, iV (((a : Nat) : Int) - 1)), (14, iV (((b : Nat) : Int) - 1)), (31, .sl (some (Hg1.length + 1, 0)) A.length (capG A.length)), (32, iV ((A.length : Nat) : Int)), (33, iV ((j : Nat) : Int))] ∧ Hx = Hg1 ++ [.map (mset T4), .cells (ownG A.length) 2 (prs A), .cells (ownG cs.length) 1 (slr n0 cs), .cells true 2 (prs cl4)]) (3) ?_ ?_
        · refine ⟨_, _, _, ⟨0, T3, cl3, by omega, rfl, rfl, hnl3, hTA3, hcA3, rfl, rfl⟩, (Abs.byG hbel_g1 [] rfl [0, 1, 2, 3] (by decide) ?_).le hle_g1⟩
          exact absRf (jn @hmvs (jn @hzz2 (jn @mv_mset (jn @mset_nil @slr_nil))))
        rintro k4 F Hx ⟨b, T4, cl4, hm4, hdx, hln4, hnl4, hTA4, hcA4, rfl, rfl⟩ J4 hJ4
        have hb1 : ((b : Nat) : Int) - 1 + 1 = ((b + 1 : Nat) : Int) - 1 := by omega
        simp -implicitDefEqProofs (disch := omega) only [lk_gen, lk_mp, up_eq, de_eq, mset_nil, hbpp_g1, hb0pp_g1, h1, h1d, prs_len, prs_one, h2, h2d, slr_len, slr_ones, h4, h4d, q5, qm51_l, qm51_u, qm51_d, h6, h6d, h7, h7d, h8, h8d, prs_allC, aApp_nil, aApp_none, aApp_some, aApp_grw, simprocAttr, amset, tyset, Function.comp_apply, one1, lenV, calleeOf, lateOk, belowV, aop, AV.ofValue, AV.ofCell, AV.cells, AV.flat, AV.one, arep, aBin, aConv]
        repeat refine And.intro (by omega) ?_
        refine cond_split (fun h9 => ?_) (fun h9 => ?_)
        · have h9d := bsT h9
          have hbn := hAb _ (hcA4 _ (gp_in hnl4))
          simp only [gp] at hbn
          have q10 := prs_at0 (l := cl4) (j := n) (by omega)
          have q11 := prs_at1 (l := cl4) (j := n) (by omega)
          simp -implicitDefEqProofs (disch := omega) only [lk_gen, lk_mp, up_eq, de_eq, mset_nil, hbpp_g1, hb0pp_g1, h1, h1d, prs_len, prs_one, h2, h2d, slr_len, slr_ones, h4, h4d, q5, qm51_l, qm51_u, qm51_d, h6, h6d, h7, h7d, h8, h8d, h9, h9d, q10, q11, prs_allC, aApp_nil, aApp_none, aApp_some, aApp_grw, simprocAttr, amset, tyset, Function.comp_apply, one1, lenV, calleeOf, lateOk, belowV, aop, AV.ofValue, AV.ofCell, AV.cells, AV.flat, AV.one, arep, aBin, aConv]
          repeat refine And.intro (by omega) ?_
          refine cond_split (fun h12 => ?_) (fun h12 => ?_)
          · have h12d := bsT h12
            have hsfx : dxF n (((a : Nat) : Int) - 1) (b + 1) (T3, cl3) = (T4.erase (((g1 cl4 n) + (((b : Nat) : Int) - 1)), ((g2 cl4 n) + (((a : Nat) : Int) - 1))), cl4 ++ [(((g1 cl4 n) + (((b : Nat) : Int) - 1)), ((g2 cl4 n) + (((a : Nat) : Int) - 1)))]) := by
              show stF n (dxF n _ b (T3, cl3)) _ _ = _
              rw [hdx]; exact if_pos h12d
            simp -implicitDefEqProofs (disch := omega) only [lk_gen, lk_mp, up_eq, de_eq, mset_nil, hbpp_g1, hb0pp_g1, h1, h1d, prs_len, prs_one, h2, h2d, slr_len, slr_ones, h4, h4d, q5, qm51_l, qm51_u, qm51_d, h6, h6d, h7, h7d, h8, h8d, h9, h9d, q10, q11, h12, h12d, hsfx, capG_s, prs_allC, aApp_nil, aApp_none, aApp_some, aApp_grw, simprocAttr, amset, tyset, Function.comp_apply, one1, lenV, calleeOf, lateOk, belowV, aop, AV.ofValue, AV.ofCell, AV.cells, AV.flat, AV.one, arep, aBin, aConv]
            repeat refine And.intro (by omega) ?_
            refine hJ4 _ _ ⟨k4 - 1, by omega, _, _, _, ⟨b + 1, T4.erase ((g1 cl4 n) + (((b : Nat) : Int) - 1), (g2 cl4 n) + (((a : Nat) : Int) - 1)), cl4 ++ [((g1 cl4 n) + (((b : Nat) : Int) - 1), (g2 cl4 n) + (((a : Nat) : Int) - 1))], by omega, hsfx, (by have := List.length_erase_of_mem (memP_iff.1 h12d); have := List.length_pos_of_mem (memP_iff.1 h12d); rw [List.length_append, List.length_singleton]; omega), (by rw [List.length_append]; omega), (fun p hp => hTA4 p (List.mem_of_mem_erase hp)), (fun p hp => (List.mem_append.1 hp).elim (hcA4 p) fun q => (List.mem_singleton.1 q) ▸ hTA4 _ (memP_iff.1 h12d)), rfl, rfl⟩, (Abs.byG hbel_g1 [] rfl [0, 1, 2, 6] (by decide) ?_).le hle_g1⟩
            exact absRf (jn @hmvs (jn @hb1 (jn @mv_mset (jn @mset_nil @slr_nil))))
          have h12d := bsT h12
          have hsfx : dxF n (((a : Nat) : Int) - 1) (b + 1) (T3, cl3) = (T4, cl4) := by
            show stF n (dxF n _ b (T3, cl3)) _ _ = _
            rw [hdx]; exact if_neg (by rw [h12d]; decide)
          simp -implicitDefEqProofs (disch := omega) only [lk_gen, lk_mp, up_eq, de_eq, mset_nil, hbpp_g1, hb0pp_g1, h1, h1d, prs_len, prs_one, h2, h2d, slr_len, slr_ones, h4, h4d, q5, qm51_l, qm51_u, qm51_d, h6, h6d, h7, h7d, h8, h8d, h9, h9d, q10, q11, h12, h12d, hsfx, prs_allC, aApp_nil, aApp_none, aApp_some, aApp_grw, simprocAttr, amset, tyset, Function.comp_apply, one1, lenV, calleeOf, lateOk, belowV, aop, AV.ofValue, AV.ofCell, AV.cells, AV.flat, AV.one, arep, aBin, aConv]
          repeat refine And.intro (by omega) ?_
          refine hJ4 _ _ ⟨k4 - 1, by omega, _, _, _, ⟨b + 1, T4, cl4, by omega, hsfx, by omega, by omega, hTA4, hcA4, rfl, rfl⟩, (Abs.byG hbel_g1 [] rfl [0, 1, 2, 3] (by decide) ?_).le hle_g1⟩
          exact absRf (jn @hmvs (jn @hb1 (jn @mv_mset (jn @mset_nil @slr_nil))))
        have h9d := bsT h9
        obtain rfl : b = 3 := by omega
        simp -implicitDefEqProofs (disch := omega) only [lk_gen, lk_mp, up_eq, de_eq, mset_nil, hbpp_g1, hb0pp_g1, h1, h1d, prs_len, prs_one, h2, h2d, slr_len, slr_ones, h4, h4d, q5, qm51_l, qm51_u, qm51_d, h6, h6d, h7, h7d, h8, h8d, h9, h9d, prs_allC, aApp_nil, aApp_none, aApp_some, aApp_grw, simprocAttr, amset, tyset, Function.comp_apply, one1, lenV, calleeOf, lateOk, belowV, aop, AV.ofValue, AV.ofCell, AV.cells, AV.flat, AV.one, arep, aBin, aConv]
        repeat refine And.intro (by omega) ?_
        refine hJ3 _ _ ⟨k3 - 1, by omega, _, _, _, ⟨a + 1, T4, cl4, by omega, by
          show dxF n (((a : Nat) : Int) - 1) 3 (dyF n a (T, cl)) = _
          rw [hdy]; exact hdx, by omega, hnl4, hTA4, hcA4, rfl, rfl⟩, (Abs.byG hbel_g1 [] rfl [0, 1, 2, 3] (by decide) ?_).le hle_g1⟩
        exact absRf (jn @hmvs (jn @ha1 (jn @mv_mset (jn @mset_nil @slr_nil))))
      have h8d := bsT h8
      obtain rfl : a = 3 := by omega
      simp -implicitDefEqProofs (disch := omega) only [lk_gen, lk_mp, up_eq, de_eq, mset_nil, hbpp_g1, hb0pp_g1, h1, h1d, prs_len, prs_one, h2, h2d, slr_len, slr_ones, h4, h4d, q5, qm51_l, qm51_u, qm51_d, h6, h6d, h7, h7d, h8, h8d, prs_allC, aApp_nil, aApp_none, aApp_some, aApp_grw, simprocAttr, amset, tyset, Function.comp_apply, one1, lenV, calleeOf, lateOk, belowV, aop, AV.ofValue, AV.ofCell, AV.cells, AV.flat, AV.one, arep, aBin, aConv]
      repeat refine And.intro (by omega) ?_
      refine hJ2 _ _ ⟨k2 - 1, by omega, _, _, _, ⟨n + 1, T3, cl3, by omega, by
        rw [bfN, hbf, if_pos hlt2]
        show dyF n 3 (T, cl) = _
        exact hdy, by omega, by omega, hTA3, hcA3, rfl, rfl⟩, (Abs.byG hbel_g1 [] rfl [0, 1, 2, 3] (by decide) ?_).le hle_g1⟩
      exact absRf (jn @hmvs (jn @mv_mset (jn @mset_nil @slr_nil)))
    have h7d := bsT h7
    have hne2 : cl.length ≤ n := by omega
    have hbr : bfR (S.erase (g1 A j, g2 A j), [(g1 A j, g2 A j)]) = (T, cl) := by
      rw [bfR_stop (i := n) (by rw [hbf]; exact hne2) (by simp only [List.length_singleton]; omega), hbf]
    have hclp : 0 < cl.length := by have := (bfR_ext (S.erase (g1 A j, g2 A j), [(g1 A j, g2 A j)])).le; rw [hbr] at this; exact this
    have hcll : cl.length ≤ 4097 := by omega
    have hsl := srtC_len cl
    simp -implicitDefEqProofs (disch := omega) only [lk_gen, lk_mp, up_eq, de_eq, mset_nil, hbpp_g1, hb0pp_g1, h1, h1d, prs_len, prs_one, h2, h2d, slr_len, slr_ones, h4, h4d, q5, qm51_l, qm51_u, qm51_d, h6, h6d, h7, h7d, prs_allC, aApp_nil, aApp_none, aApp_some, aApp_grw, simprocAttr, amset, tyset, Function.comp_apply, one1, lenV, calleeOf, lateOk, belowV, aop, AV.ofValue, AV.ofCell, AV.cells, AV.flat, AV.one, arep, aBin, aConv]
    repeat refine And.intro (by omega) ?_
    refine cv (sortc_c _ _ _ cl (by first | rfl | (rw [get_newk]; rfl) | (rw [get_new0]; rfl)) (by omega) (by omega)) ?_
    simp -implicitDefEqProofs (disch := omega) only [lk_gen, lk_mp, up_eq, de_eq, mset_nil, hbpp_g1, hb0pp_g1, h1, h1d, prs_len, prs_one, h2, h2d, slr_len, slr_ones, h4, h4d, q5, qm51_l, qm51_u, qm51_d, h6, h6d, h7, h7d, capG_s, prs_allC, aApp_nil, aApp_none, aApp_some, aApp_grw, simprocAttr, amset, tyset, Function.comp_apply, one1, lenV, calleeOf, lateOk, belowV, aop, AV.ofValue, AV.ofCell, AV.cells, AV.flat, AV.one, arep, aBin, aConv]
    repeat refine And.intro (by omega) ?_
    refine hJ1 _ _ ⟨k1 - 1, by omega, _, _, _, ⟨j + 1, T, cs ++ [srtC cl], (Hg1 ++ [.cells true 2 (prs (srtC cl))]), (XX1 ++ [.cells true 2 (prs (srtC cl))]), by omega, (by rw [hgX1, List.append_assoc]), grow_bel hXb_g1 (by simp only [ABlk.bel, bels_prs, bels_ints]), by
      rw [clN, hst]
      show (if memP S (g1 A j) (g2 A j) = true then _ else _) = _
      rw [if_pos (memP_iff.2 hmS), hbr], (by rw [List.length_append, List.length_singleton, List.length_append, List.length_singleton]; omega), (by rw [List.map_append, ← hXX]; rfl), by omega, (fun p hp => hTA p hp), (by rw [List.length_append, List.length_singleton]; omega), rfl, rfl⟩, Abs.byX hle_g1 hbel_g1 [] rfl [3, 0, 1, 5] (by decide) ?_⟩
    exact absRf (jn @hmvs (jn @slr_snoc (jn @hgl (jn @srtC_len (jn @grow_len (jn @Nat.add_assoc (jn @mv_mset (jn @mset_nil @slr_nil))))))))
  have h4d := bsT h4
  obtain rfl : j = A.length := by omega
  have hcs : cluL A = cs := by unfold cluL; rw [hst]
  simp -implicitDefEqProofs (disch := omega) only [lk_gen, lk_mp, up_eq, de_eq, mset_nil, hbpp_g1, hb0pp_g1, h1, h1d, prs_len, prs_one, h2, h2d, slr_len, slr_ones, h4, h4d, prs_allC, aApp_nil, aApp_none, aApp_some, aApp_grw, simprocAttr, amset, tyset, Function.comp_apply, one1, lenV, calleeOf, lateOk, belowV, aop, AV.ofValue, AV.ofCell, AV.cells, AV.flat, AV.one, arep, aBin, aConv]
  repeat refine And.intro (by omega) ?_
  refine hQ _ _ ((end_byG (.inl rfl) hbel_g1 (x1 := .tup [.sl (some (Hg1.length + 2, 0)) cs.length (capG cs.length), iV 0]) (l2 := [.cells (ownG cs.length) 1 (slr n0 cs)]) (.tup [.sl (some (Hg1.length, 0)) cs.length (capG cs.length), iV 0]) (resT Try.results10) [] rfl [2] (by decide) ⟨XX1, (by rw [← hgX1]; exact hXb_g1), (by rw [hcs]; exact hXX), (by rw [hcs, ← hgX1]), (by rw [hcs, ← hgX1])⟩ ?_).le hle_g1)
  exact absWf @hmvs
theorem awake_a (H : AHeap) : ACalls Try.prog 7 [] H (fun v H' => v = .bool true ∧ H' = H) :=
  ACalls.closed (ran try_mixed ext_ok tb tb_ok 3000 60 (x := .bool true) (o := none) (by kernel_rfl)) rfl rfl H
theorem clus_n (H : AHeap) (W Hh : Int) (pp : AV) (xs : List Int) (hpp : Sl H 1 pp xs.length (ints .u8 xs)) (hv : vldB W Hh xs = false) : ACalls Try.prog 10 [.agg [iV W, iV Hh, pp]] H (fun v H' => v = .tup [.sl none 0 (some 0), iV 1] ∧ H' = H) := by
  obtain ⟨bpp, opp, cpp, rfl, hbpp⟩ := hpp
  have hblpp := getElem?_lt hbpp
  have hb0pp := fun l => get_app (l := l) hbpp
  refine AcT true Try.func10 ?_; intro hbel Q hQ
  have g'1 := (jn @hbpp @hb0pp)
  refine runTf g'1 ?_
  refine cv (valid_a _ W Hh _ xs (.inr ⟨_, _, _, rfl, by first | exact hb0pp _ | exact hbpp⟩)) ?_
  refine rcs g'1 (fun h1 h1d g'2 => ?_) (fun h1 h1d _ => ?_)
  · exact eR g'2 hQ hbel (.tup [.sl none 0 (some 0), iV 1]) Try.results10 ⟨rfl, rfl⟩
  rw [hv] at h1d; cases h1d
theorem few38_c (H : AHeap) (W Hh : Int) (pp : AV) (xs : List Int) (hpp : Sl H 1 pp xs.length (ints .u8 xs)) : ACalls Try.prog 8 [.agg [iV W, iV Hh, pp]] H (fun v H' => v = .bool (decide (((xs.length : Nat) : Int) ≤ 200)) ∧ H' = H) := by
  obtain ⟨bpp, opp, cpp, rfl, hbpp⟩ := hpp
  have hblpp := getElem?_lt hbpp
  have hb0pp := fun l => get_app (l := l) hbpp
  refine AcT true Try.func8 ?_; intro hbel Q hQ
  have g'7 := (jn @hbpp @hb0pp)
  exact eR g'7 hQ hbel (.bool (decide (((xs.length : Nat) : Int) ≤ 200))) Try.results8 ⟨rfl, rfl⟩
theorem adj38_c (H : AHeap) (a b : Int) (c d : Int) (ha : -1000000 ≤ a ∧ a ≤ 1000000) (hb : -1000000 ≤ b ∧ b ≤ 1000000) (hc : -1000000 ≤ c ∧ c ≤ 1000000) (hd : -1000000 ≤ d ∧ d ≤ 1000000) : ACalls Try.prog 11 [.agg [iV a, iV b], .agg [iV c, iV d]] H (fun v H' => v = .bool (adjB a b c d) ∧ H' = H) := by
  refine AcT true Try.func11 ?_; intro hbel Q hQ
  refine runT ?_
  refine cv (bsize_c _ _ _ (by decide)) ?_
  refine runT ?_
  refine gd_split (fun h1 => ?_) (fun h1 => ?_)
  · have h1d := bsT h1
    have g'8 := (jn h1 @h1d)
    refine runTf g'8 ?_
    refine cvr g'8 (bsize_c _ _ _ (by decide)) ?_
    exact eP hQ hbel (.bool (within (b - d) 1)) Try.results11 ⟨by refine congrArg _ (adj_w ?_); simp only [h1d, h1, Bool.true_and, Bool.false_and], rfl⟩
  have h1d := bsT h1
  have g'9 := (jn h1 @h1d)
  exact eR g'9 hQ hbel (.bool false) Try.results11 ⟨by refine congrArg _ (adj_w ?_); simp only [h1d, h1, Bool.true_and, Bool.false_and], rfl⟩
theorem clus_k (H : AHeap) (A : List (Int × Int)) (n0 : Nat) (W Hh : Int) (s : AV) (xs : List Int) (cs : List (List (Int × Int))) (hs : Sl H 1 s xs.length (ints .u8 xs)) (hv : vldB W Hh xs = true) (hA : froL W Hh xs = A) (hn0 : n0 = H.length) (hC : cluL A = cs) :
    ACalls Try.prog 10 [.agg [iV W, iV Hh, s]] H (fun v H' => ∃ X : AHeap, (∀ x ∈ X, ABlk.bel (H ++ X).length x = true) ∧ X = cs.map cblk ∧ v = .tup [.sl (some ((H ++ X).length, 0)) cs.length (capG cs.length), iV 0] ∧ H' = H ++ X ++ [.cells (ownG cs.length) 1 (slr n0 cs)]) := by
  subst hC; exact clus_y H A n0 W Hh s xs hs hv hA hn0
theorem rowP_sorted (p : Int → Int → Bool) (y : Nat) : ∀ j, (rowP p y j).Pairwise befP
  | 0 => .nil
  | j + 1 => by
    unfold rowP
    refine List.pairwise_append.2 ⟨rowP_sorted p y j, by split <;> simp, fun a ha b hb => ?_⟩
    split at hb
    · rw [List.mem_singleton] at hb
      have := (rowP_mem p y j a).1 ha
      subst hb
      unfold befP; simp only; omega
    cases hb
theorem gridP_sorted (p : Int → Int → Bool) (w : Nat) : ∀ i, (gridP p w i).Pairwise befP
  | 0 => .nil
  | i + 1 => by
    unfold gridP
    refine List.pairwise_append.2 ⟨gridP_sorted p w i, rowP_sorted p i w, fun a ha b hb => ?_⟩
    have h1 := (gridP_mem p w i a).1 ha
    have h2 := (rowP_mem p i w b).1 hb
    unfold befP; omega
theorem fro_sorted {W Hh : Int} {xs : List Int} : (froL W Hh xs).Pairwise befP := gridP_sorted _ _ _
theorem srtC_strict {l : List Pt} (h : l.Nodup) : (srtC l).Pairwise befP := by
  have hn : (srtC l).Nodup := (srtC_perm l).nodup_iff.2 h
  refine List.Pairwise.imp (fun {a b} q => ?_) ((srtC_sorted l).and hn)
  exact q.1.resolve_left q.2
/-- The cells with a number, below k. -/
def selF (A : List Pt) (nm : List Int) (v : Int) : Nat → List Pt
  | 0 => []
  | k + 1 => if (gi nm k == v) = true then selF A nm v k ++ [(g1 A k, g2 A k)] else selF A nm v k
/-- The clusters of the cells below i. -/
def rclF (A : List Pt) (nm : List Int) : Nat → List (List Pt)
  | 0 => []
  | i + 1 => if (gi nm i == (i : Int)) = true then rclF A nm i ++ [selF A nm i A.length] else rclF A nm i
theorem selF_mem {A : List Pt} {nm : List Int} {v : Int} {x : Pt} : ∀ {k : Nat}, x ∈ selF A nm v k ↔ ∃ j, j < k ∧ gi nm j = v ∧ gp A j = x
  | 0 => by simp [selF]
  | k + 1 => by
    unfold selF
    split
    · rename_i h
      have h := eq_of_beq h
      rw [List.mem_append, selF_mem, List.mem_singleton]
      constructor
      · rintro (⟨j, h1, h2⟩ | rfl)
        · exact ⟨j, by omega, h2⟩
        exact ⟨k, by omega, h, rfl⟩
      rintro ⟨j, h1, h2, h3⟩
      rcases (by omega : j < k ∨ j = k) with q | q
      · exact .inl ⟨j, q, h2, h3⟩
      subst q; exact .inr h3.symm
    rename_i h
    rw [selF_mem]
    constructor
    · rintro ⟨j, h1, h2⟩; exact ⟨j, by omega, h2⟩
    rintro ⟨j, h1, h2, h3⟩
    rcases (by omega : j < k ∨ j = k) with q | q
    · exact ⟨j, q, h2, h3⟩
    subst q; exact (h (by rw [h2]; exact beq_self_eq_true v)).elim
theorem selF_sorted {A : List Pt} (hA : A.Pairwise befP) {nm : List Int} {v : Int} : ∀ {k : Nat}, k ≤ A.length → (selF A nm v k).Pairwise befP
  | 0, _ => .nil
  | k + 1, hk => by
    unfold selF
    split
    · refine List.pairwise_append.2 ⟨selF_sorted hA (by omega), List.pairwise_singleton _ _, fun a ha b hb => ?_⟩
      obtain ⟨j, h1, -, h3⟩ := selF_mem.1 ha
      rw [List.mem_singleton.1 hb, ← h3]
      have := List.pairwise_iff_getElem.1 hA j k (by omega) (by omega) h1
      rw [← gp_eq (l := A) (i := j) (by omega), ← gp_eq (l := A) (i := k) (by omega)] at this
      exact this
    exact selF_sorted hA (by omega)
theorem selF_len {A : List Pt} {nm : List Int} {v : Int} : ∀ k : Nat, (selF A nm v k).length ≤ k
  | 0 => Nat.le_refl _
  | k + 1 => by
    have := selF_len (A := A) (nm := nm) (v := v) k
    unfold selF
    split
    · rw [List.length_append, List.length_singleton]; omega
    omega
/-- Each number is that of a cell that is not behind, and is joined with it. -/
def labP (A : List Pt) (nm : List Int) : Prop := nm.length = A.length ∧ ∀ j, j < A.length → ∃ t : Nat, gi nm j = (t : Int) ∧ t ≤ j ∧ ∀ Q, carP A Q → Q (gp A t) → Q (gp A j)
def fixP (A : List Pt) (nm : List Int) : Prop := ∀ i k, i < A.length → k < A.length → adjP (gp A i) (gp A k) → ¬ gi nm k < gi nm i
theorem lab0 {A : List Pt} {nm : List Int} (hl : nm.length = A.length) (h : ∀ j, j < A.length → gi nm j = j) : labP A nm := ⟨hl, fun j hj => ⟨j, h j hj, Nat.le_refl _, fun _ _ q => q⟩⟩
theorem lab_set {A : List Pt} {nm : List Int} (h : labP A nm) {i k : Nat} (hi : i < A.length) (hk : k < A.length) (ha : adjP (gp A i) (gp A k)) (hlt : gi nm k < gi nm i) : labP A (nm.set i (gi nm k)) := by
  refine ⟨by rw [List.length_set]; exact h.1, fun j hj => ?_⟩
  rw [gi_setC (by rw [h.1]; exact hi)]
  by_cases e : i = j
  · subst e
    rw [if_pos rfl]
    obtain ⟨t, h1, h2, h3⟩ := h.2 k hk
    obtain ⟨u, k1, k2, -⟩ := h.2 i hi
    refine ⟨t, h1, by omega, fun Q hQ q => ?_⟩
    exact hQ _ _ (gp_mem hk) (gp_mem hi) (adjP_symm ha) (h3 Q hQ q)
  rw [if_neg e]; exact h.2 j hj
def sN (nm : List Int) : Nat := (nm.map Int.toNat).sum
theorem sN_set : ∀ {nm : List Int} {i : Nat} {v : Int}, i < nm.length → 0 ≤ v → v < gi nm i → sN (nm.set i v) < sN nm
  | [], i, _, h, _, _ => by simp at h
  | x :: r, 0, v, _, h0, hv => by
    have e : gi (x :: r) 0 = x := rfl
    rw [e] at hv
    simp only [sN, List.set_cons_zero, List.map_cons, List.sum_cons]; omega
  | x :: r, i + 1, v, h, h0, hv => by
    have e : gi (x :: r) (i + 1) = gi r i := rfl
    rw [e] at hv
    have ih := sN_set (nm := r) (i := i) (v := v) (by simpa using h) h0 hv
    simp only [sN, List.set_cons_succ, List.map_cons, List.sum_cons] at ih ⊢; omega
/-- The cells of a cluster carry all that touches them. -/
theorem ClInv.car {all : List Pt} {n : Nat} {r : List Pt × List (List Pt)} (I : ClInv all n r) {c : List Pt} (hc : c ∈ r.2) : carP all fun x => x ∈ c := fun a b ha hb hab hac => by
  rcases List.mem_append.1 (I.perm.mem_iff.2 hb) with q | q
  · exact (I.off c hc a hac b q hab).elim
  obtain ⟨d, hd, hbd⟩ := List.mem_flatten.1 q
  obtain ⟨i, hi, e1⟩ := List.mem_iff_getElem.1 hc
  obtain ⟨j, hj, e2⟩ := List.mem_iff_getElem.1 hd
  have hp := List.pairwise_iff_getElem.1 I.apart
  rcases Nat.lt_trichotomy i j with k | k | k
  · exact (hp i j hi hj k a (by rw [e1]; exact hac) b (by rw [e2]; exact hbd) hab).elim
  · subst k; rw [e1] at e2; rw [e2]; exact hbd
  exact (hp j i hj hi k b (by rw [e2]; exact hbd) a (by rw [e1]; exact hac) (adjP_symm hab)).elim
theorem lab_car {A : List Pt} {nm : List Int} (hn : A.Nodup) (hF : fixP A nm) (v : Int) : carP A fun x => ∃ j, j < A.length ∧ gp A j = x ∧ gi nm j = v := fun a b ha hb hab ⟨j, hj, e, hv⟩ => by
  obtain ⟨k, hk, e2⟩ := List.mem_iff_getElem.1 hb
  have e3 : gp A k = b := by rw [gp_eq hk, e2]
  refine ⟨k, hk, e3, ?_⟩
  have h1 := hF j k hj hk (by rw [e, e3]; exact hab)
  have h2 := hF k j hk hj (by rw [e, e3]; exact adjP_symm hab)
  omega
/-- What is found by passing numbers on is what is found by search. -/
theorem rcl_clN {A : List Pt} {nm : List Int} (hn : A.Nodup) (hs : A.Pairwise befP) (hL : labP A nm) (hF : fixP A nm) : ∀ n, n ≤ A.length → (clN srtC A A n).2 = rclF A nm n ∧ ∀ c ∈ (clN srtC A A n).2, ∃ k, k < n ∧ gp A k ∈ c
  | 0, _ => ⟨rfl, fun c h => by cases h⟩
  | n + 1, hl => by
    obtain ⟨ih, ihk⟩ := rcl_clN hn hs hL hF n (by omega)
    have I := clN_inv srtC_perm (S0 := A) (List.Perm.refl _) hn n (by omega)
    have I2 := clN_inv srtC_perm (S0 := A) (List.Perm.refl _) hn (n + 1) hl
    have hnA : n < A.length := by omega
    have hnd : ((clN srtC A A n).1 ++ (clN srtC A A n).2.flatten).Nodup := I.perm.nodup_iff.2 hn
    have key : memP (clN srtC A A n).1 (g1 A n) (g2 A n) = true ↔ gi nm n = (n : Int) := by
      rw [memP_iff]
      constructor
      · intro hm
        obtain ⟨t, h1, h2, h3⟩ := hL.2 n hnA
        rcases (by omega : t = n ∨ t < n) with q | q
        · rw [h1, q]
        have hg := I.gone t q
        have ht := I.perm.mem_iff.2 (gp_mem (l := A) (b := t) (by omega))
        rcases List.mem_append.1 ht with k | k
        · exact (hg k).elim
        obtain ⟨c, hc, hx⟩ := List.mem_flatten.1 k
        have := h3 _ (I.car hc) hx
        exact ((List.nodup_append.1 hnd).2.2 _ hm _ (List.mem_flatten.2 ⟨c, hc, this⟩) rfl).elim
      intro hv
      rcases List.mem_append.1 (I.perm.mem_iff.2 (gp_mem hnA)) with q0 | q0
      · exact q0
      obtain ⟨c, hc, hx⟩ := List.mem_flatten.1 q0
      obtain ⟨k, hk, hkc⟩ := ihk c hc
      obtain ⟨j, hj, e1, e2⟩ := I.conn _ (lab_car hn hF (gi nm k)) c hc _ hkc ⟨k, by omega, rfl, rfl⟩ _ hx
      have := gp_inj hn hj hnA e1
      subst this
      obtain ⟨t, h1, h2, -⟩ := hL.2 k (by omega)
      omega
    unfold clN at I2 ⊢
    unfold rclF
    by_cases hm : memP (clN srtC A A n).1 (g1 A n) (g2 A n) = true
    · rw [if_pos hm] at I2 ⊢
      have hv := key.1 hm
      rw [if_pos (by rw [hv]; exact beq_self_eq_true _)]
      have hmem := memP_iff.1 hm
      have hndS : (clN srtC A A n).1.Nodup := (List.nodup_append.1 hnd).1
      have p0 : ((clN srtC A A n).1.erase (g1 A n, g2 A n) ++ [(g1 A n, g2 A n)]).Perm (clN srtC A A n).1 := (List.perm_append_singleton _ _).trans (List.perm_cons_erase hmem).symm
      have hin : ∀ x, x ∈ (clN srtC A A n).1 → x ∈ A := fun x hx => I.perm.mem_iff.1 (List.mem_append.2 (.inl hx))
      have e := bfR_ext ((clN srtC A A n).1.erase (g1 A n, g2 A n), [(g1 A n, g2 A n)])
      have hcar := fun Q (hQ : carP A Q) (hq : Q (gp A n)) => bfR_car hQ (s := ((clN srtC A A n).1.erase (g1 A n, g2 A n), [(g1 A n, g2 A n)])) (fun x hx => hin x (p0.mem_iff.1 hx)) (fun x hx => (List.mem_singleton.1 hx) ▸ hq)
      have hnd2 : ((bfR ((clN srtC A A n).1.erase (g1 A n, g2 A n), [(g1 A n, g2 A n)])).1 ++ (bfR ((clN srtC A A n).1.erase (g1 A n, g2 A n), [(g1 A n, g2 A n)])).2).Nodup := nodup_ext e (p0.nodup_iff.2 hndS)
      have hself : gp A n ∈ (bfR ((clN srtC A A n).1.erase (g1 A n, g2 A n), [(g1 A n, g2 A n)])).2 := by
        obtain ⟨⟨m, hm2⟩, -⟩ := e
        rw [hm2]; exact List.mem_append.2 (.inl (List.mem_singleton.2 rfl))
      generalize bfR ((clN srtC A A n).1.erase (g1 A n, g2 A n), [(g1 A n, g2 A n)]) = t at *
      have hc2 := I2.car (c := srtC t.2) (List.mem_append.2 (.inr (List.mem_singleton.2 rfl)))
      have hmain : srtC t.2 = selF A nm n A.length := by
        refine eq_sorted (srtC_strict (List.nodup_append.1 hnd2).2.1) (selF_sorted hs (Nat.le_refl _)) fun x => ?_
        rw [selF_mem]
        constructor
        · intro hx
          obtain ⟨j, hj, e1, e2⟩ := hcar _ (lab_car hn hF (n : Int)) ⟨n, hnA, rfl, hv⟩ x ((srtC_perm _).mem_iff.1 hx)
          exact ⟨j, hj, e2, e1⟩
        rintro ⟨j, hj, e2, e1⟩
        obtain ⟨u, h1, h2, h3⟩ := hL.2 j hj
        have hu : u = n := by omega
        subst hu
        rw [← e1]
        exact h3 _ hc2 ((srtC_perm _).mem_iff.2 hself)
      refine ⟨by simp only; rw [ih, hmain], fun c hc => ?_⟩
      rcases List.mem_append.1 hc with q | q
      · obtain ⟨k, hk, hx⟩ := ihk c q
        exact ⟨k, by omega, hx⟩
      rw [List.mem_singleton.1 q]
      exact ⟨n, by omega, (srtC_perm _).mem_iff.2 hself⟩
    rw [if_neg hm, if_neg (fun q => hm (key.2 (eq_of_beq q)))]
    exact ⟨ih, fun c hc => by obtain ⟨k, hk, hx⟩ := ihk c hc; exact ⟨k, by omega, hx⟩⟩
theorem rcl_eq {A : List Pt} {nm : List Int} (hn : A.Nodup) (hs : A.Pairwise befP) (hL : labP A nm) (hF : fixP A nm) : rclF A nm A.length = cluL A := (rcl_clN hn hs hL hF A.length (Nat.le_refl _)).1.symm
theorem IsI.parts {H : AHeap} {k : IntKind} {s : AV} {l : List Int} (h : IsI H k s l) : ∃ a c, s = .sl a l.length c := by
  rcases h with ⟨rfl, rfl⟩ | ⟨b, own, cap, rfl, hb⟩
  · exact ⟨_, _, rfl⟩
  exact ⟨_, _, rfl⟩
theorem IsI.pos {H : AHeap} {k : IntKind} {a : Option (Nat × Nat)} {c : Option Nat} {n : Nat} {l : List Int} (h : IsI H k (.sl a n c) l) (h0 : 0 < l.length) : ∃ b own, a = some (b, 0) ∧ n = l.length ∧ H[b]? = some (.cells own 1 (ints k l)) := by
  rcases h with ⟨rfl, h⟩ | ⟨b, own, cap, h, hb⟩
  · simp at h0
  injection h with h1 h2 h3
  exact ⟨b, own, h1, h2, hb⟩
/-- What Cells returns. -/
def cellsR (H : AHeap) (W Hh : Int) (xs : List Int) : AV × AHeap := if vldB W Hh xs = true then (.tup [(retP H (froL W Hh xs)).1, .int .i64 0], (retP H (froL W Hh xs)).2) else (.tup [.sl none 0 (some 0), .int .i64 1], H)
set_option maxRecDepth 100000 in
theorem rcells_v (H : AHeap) (W Hh : Int) (xs : List Int) (g : Nat) (own : Bool) (cap : Option Nat) (n : Nat) (hV : Vld W Hh xs) (hg : H[g]? = some (.cells own 1 (ints .u8 xs))) (hn : n = xs.length) :
    ACalls Try.prog 26 [.agg [.int .i64 W, .int .i64 Hh, .sl (some (g, 0)) n cap]] H (fun v H' => v = .tup [(retP H (gridP (froB W Hh xs) W.toNat Hh.toNat)).1, .int .i64 0] ∧ H' = (retP H (gridP (froB W Hh xs) W.toNat Hh.toNat)).2) := by
  have hW : 1 ≤ W ∧ W ≤ 64 ∧ 1 ≤ Hh ∧ Hh ≤ 64 := ⟨hV.w0, hV.w1, hV.h0, hV.h1⟩
  have hgl := getElem?_lt hg
  have hv := vld_iff.2 hV
  (refine ACalls_run try_mixed Try.func26 true _ rfl (Nat.le_of_ble_eq_true (by kernel_rfl)) (by kernel_rfl) ?_; intro hbel Q hQ hQ' c hc; unfold Try.f26 at hc; simp only [Option.some.injEq] at hc; subst hc; clear hQ')
  have hg0 := fun l => get_app (l := l) hg
  simp -implicitDefEqProofs (disch := omega) only [hg0, simprocAttr, amset, tyset, Function.comp_apply, one1, lenV, calleeOf, lateOk, belowV, aop, AV.ofValue, AV.ofCell, AV.cells, AV.flat, AV.one, arep, aBin, aAppend, aConv]
  refine call_v (by kernel_rfl) (rplan_a _ W Hh _ xs (.inr ⟨g, own, cap, by rw [hn], hg0 _⟩)) ?_
  simp -implicitDefEqProofs (disch := omega) only [hv, simprocAttr, amset, tyset, Function.comp_apply, one1, lenV, calleeOf, lateOk, belowV, aop, AV.ofValue, AV.ofCell, AV.cells, AV.flat, AV.one, arep, aBin, aAppend, aConv]
  refine go_loop try_mixed (by kernel_rfl) (fun k F Hx => ∃ (y : Nat) (s : AV) (X : ABlk), y + k = Hh.toNat ∧ OutP (H.length + 1) s X (gridP (froB W Hh xs) W.toNat y) ∧
    F = [(1, .ptr (some (H.length, 0))), (4, s), (5, .int .i64 (y : Nat))] ∧ Hx = H ++ [.cells true 0 [.int .i64 W, .int .i64 Hh, .sl (some (g, 0)) n cap], X]) Hh.toNat ?_ ?_
  · refine ⟨_, _, _, ⟨0, _, _, by omega, .inl ⟨rfl, rfl, rfl⟩, rfl, rfl⟩, Abs.by hbel [0, 1] (by decide) ?_⟩
    exact absT
  rintro k F Hx ⟨y, s, X, hyk, hO, rfl, rfl⟩ J1 hJ1
  by_cases hy : (y : Int) < Hh
  · have hgrl := gridP_len (froB W Hh xs) W.toNat y
    have hgl2 : y * W.toNat ≤ 64 * 64 := Nat.mul_le_mul (by omega) (by omega)
    simp -implicitDefEqProofs (disch := omega) only [hy, simprocAttr, amset, tyset, Function.comp_apply, one1, lenV, calleeOf, lateOk, belowV, aop, AV.ofValue, AV.ofCell, AV.cells, AV.flat, AV.one, arep, aBin, aAppend, aConv]
    refine go_loop try_mixed (by kernel_rfl) (fun k F Hx => ∃ (x : Nat) (s : AV) (X : ABlk), x + k = W.toNat ∧ OutP (H.length + 1) s X (gridP (froB W Hh xs) W.toNat y ++ rowP (froB W Hh xs) y x) ∧
      F = [(1, .ptr (some (H.length, 0))), (4, s), (5, .int .i64 (y : Nat)), (6, .int .i64 (x : Nat))] ∧ Hx = H ++ [.cells true 0 [.int .i64 W, .int .i64 Hh, .sl (some (g, 0)) n cap], X]) W.toNat ?_ ?_
    · refine ⟨_, _, _, ⟨0, s, X, by omega, by simpa [rowP] using hO, rfl, rfl⟩, Abs.by hbel [0, 1] (by decide) ?_⟩
      rcases hO with ⟨-, rfl, rfl⟩ | ⟨-, rfl, rfl⟩
      · exact absT
      exact absT
    rintro k F Hx ⟨x, s, X, hxk, hO, rfl, rfl⟩ J hJ
    by_cases hx : (x : Int) < W
    · have hrl := rowP_len (froB W Hh xs) y x
      have hrow : rowP (froB W Hh xs) y (x + 1) = rowP (froB W Hh xs) y x ++ if (froB W Hh xs) x y = true then [((x : Int), (y : Int))] else [] := rfl
      have hend0 : (froB W Hh xs) x y = false → gridP (froB W Hh xs) W.toNat y ++ rowP (froB W Hh xs) y (x + 1) = gridP (froB W Hh xs) W.toNat y ++ rowP (froB W Hh xs) y x := fun h => by rw [hrow, if_neg (by rw [h]; simp), List.append_nil]
      have hend1 : (froB W Hh xs) x y = true → gridP (froB W Hh xs) W.toNat y ++ rowP (froB W Hh xs) y (x + 1) = gridP (froB W Hh xs) W.toNat y ++ rowP (froB W Hh xs) y x ++ [((x : Int), (y : Int))] := fun h => by rw [hrow, if_pos h, List.append_assoc]
      have hLl : (gridP (froB W Hh xs) W.toNat y ++ rowP (froB W Hh xs) y x).length ≤ 5000 := by rw [List.length_append]; omega
      generalize gridP (froB W Hh xs) W.toNat y ++ rowP (froB W Hh xs) y x = L at *
      have hLt : List.take (L.length * 2) (prs L) = prs L := List.take_of_length_le (by rw [prs_len]; omega)
      have fin0 : (froB W Hh xs) x y = false → ∀ (F : Fr) (l1 : AHeap), (absF (H.length + l1.length) (sig H.length l1.length [0, 1]) F [(1, .ptr (some (H.length, 0))), (4, s), (5, .int .i64 (y : Nat)), (6, .int .i64 ((x + 1 : Nat) : Int))] ∧ absH (H.length + l1.length) (sig H.length l1.length [0, 1]) l1 [0, 1] [.cells true 0 [.int .i64 W, .int .i64 Hh, .sl (some (g, 0)) n cap], X]) → J F (H ++ l1) := fun hf F l1 ha =>
        hJ _ _ ⟨k - 1, by omega, _, _, _, ⟨x + 1, _, _, by omega, by rw [hend0 hf]; exact hO, rfl, rfl⟩, Abs.by hbel [0, 1] (by decide) ha⟩
      have fin1 : (froB W Hh xs) x y = true → ∀ (F : Fr) (l1 : AHeap), (absF (H.length + l1.length) (sig H.length l1.length [0, 3]) F [(1, .ptr (some (H.length, 0))), (4, .sl (some (H.length + 1, 0)) (L.length + 1) none), (5, .int .i64 (y : Nat)), (6, .int .i64 ((x + 1 : Nat) : Int))] ∧ absH (H.length + l1.length) (sig H.length l1.length [0, 3]) l1 [0, 3] [.cells true 0 [.int .i64 W, .int .i64 Hh, .sl (some (g, 0)) n cap], .cells true 2 (prs (L ++ [((x : Int), (y : Int))]))]) → J F (H ++ l1) := fun hf F l1 ha =>
        hJ _ _ ⟨k - 1, by omega, _, _, _, ⟨x + 1, _, _, by omega, by rw [hend1 hf]; exact .inr ⟨by simp, by simp, rfl⟩, rfl, rfl⟩, Abs.by hbel [0, 3] (by decide) ha⟩
      simp -implicitDefEqProofs (disch := omega) only [hx, hg0, simprocAttr, amset, tyset, Function.comp_apply, one1, lenV, calleeOf, lateOk, belowV, aop, AV.ofValue, AV.ofCell, AV.cells, AV.flat, AV.one, arep, aBin, aAppend, aConv]
      refine call_v (by kernel_rfl) (ris_c hV (hg0 _) hn (by omega)) ?_
      cases h1 : froB W Hh xs x y
      · simp -implicitDefEqProofs (disch := omega) only [simprocAttr, amset, tyset, Function.comp_apply, one1, lenV, calleeOf, lateOk, belowV, aop, AV.ofValue, AV.ofCell, AV.cells, AV.flat, AV.one, arep, aBin, aAppend, aConv]
        refine fin0 (h1) _ _ ?_
        rcases hO with ⟨-, rfl, rfl⟩ | ⟨-, rfl, rfl⟩
        · exact absT
        exact absT
      rcases hO with ⟨rfl, rfl, rfl⟩ | ⟨hL0, rfl, rfl⟩
      · simp -implicitDefEqProofs (disch := omega) only [simprocAttr, amset, tyset, Function.comp_apply, one1, lenV, calleeOf, lateOk, belowV, aop, AV.ofValue, AV.ofCell, AV.cells, AV.flat, AV.one, arep, aBin, aAppend, aConv]
        repeat refine And.intro (by omega) ?_
        refine fin1 (h1) _ _ ?_
        exact absT
      simp -implicitDefEqProofs (disch := omega) only [prs_snoc, hLt, simprocAttr, amset, tyset, Function.comp_apply, one1, lenV, calleeOf, lateOk, belowV, aop, AV.ofValue, AV.ofCell, AV.cells, AV.flat, AV.one, arep, aBin, aAppend, aConv]
      repeat refine And.intro (by omega) ?_
      refine fin1 (h1) _ _ ?_
      exact absT
    have hxe : x = W.toNat := by omega
    subst hxe
    have hrow : gridP (froB W Hh xs) W.toNat (y + 1) = gridP (froB W Hh xs) W.toNat y ++ rowP (froB W Hh xs) y W.toNat := rfl
    rw [← hrow] at hO
    simp -implicitDefEqProofs (disch := omega) only [hx, simprocAttr, amset, tyset, Function.comp_apply, one1, lenV, calleeOf, lateOk, belowV, aop, AV.ofValue, AV.ofCell, AV.cells, AV.flat, AV.one, arep, aBin, aAppend, aConv]
    refine hJ1 _ _ ⟨Hh.toNat - (y + 1), by omega, _, _, _, ⟨y + 1, s, X, by omega, hO, rfl, rfl⟩, Abs.by hbel [0, 1] (by decide) ?_⟩
    rcases hO with ⟨-, rfl, rfl⟩ | ⟨-, rfl, rfl⟩
    · exact absT
    exact absT
  have hye : y = Hh.toNat := by omega
  subst hye
  simp -implicitDefEqProofs (disch := omega) only [hy, simprocAttr, amset, tyset, Function.comp_apply, one1, lenV, calleeOf, lateOk, belowV, aop, AV.ofValue, AV.ofCell, AV.cells, AV.flat, AV.one, arep, aBin, aAppend, aConv]
  generalize gridP (froB W Hh xs) W.toNat Hh.toNat = L at *
  rcases hO with ⟨h, rfl, rfl⟩ | ⟨h, rfl, rfl⟩
  · rw [h, retP_nil] at hQ
    exact hQ _ _ (end_plain (.inl rfl) hbel (x := .tup [.sl none 0 (some 0), .int .i64 0]) (resT Try.results26) rfl ⟨rfl, rfl⟩)
  rw [retP_pos h] at hQ
  refine hQ _ _ (end_by (.inl rfl) hbel (x1 := .tup [.sl (some (H.length + 1, 0)) L.length none, .int .i64 0]) (.tup [.sl (some (H.length, 0)) L.length none, .int .i64 0]) (resT Try.results26) [1] (by decide) ⟨rfl, rfl⟩ ?_)
  exact absT
theorem rcells_c (H : AHeap) (W Hh : Int) (xs : List Int) (s : AV) (hs : IsI H .u8 s xs) : ACalls Try.prog 26 [.agg [.int .i64 W, .int .i64 Hh, s]] H (fun v H' => v = (cellsR H W Hh xs).1 ∧ H' = (cellsR H W Hh xs).2) := by
  obtain ⟨a, c, rfl⟩ := hs.parts
  unfold cellsR
  cases hv : vldB W Hh xs
  · rw [if_neg (by simp)]
    (refine ACalls_run try_mixed Try.func26 true _ rfl (Nat.le_of_ble_eq_true (by kernel_rfl)) (by kernel_rfl) ?_; intro hbel Q hQ hQ' c hc; unfold Try.f26 at hc; simp only [Option.some.injEq] at hc; subst hc; clear hQ')
    simp -implicitDefEqProofs (disch := omega) only [simprocAttr, amset, tyset, Function.comp_apply, one1, lenV, calleeOf, lateOk, belowV, aop, AV.ofValue, AV.ofCell, AV.cells, AV.flat, AV.one, arep, aBin, aAppend, aConv]
    refine call_v (by kernel_rfl) (rplan_a _ W Hh _ xs (hs.app _)) ?_
    simp -implicitDefEqProofs (disch := omega) only [hv, simprocAttr, amset, tyset, Function.comp_apply, one1, lenV, calleeOf, lateOk, belowV, aop, AV.ofValue, AV.ofCell, AV.cells, AV.flat, AV.one, arep, aBin, aAppend, aConv]
    exact hQ _ _ (end_plain (.inl rfl) hbel (x := .tup [.sl none 0 (some 0), .int .i64 1]) (resT Try.results26) rfl ⟨rfl, rfl⟩)
  rw [if_pos rfl]
  have hV := vld_iff.1 hv
  obtain ⟨b, own, rfl, -, hb⟩ := hs.pos (by have := hV.pos; omega)
  exact rcells_v H W Hh xs b own c _ hV hb rfl
theorem rcell_y (H : AHeap) (A : List (Int × Int)) (W Hh : Int) (s : AV) (xs : List Int) (hs : Sl H 1 s xs.length (ints .u8 xs)) (hA : froL W Hh xs = A) (hv : vldB W Hh xs = true) :
    ACalls Try.prog 26 [.agg [iV W, iV Hh, s]] H (fun v H' => v = .tup [.sl (some (H.length, 0)) A.length (capG A.length), iV 0] ∧ H' = H ++ [.cells (ownG A.length) 2 (prs A)]) := by
  obtain ⟨b, own, cap, rfl, hb⟩ := hs
  have h := rcells_v H W Hh xs b own cap _ (vld_iff.1 hv) hb rfl
  rw [show gridP (froB W Hh xs) W.toNat Hh.toNat = A from hA] at h
  rcases Nat.eq_zero_or_pos A.length with h0 | h0
  · rw [List.eq_nil_of_length_eq_zero h0] at h ⊢
    simp only [retP_nil] at h
    refine ACalls.weak0 h [.cells false 2 []] rfl [0] (by decide) _ _ ?_
    exact absTf (jn @List.length_nil.{0} (jn @capG_0 (jn @ownG_0 @prs_nil)))
  rw [retP_pos h0] at h
  refine ACalls.weak h [] rfl [0] (by decide) _ _ ?_
  rw [capG_p h0, ownG_p h0]
  generalize A = L
  exact absT
theorem rcell_n (H : AHeap) (W Hh : Int) (s : AV) (xs : List Int) (hs : Sl H 1 s xs.length (ints .u8 xs)) (hv : vldB W Hh xs = false) :
    ACalls Try.prog 26 [.agg [iV W, iV Hh, s]] H (fun v H' => v = .tup [.sl none 0 (some 0), iV 1] ∧ H' = H) := by
  have h := rcells_c H W Hh xs s (.inr hs)
  unfold cellsR at h
  rw [if_neg (by rw [hv]; decide)] at h
  exact h
/-- No number is passed on between the pairs of cells so far. -/
def parF (A : List Pt) (nm : List Int) (i k : Nat) : Prop := ∀ i' k', (i' < i ∨ (i' = i ∧ k' < k)) → i' < A.length → k' < A.length → adjP (gp A i') (gp A k') → ¬ gi nm k' < gi nm i'
theorem parF_0 {A : List Pt} {nm : List Int} : parF A nm 0 0 := fun i' k' h => by omega
theorem parF_row {A : List Pt} {nm : List Int} {i m : Nat} (h : parF A nm i m) (hm : A.length ≤ m) : parF A nm (i + 1) 0 := fun i' k' q h1 h2 => h i' k' (by omega) h1 h2
theorem parF_step {A : List Pt} {nm : List Int} {i m : Nat} (h : parF A nm i m) (hn : adjP (gp A i) (gp A m) → ¬ gi nm m < gi nm i) : parF A nm i (m + 1) := fun i' k' q h1 h2 ha => by
  by_cases e : i' = i ∧ k' = m
  · obtain ⟨rfl, rfl⟩ := e; exact hn ha
  exact h i' k' (by omega) h1 h2 ha
theorem parF_fix {A : List Pt} {nm : List Int} {i : Nat} (h : parF A nm i 0) (hi : A.length ≤ i) : fixP A nm := fun i' k' h1 h2 ha => h i' k' (by omega) h1 h2 ha
theorem adj_gp {A : List Pt} {i k : Nat} : adjB (g1 A i) (g2 A i) (g1 A k) (g2 A k) = true ↔ adjP (gp A i) (gp A k) := adjB_iff (p := gp A i) (q := gp A k)
theorem gp_bd {A : List Pt} (hAb : ∀ p ∈ A, (0 ≤ p.1 ∧ p.1 < 64) ∧ 0 ≤ p.2 ∧ p.2 < 64) {i : Nat} (hi : i < A.length) : (0 ≤ g1 A i ∧ g1 A i < 64) ∧ 0 ≤ g2 A i ∧ g2 A i < 64 := hAb _ (gp_mem hi)
theorem selF_pos {A : List Pt} {nm : List Int} {i : Nat} (hi : i < A.length) (h : gi nm i = (i : Int)) : 0 < (selF A nm i A.length).length := List.length_pos_of_mem (selF_mem.2 ⟨i, hi, h, rfl⟩)
theorem rclu_n (H : AHeap) (W Hh : Int) (pp : AV) (xs : List Int) (hpp : Sl H 1 pp xs.length (ints .u8 xs)) (hv : vldB W Hh xs = false) : ACalls Try.prog 12 [.agg [iV W, iV Hh, pp]] H (fun v H' => v = .tup [.sl none 0 (some 0), iV 1] ∧ H' = H) := by
  obtain ⟨bpp, opp, cpp, rfl, hbpp⟩ := hpp
  have hblpp := getElem?_lt hbpp
  have hb0pp := fun l => get_app (l := l) hbpp
  refine AcT true Try.func12 ?_; intro hbel Q hQ
  have g'1 := (jn @hbpp @hb0pp)
  refine runTf g'1 ?_
  rcases Bool.eq_false_or_eq_true (vldB W Hh xs) with h1 | h1
  · have h1d := h1
    rw [hv] at h1d; cases h1d
  have h1d := h1
  refine cv (rcell_n _ W Hh _ xs (⟨_, _, _, rfl, by first | exact hb0pp _ | exact hbpp⟩) (by assumption)) ?_
  have g'2 := j2 h1 h1d g'1
  exact eR g'2 hQ hbel (.tup [.sl none 0 (some 0), iV 1]) Try.results12 ⟨rfl, rfl⟩
theorem rclu_y (H : AHeap) (A : List (Int × Int)) (n0 : Nat) (W Hh : Int) (pp : AV) (xs : List Int) (hpp : Sl H 1 pp xs.length (ints .u8 xs)) (hv : vldB W Hh xs = true) (hA : froL W Hh xs = A) (hn0 : n0 = H.length) : ACalls Try.prog 12 [.agg [iV W, iV Hh, pp]] H (fun v H' => ∃ X : AHeap, (∀ x ∈ X, ABlk.bel (H ++ X).length x = true) ∧ (X = (cluL A).map cblk) ∧ v = .tup [.sl (some ((H ++ X).length, 0)) ((cluL A).length) (capG (cluL A).length), iV 0] ∧ H' = H ++ X ++ [.cells (ownG (cluL A).length) 1 (slr n0 (cluL A))]) := by
  obtain ⟨bpp, opp, cpp, rfl, hbpp⟩ := hpp
  have hblpp := getElem?_lt hbpp
  have hb0pp := fun l => get_app (l := l) hbpp
  have hV := vld_iff.1 hv
  have hAb : ∀ p ∈ A, (0 ≤ p.1 ∧ p.1 < 64) ∧ 0 ≤ p.2 ∧ p.2 < 64 := hA ▸ fro_bd hV
  have hAn : A.Nodup := hA ▸ fro_nodup
  have hAs : A.Pairwise befP := hA ▸ fro_sorted
  have hAl : A.length ≤ 4096 := hA ▸ fro_len hV
  refine AcT true Try.func12 ?_; intro hbel Q hQ
  have h0bel := hbel
  have g'3 := (jn @hbpp @hb0pp)
  refine runTf g'3 ?_
  rcases Bool.eq_false_or_eq_true (vldB W Hh xs) with h1 | h1
  · have h1d := h1
    refine cv (rcell_y _ A W Hh _ xs (⟨_, _, _, rfl, by first | exact hb0pp _ | exact hbpp⟩) hA (by assumption)) ?_
    have g'4 := (jn h1 (jn h1d (jn @ints_rep (jn @List.length_replicate.{0} g'3))))
    refine runTf g'4 ?_
    refine glp (fun k F Hx => ∃ i0 : Nat, ∃ nm : List Int, i0 + k = A.length ∧ nm.length = A.length ∧ (∀ j, j < i0 → gi nm j = j) ∧ F = [(4, .sl (some (H.length, 0)) A.length (capG A.length)), (6, .sl (some (H.length + 1, 0)) nm.length none), (7, iV ((i0 : Nat) : Int))] ∧ Hx = H ++ [.cells (ownG A.length) 2 (prs A), .cells true 1 (ints .i64 nm)]) (A.length) ?_ ?_
    · refine ⟨_, _, _, ⟨0, List.replicate A.length 0, by omega, List.length_replicate, (fun j h => by omega), rfl, rfl⟩, bS hbel [1, 2] (absRf @List.length_replicate.{0})⟩
    rintro k0 F Hx ⟨i0, nm, hm0, hnl, hnj, rfl, rfl⟩ J0 hJ0
    have g'5 := (jn @prs_len (jn @prs_one (jn @ints_len (jn @ints_ones g'4))))
    refine rcs g'5 (fun h2 h2d _ => ?_) (fun h2 h2d g'7 => ?_)
    · have hli : i0 < A.length := by omega
      have g'6 := (jn h2 (jn h2d (jn @ints_set1 (jn @List.length_set.{0} g'5))))
      refine runTf g'6 ?_
      refine hJ0 _ _ ⟨k0 - 1, by omega, _, _, _, ⟨i0 + 1, (nm.set i0 ((i0 : Nat) : Int)), by omega, (by rw [List.length_set]; exact hnl), (fun j hj => by
        rw [gi_setC (by omega)]
        by_cases e : i0 = j
        · rw [if_pos e, e]
        rw [if_neg e]; exact hnj j (by omega)), rfl, rfl⟩, bS hbel [0, 1] (absRf @List.length_set.{0})⟩
    have hLab0 : labP A nm := lab0 hnl (fun j hj => hnj j (by omega))
    refine runTf g'7 ?_
    refine glp (fun k F Hx => ∃ nm2 : List Int, ∃ ch : Bool, sN nm2 + ch.toNat = k ∧ labP A nm2 ∧ (ch = false → fixP A nm2) ∧ F = [(4, .sl (some (H.length, 0)) A.length (capG A.length)), (6, .sl (some (H.length + 1, 0)) nm2.length none), (8, .bool ch)] ∧ Hx = H ++ [.cells (ownG A.length) 2 (prs A), .cells true 1 (ints .i64 nm2)]) (sN nm + 1) ?_ ?_
    · refine ⟨_, _, _, ⟨nm, true, rfl, hLab0, (fun q => by cases q), rfl, rfl⟩, bS hbel [0, 1] absR⟩
    rintro k1 F Hx ⟨nm2, ch, hm1, hL2, hfx, rfl, rfl⟩ J1 hJ1
    have hl2 := hL2.1
    refine rcs g'7 (fun h3 h3d g'8 => ?_) (fun h3 h3d g'17 => ?_)
    · have hcn : ch.toNat = 1 := by rw [h3]; rfl
      refine runTf g'8 ?_
      refine glp (fun k F Hx => ∃ i : Nat, ∃ nm3 : List Int, ∃ ch3 : Bool, i + k = A.length ∧ labP A nm3 ∧ sN nm3 ≤ sN nm2 ∧ (ch3 = true → sN nm3 < sN nm2) ∧ (ch3 = false → parF A nm3 i 0) ∧ F = [(4, .sl (some (H.length, 0)) A.length (capG A.length)), (6, .sl (some (H.length + 1, 0)) nm3.length none), (8, .bool ch3), (9, iV ((i : Nat) : Int))] ∧ Hx = H ++ [.cells (ownG A.length) 2 (prs A), .cells true 1 (ints .i64 nm3)]) (A.length) ?_ ?_
      · refine ⟨_, _, _, ⟨0, nm2, false, by omega, hL2, Nat.le_refl _, (fun q => by cases q), (fun _ => parF_0), rfl, rfl⟩, bS hbel [0, 1] absR⟩
      rintro k2 F Hx ⟨i, nm3, ch3, hm2, hL3, hle3, hc3, hf3, rfl, rfl⟩ J2 hJ2
      have hl3 := hL3.1
      refine rcs g'8 (fun h4 h4d g'9 => ?_) (fun h4 h4d g'16 => ?_)
      · have hli : i < A.length := by omega
        have hbi := gp_bd hAb hli
        refine runTf g'9 ?_
        refine glp (fun k F Hx => ∃ m : Nat, ∃ nm4 : List Int, ∃ ch4 : Bool, m + k = A.length ∧ labP A nm4 ∧ sN nm4 ≤ sN nm2 ∧ (ch4 = true → sN nm4 < sN nm2) ∧ (ch4 = false → parF A nm4 i m) ∧ F = [(4, .sl (some (H.length, 0)) A.length (capG A.length)), (6, .sl (some (H.length + 1, 0)) nm4.length none), (8, .bool ch4), (9, iV ((i : Nat) : Int)), (10, iV ((m : Nat) : Int))] ∧ Hx = H ++ [.cells (ownG A.length) 2 (prs A), .cells true 1 (ints .i64 nm4)]) (A.length) ?_ ?_
        · refine ⟨_, _, _, ⟨0, nm3, ch3, by omega, hL3, hle3, hc3, hf3, rfl, rfl⟩, bS hbel [0, 1] absR⟩
        rintro k3 F Hx ⟨m, nm4, ch4, hm3, hL4, hle4, hc4, hf4, rfl, rfl⟩ J3 hJ3
        have hl4 := hL4.1
        refine rcs g'9 (fun h5 h5d _ => ?_) (fun h5 h5d g'15 => ?_)
        · have hlm : m < A.length := by omega
          have hbm := gp_bd hAb hlm
          have q6 := prs_load (l := A) (j := i) (by omega)
          have q7 := prs_load (l := A) (j := m) (by omega)
          have g'10 := (jn h5 (jn h5d (jn q6 (jn q7 g'9))))
          refine runTf g'10 ?_
          refine cd (adj38_c _ _ _ _ _ (by omega) (by omega) (by omega) (by omega)) ?_
          refine rgs g'10 (fun h8 h8d _ => ?_) (fun h8 h8d g'14 => ?_)
          · have hadj := adj_gp.1 h8
            have q9 := ints_get (k := .i64) (xs := nm4) (j := m) (by omega)
            have q10 := ints_get (k := .i64) (xs := nm4) (j := i) (by omega)
            have g'11 := (jn h8 (jn h8d (jn q9 (jn q10 g'10))))
            refine rcs g'11 (fun h11 h11d _ => ?_) (fun h11 h11d g'13 => ?_)
            · have hltv : gi nm4 m < gi nm4 i := of_decide_eq_true (by assumption)
              have hset := lab_set hL4 hli hlm hadj hltv
              obtain ⟨tv, htv, -⟩ := hL4.2 m hlm
              have hsum := sN_set (nm := nm4) (i := i) (v := gi nm4 m) (by omega) (by omega) hltv
              have q12 := ints_get (k := .i64) (xs := nm4) (j := m) (by omega)
              have g'12 := (jn h11 (jn h11d (jn q12 (jn @ints_set1 (jn @List.length_set.{0} g'11)))))
              refine runTf g'12 ?_
              refine hJ3 _ _ ⟨k3 - 1, by omega, _, _, _, ⟨m + 1, (nm4.set i (gi nm4 m)), true, by omega, hset, by omega, (fun _ => by omega), (fun q => by cases q), rfl, rfl⟩, bS hbel [0, 1] (absRf @List.length_set.{0})⟩
            have hnad : adjP (gp A i) (gp A m) → ¬ gi nm4 m < gi nm4 i := fun _ => of_decide_eq_false (by assumption)
            refine runTf g'13 ?_
            refine hJ3 _ _ ⟨k3 - 1, by omega, _, _, _, ⟨m + 1, nm4, ch4, by omega, hL4, hle4, hc4, (fun q => parF_step (hf4 q) hnad), rfl, rfl⟩, bS hbel [0, 1] (absRf @List.length_set.{0})⟩
          have hnad : adjP (gp A i) (gp A m) → ¬ gi nm4 m < gi nm4 i := fun q => absurd (adj_gp.2 q) (by rw [h8]; decide)
          refine runTf g'14 ?_
          refine hJ3 _ _ ⟨k3 - 1, by omega, _, _, _, ⟨m + 1, nm4, ch4, by omega, hL4, hle4, hc4, (fun q => parF_step (hf4 q) hnad), rfl, rfl⟩, bS hbel [0, 1] (absRf @List.length_set.{0})⟩
        refine runTf g'15 ?_
        refine hJ2 _ _ ⟨k2 - 1, by omega, _, _, _, ⟨i + 1, nm4, ch4, by omega, hL4, hle4, hc4, (fun q => parF_row (hf4 q) (by omega)), rfl, rfl⟩, bS hbel [0, 1] absR⟩
      refine runTf g'16 ?_
      have hdec : sN nm3 + ch3.toNat < sN nm2 + 1 := by
        cases ch3
        · show sN nm3 + 0 < _; omega
        have := hc3 rfl; show sN nm3 + 1 < _; omega
      refine hJ1 _ _ ⟨sN nm3 + ch3.toNat, by omega, _, _, _, ⟨nm3, ch3, rfl, hL3, (fun q => parF_fix (hf3 q) (by omega)), rfl, rfl⟩, bS hbel [0, 1] absR⟩
    have hF := hfx h3
    refine runTf g'17 ?_
    have hmvs : ∀ m k sel, AV.mvs (sig m k sel) (slr n0 []) = slr n0 [] := fun _ _ _ => rfl
    refine glp (fun k F Hx => ∃ v : Nat, ∃ cs : List (List (Int × Int)), ∃ Hg4 : AHeap, ∃ XX4 : AHeap, v + k = A.length ∧ Hg4 = H ++ XX4 ∧ (∀ x ∈ XX4, ABlk.bel Hg4.length x = true) ∧ rclF A nm2 v = cs ∧ n0 + cs.length = Hg4.length ∧ XX4 = cs.map cblk ∧ cs.length ≤ v ∧ F = [(4, .sl (some (Hg4.length, 0)) A.length (capG A.length)), (6, .sl (some (Hg4.length + 1, 0)) nm2.length none), (11, .sl (some (Hg4.length + 2, 0)) cs.length (capG cs.length)), (12, iV ((v : Nat) : Int))] ∧ Hx = Hg4 ++ [.cells (ownG A.length) 2 (prs A), .cells true 1 (ints .i64 nm2), .cells (ownG cs.length) 1 (slr n0 cs)]) (A.length) ?_ ?_
    · refine ⟨_, _, _, ⟨0, [], H, [], by omega, (List.append_nil _).symm, (fun x h => by cases h), rfl, hn0, rfl, Nat.le_refl _, rfl, rfl⟩, Abs.byG hbel [.cells false 1 []] rfl [0, 1, 2] (by decide) ?_⟩
      exact absRf @slr_nil
    rintro k4 F Hx ⟨v, cs, Hg4, XX4, hm4, hgX4, hXb_g4, hce, hgl, hXX, hcj, rfl, rfl⟩ J4 hJ4
    have hbel_g4 := hbel_grow hgX4 hbel hXb_g4
    have hbpp_g4 := grow1 hgX4 hb0pp
    have hblpp_g4 := getElem?_lt hbpp_g4
    have hb0pp_g4 := fun l => get_app (l := l) hbpp_g4
    have hpre_g4 : ∃ X, Hg4 = H ++ X := ⟨_, hgX4⟩
    have hle_g4 := pre_le hpre_g4
    have hmvs := fun k sel => mvs_slr (m := Hg4.length) (k := k) (sel := sel) (n := n0) (cs := cs) (by omega)
    have g'18 := (jn @hbpp_g4 (jn @hb0pp_g4 (jn h1 (jn h1d (jn @ints_rep (jn @List.length_replicate.{0} (jn @prs_len (jn @prs_one (jn @ints_len (jn @ints_ones (jn h2 (jn h2d (jn h3 (jn h3d (jn @slr_len @slr_ones)))))))))))))))
    refine rcs g'18 (fun h13 h13d _ => ?_) (fun h13 h13d g'26 => ?_)
    · have hli : v < A.length := by omega
      have q14 := ints_get (k := .i64) (xs := nm2) (j := v) (by omega)
      have g'19 := (jn h13 (jn h13d (jn q14 g'18)))
      refine rcs g'19 (fun h15 h15d _ => ?_) (fun h15 h15d _ => ?_)
      · have h15n := bnT h15
        have hne : ¬ (gi nm2 v == (v : Int)) = true := fun q => by rw [eq_of_beq q] at h15; simp at h15
        have g'20 := (jn h15 (jn h15n (jn @int_bne (jn @int_beq g'19))))
        refine runTf g'20 ?_
        refine hJ4 _ _ ⟨k4 - 1, by omega, _, _, _, ⟨v + 1, cs, Hg4, XX4, by omega, by assumption, by assumption, (by rw [rclF, if_neg hne]; exact hce), by assumption, by assumption, by omega, rfl, rfl⟩, (Abs.byG hbel_g4 [] rfl [0, 1, 2] (by decide) ?_).le hle_g4⟩
        exact absRf (jn @hmvs (jn @slr_snoc (jn @hgl @slr_nil)))
      have h15n := bnT h15
      have hei : gi nm2 v = (v : Int) := by simpa using h15
      have hpos := selF_pos hli hei
      have hcap := capG_p hpos
      have how := ownG_p hpos
      have g'21 := (jn h15 (jn h15n (jn @int_bne (jn @int_beq g'19))))
      refine runTf g'21 ?_
      refine glp (fun k F Hx => ∃ w : Nat, w + k = A.length ∧ F = [(4, .sl (some (Hg4.length, 0)) A.length (capG A.length)), (6, .sl (some (Hg4.length + 1, 0)) nm2.length none), (11, .sl (some (Hg4.length + 2, 0)) cs.length (capG cs.length)), (12, iV ((v : Nat) : Int)), (13, .sl (some (Hg4.length + 3, 0)) ((selF A nm2 ((v : Nat) : Int) w).length) (capG (selF A nm2 ((v : Nat) : Int) w).length)), (14, iV ((w : Nat) : Int))] ∧ Hx = Hg4 ++ [.cells (ownG A.length) 2 (prs A), .cells true 1 (ints .i64 nm2), .cells (ownG cs.length) 1 (slr n0 cs), .cells (ownG (selF A nm2 ((v : Nat) : Int) w).length) 2 (prs (selF A nm2 ((v : Nat) : Int) w))]) (A.length) ?_ ?_
      · refine ⟨_, _, _, ⟨0, by omega, rfl, rfl⟩, (Abs.byG hbel_g4 [.cells false 2 []] rfl [0, 1, 2, 3] (by decide) ?_).le hle_g4⟩
        exact absRf (jn @hmvs (jn @selF.eq_1 @slr_nil))
      rintro k5 F Hx ⟨w, hm5, rfl, rfl⟩ J5 hJ5
      refine rcs g'21 (fun h16 h16d _ => ?_) (fun h16 h16d _ => ?_)
      · have hlm : w < A.length := by omega
        have hsl5 := selF_len (A := A) (nm := nm2) (v := (v : Int)) w
        have q17 := ints_get (k := .i64) (xs := nm2) (j := w) (by omega)
        have g'22 := (jn h16 (jn h16d (jn q17 g'21)))
        refine rcs g'22 (fun h18 h18d _ => ?_) (fun h18 h18d _ => ?_)
        · have h18n := bnT h18
          have q19 := prs_load (l := A) (j := w) (by omega)
          have g'23 := (jn h18 (jn h18n (jn q19 (jn @capG_s g'22))))
          refine runTf g'23 ?_
          have hst5 : selF A nm2 ((v : Nat) : Int) (w + 1) = selF A nm2 ((v : Nat) : Int) w ++ [(g1 A w, g2 A w)] := if_pos (by simpa using h18)
          refine hJ5 _ _ ⟨k5 - 1, by omega, _, _, _, ⟨w + 1, by omega, rfl, rfl⟩, (Abs.byG hbel_g4 [] rfl [0, 1, 2, 5] (by decide) ?_).le hle_g4⟩
          exact absRf (jn @hmvs (jn @hst5 @slr_nil))
        have h18n := bnT h18
        have g'24 := j2 h18 h18n g'22
        refine runTf g'24 ?_
        have hst5 : selF A nm2 ((v : Nat) : Int) (w + 1) = selF A nm2 ((v : Nat) : Int) w := if_neg (by simpa using h18)
        refine hJ5 _ _ ⟨k5 - 1, by omega, _, _, _, ⟨w + 1, by omega, rfl, rfl⟩, (Abs.byG hbel_g4 [] rfl [0, 1, 2, 3] (by decide) ?_).le hle_g4⟩
        exact absRf (jn @hmvs (jn @hst5 @slr_nil))
      obtain rfl : w = A.length := by omega
      have g'25 := (jn h16 (jn h16d (jn @capG_s g'21)))
      refine runTf g'25 ?_
      refine hJ4 _ _ ⟨k4 - 1, by omega, _, _, _, ⟨v + 1, cs ++ [selF A nm2 ((v : Nat) : Int) A.length], (Hg4 ++ [.cells (ownG (selF A nm2 ((v : Nat) : Int) A.length).length) 2 (prs (selF A nm2 ((v : Nat) : Int) A.length))]), (XX4 ++ [.cells (ownG (selF A nm2 ((v : Nat) : Int) A.length).length) 2 (prs (selF A nm2 ((v : Nat) : Int) A.length))]), by omega, (by rw [hgX4, List.append_assoc]), grow_bel hXb_g4 (by simp only [ABlk.bel, bels_prs, bels_ints]), (by rw [rclF, if_pos (by rw [hei]; exact beq_self_eq_true _), hce]), (by rw [List.length_append, List.length_singleton, List.length_append, List.length_singleton]; omega), (by rw [List.map_append, ← hXX, how]; rfl), (by rw [List.length_append, List.length_singleton]; omega), rfl, rfl⟩, Abs.byX hle_g4 hbel_g4 [] rfl [3, 0, 1, 5] (by decide) ?_⟩
      exact absRf (jn @hmvs (jn @slr_snoc (jn @hgl (jn @hcap (jn @how (jn @grow_len (jn @Nat.add_assoc @slr_nil)))))))
    obtain rfl : v = A.length := by omega
    have hcs : cluL A = cs := by rw [← rcl_eq hAn hAs hL2 hF, hce]
    refine runTf g'26 ?_
    refine hQ _ _ ((end_byG (.inl rfl) hbel_g4 (x1 := .tup [.sl (some (Hg4.length + 2, 0)) cs.length (capG cs.length), iV 0]) (l2 := [.cells (ownG cs.length) 1 (slr n0 cs)]) (.tup [.sl (some (Hg4.length, 0)) cs.length (capG cs.length), iV 0]) (resT Try.results12) [] rfl [2] (by decide) ⟨XX4, (by rw [← hgX4]; exact hXb_g4), (by rw [hcs]; exact hXX), (by rw [hcs, ← hgX4]), (by rw [hcs, ← hgX4])⟩ ?_).le hle_g4)
    exact absWf @hmvs
  have h1d := h1
  rw [hv] at h1d; cases h1d
theorem rclu_k (H : AHeap) (A : List (Int × Int)) (n0 : Nat) (W Hh : Int) (s : AV) (xs : List Int) (cs : List (List (Int × Int))) (hs : Sl H 1 s xs.length (ints .u8 xs)) (hv : vldB W Hh xs = true) (hA : froL W Hh xs = A) (hn0 : n0 = H.length) (hC : cluL A = cs) :
    ACalls Try.prog 12 [.agg [iV W, iV Hh, s]] H (fun v H' => ∃ X : AHeap, (∀ x ∈ X, ABlk.bel (H ++ X).length x = true) ∧ X = cs.map cblk ∧ v = .tup [.sl (some ((H ++ X).length, 0)) cs.length (capG cs.length), iV 0] ∧ H' = H ++ X ++ [.cells (ownG cs.length) 1 (slr n0 cs)]) := by
  subst hC; exact rclu_y H A n0 W Hh s xs hs hv hA hn0
theorem g12_eq {l m : List (Int × Int)} {j : Nat} (hj : j < l.length) (hm : j < m.length) (h1 : g1 l j = g1 m j) (h2 : g2 l j = g2 m j) : l[j] = m[j] := by
  rw [← pr_eq hj, ← pr_eq hm, h1, h2]
theorem eq_of_all {l m : List (Int × Int)} (hl : l.length = m.length) (h : ∀ j : Nat, j < l.length → g1 l j = g1 m j ∧ g2 l j = g2 m j) : l = m :=
  List.ext_getElem hl fun j a b => g12_eq a b (h j a).1 (h j a).2
theorem ne_of_some {l m : List (Int × Int)} {j : Nat} (h : ¬ (g1 l j = g1 m j ∧ g2 l j = g2 m j)) : decide (l = m) = false := decide_eq_false fun e => h (by rw [e]; exact ⟨rfl, rfl⟩)
theorem bcells_c (H : AHeap) (s : AV) (l : List (Int × Int)) (t : AV) (m : List (Int × Int)) (hs : Sl H 2 s l.length (prs l)) (ht : Sl H 2 t m.length (prs m)) (hl : l.length ≤ 1000000) (hm : m.length ≤ 1000000) : ACalls Try.prog 13 [s, t] H (fun v H' => v = .bool (decide (l = m)) ∧ H' = H) := by
  obtain ⟨bs, os, cs, rfl, hbs⟩ := hs
  have hbls := getElem?_lt hbs
  have hb0s := fun l => get_app (l := l) hbs
  obtain ⟨bt, ot, ct, rfl, hbt⟩ := ht
  have hblt := getElem?_lt hbt
  have hb0t := fun l => get_app (l := l) hbt
  refine AcT true Try.func13 ?_; intro hbel Q hQ
  have g'1 := (jn @hbs (jn @hb0s (jn @hbt @hb0t)))
  refine rcs g'1 (fun h1 h1d _ => ?_) (fun h1 h1d _ => ?_)
  · have h1n := bnT h1
    have hfinR : decide (l = m) = false := decide_eq_false fun e => by first | exact h1d (by rw [e]) | simp [e] at h1d
    have g'2 := (jn h1 (jn h1n (jn @int_bne (jn @int_beq g'1))))
    exact eS g'2 hQ hbel (.bool false) Try.results13 ⟨by rw [hfinR], rfl⟩
  have h1n := bnT h1
  have hlen : l.length = m.length := by first | omega | (simp at h1d; omega)
  have g'3 := (jn h1 (jn h1n (jn @int_bne (jn @int_beq g'1))))
  refine runTf g'3 ?_
  refine glp (fun k F Hx => ∃ i : Nat, i + k = l.length ∧ (∀ j : Nat, j < i → g1 l j = g1 m j ∧ g2 l j = g2 m j) ∧ F = [(0, .sl (some (bs, 0)) l.length cs), (1, .sl (some (bt, 0)) m.length ct), (5, iV ((i : Nat) : Int))] ∧ H = Hx) (l.length) ?_ ?_
  · refine ⟨_, _, _, ⟨0, by omega, fun j h => by omega, rfl, rfl⟩, Abs.by0 hbel ?_⟩
    exact absW
  rintro k0 F Hx ⟨i, hm0, hal, rfl, rfl⟩ J0 hJ0
  refine rcs g'3 (fun h2 h2d _ => ?_) (fun h2 h2d g'7 => ?_)
  · have q3 := prs_load (l := l) (j := i) (by omega)
    have q4 := prs_load (l := m) (j := i) (by omega)
    have g'4 := (jn h2 (jn h2d (jn q3 (jn q4 g'3))))
    refine rcs g'4 (fun h5 h5d _ => ?_) (fun h5 h5d _ => ?_)
    · have h5n := bnT h5
      have hfinR : decide (l = m) = false := ne_of_some (j := i) (by simpa using h5d)
      have g'5 := j2 h5 h5n g'4
      exact eS g'5 hQ hbel (.bool false) Try.results13 ⟨by rw [hfinR], rfl⟩
    have h5n := bnT h5
    have hei : g1 l i = g1 m i ∧ g2 l i = g2 m i := by simpa using h5d
    have g'6 := j2 h5 h5n g'4
    refine runTf g'6 ?_
    refine hJ0 _ _ ⟨k0 - 1, by omega, _, _, _, ⟨i + 1, by omega, fun j hj => by
                rcases Nat.lt_or_ge j i with h | h
                · exact hal j h
                rw [show j = i by omega]; exact hei, rfl, rfl⟩, Abs.by0 hbel ?_⟩
    exact absW
  have hfinR : decide (l = m) = true := decide_eq_true (eq_of_all hlen fun j hj => hal j (by omega))
  exact eS g'7 hQ hbel (.bool true) Try.results13 ⟨by rw [hfinR], rfl⟩
theorem bcells_s (H : AHeap) (s : AV) (l : List (Int × Int)) (t : AV) (hs : Sl H 2 s l.length (prs l)) (ht : Sl H 2 t l.length (prs l)) (hl : l.length ≤ 1000000) : ACalls Try.prog 13 [s, t] H (fun v H' => v = .bool true ∧ H' = H) := by
  have h := bcells_c H s l t l hs ht hl hl
  rw [decide_eq_true rfl] at h
  exact h
theorem lclus_c (H : AHeap) (W Hh : Int) (pp : AV) (xs : List Int) (hpp : Sl H 1 pp xs.length (ints .u8 xs)) : ACalls Try.prog 4 [.agg [iV W, iV Hh, pp]] H (fun v H' => v = .bool true ∧ H' = H) := by
  obtain ⟨bpp, opp, cpp, rfl, hbpp⟩ := hpp
  have hblpp := getElem?_lt hbpp
  have hb0pp := fun l => get_app (l := l) hbpp
  obtain ⟨A, hA⟩ : ∃ A, froL W Hh xs = A := ⟨_, rfl⟩
  obtain ⟨CS, hCS⟩ : ∃ c, cluL A = c := ⟨_, rfl⟩
  refine AcT true Try.func4 ?_; intro hbel Q hQ
  have h0bel := hbel
  have g'1 := (jn @hbpp @hb0pp)
  refine runTf g'1 ?_
  refine cvr g'1 (awake_a _) ?_
  refine cv (few38_c _ W _ _ xs (⟨_, _, _, rfl, by first | exact hb0pp _ | exact hbpp⟩)) ?_
  refine rcs g'1 (fun h1 h1d g'2 => ?_) (fun h1 h1d g'3 => ?_)
  · refine runTf g'2 ?_
    refine cvr g'2 (awake_a _) ?_
    exact eP hQ hbel (.bool true) Try.results4 ⟨rfl, rfl⟩
  refine runTf g'3 ?_
  rcases Bool.eq_false_or_eq_true (vldB W Hh xs) with h2 | h2
  · have h2d := h2
    have hV := vld_iff.1 h2d
    have hAn : A.Nodup := hA ▸ fro_nodup
    have hAl : A.length ≤ 4096 := hA ▸ fro_len hV
    have hC : CluP A CS := hCS ▸ cluL_ok hAn
    have hCl := hC.len
    obtain ⟨n_c, hn_c⟩ : ∃ n, n = (H ++ ([.cells true 0 [iV W, iV Hh, .sl (some (bpp, 0)) xs.length cpp]] : AHeap)).length := ⟨_, rfl⟩
    refine call_of (by kernel_rfl) (clus_k _ A n_c W Hh _ xs CS (⟨_, _, _, rfl, by first | exact hb0pp _ | exact hbpp⟩) (by assumption) hA hn_c hCS) ?_
    rintro _ _ ⟨X_c, hXg_c, hXe_c, rfl, rfl⟩
    obtain ⟨G_c, hG_c⟩ : ∃ G, G = H ++ (([.cells true 0 [iV W, iV Hh, .sl (some (bpp, 0)) xs.length cpp]] : AHeap) ++ (X_c ++ [.cells (ownG CS.length) 1 (slr n_c CS)])) := ⟨_, rfl⟩
    have hGe_c : ((H ++ ([.cells true 0 [iV W, iV Hh, .sl (some (bpp, 0)) xs.length cpp]] : AHeap)) ++ X_c) ++ [.cells (ownG CS.length) 1 (slr n_c CS)] = G_c := by rw [hG_c]; simp only [List.append_assoc]
    obtain ⟨br_c, hbr_c⟩ : ∃ b, b = ((H ++ ([.cells true 0 [iV W, iV Hh, .sl (some (bpp, 0)) xs.length cpp]] : AHeap)) ++ X_c).length := ⟨_, rfl⟩
    rw [← hbr_c, hGe_c]
    have hlX_c : n_c + X_c.length = br_c := by rw [hbr_c, hn_c]; exact List.length_append.symm
    have hlG_c : G_c.length = br_c + 1 := by rw [← hGe_c, List.length_append, ← hbr_c]; rfl
    have hlN_c : n_c = H.length + 1 := by rw [hn_c, List.length_append]; rfl
    have hlen_c := (by rw [hXe_c, List.length_map] at hlX_c; exact hlX_c : n_c + CS.length = br_c)
    have hXb_c : ∀ x ∈ ([.cells true 0 [iV W, iV Hh, .sl (some (bpp, 0)) xs.length cpp]] : AHeap) ++ (X_c ++ [.cells (ownG CS.length) 1 (slr n_c CS)]), ABlk.bel G_c.length x = true := by
      intro x hx
      rcases List.mem_append.1 hx with hx | hx
      · simp only [List.mem_cons, List.not_mem_nil, or_false] at hx
        rcases hx with rfl <;> simp only [ABlk.bel, AV.bels, AV.bel, bels_prs, bels_ints, Bool.and_true, Bool.true_and, decide_eq_true_eq] <;> omega
      rcases List.mem_append.1 hx with hx | hx
      · exact ABlk.bel_up (by rw [List.length_append, ← hn_c]; omega) (hXg_c x hx)
      rw [List.mem_singleton.1 hx]; exact bels_slr (by omega)
    have hbel_c := hbel_grow hG_c hbel hXb_c
    have hbpp_c := grow1 hG_c hb0pp
    have hblpp_c := getElem?_lt hbpp_c
    have hb0pp_c := fun l => get_app (l := l) hbpp_c
    have hpre_c : ∃ X, G_c = H ++ X := ⟨_, hG_c⟩
    have hle_c := pre_le hpre_c
    have hbE_c0_c : G_c[H.length]? = some (.cells true 0 [iV W, iV Hh, .sl (some (bpp, 0)) xs.length cpp]) := by rw [hG_c, List.getElem?_append_right (by omega), Nat.sub_self]; rfl
    have hblE_c0_c := getElem?_lt hbE_c0_c
    have hb0E_c0_c := fun l => get_app (l := l) hbE_c0_c
    have hbR_c_c : G_c[br_c]? = some (.cells (ownG CS.length) 1 (slr n_c CS)) := by rw [← hGe_c, hbr_c, List.getElem?_append_right (Nat.le_refl _), Nat.sub_self]; rfl
    have hblR_c_c := getElem?_lt hbR_c_c
    have hb0R_c_c := fun l => get_app (l := l) hbR_c_c
    have hcl_c := grow_at hG_c hXe_c hn_c
    have hcl0_c : ∀ i (l : AHeap), i < CS.length → (G_c ++ l)[n_c + i]? = some (.cells true 2 (prs (gc CS i))) := fun i l hi => get_app (l := l) (hcl_c i hi)
    have g'4 := (jn @hbpp_c (jn @hb0pp_c (jn h1 (jn h1d (jn h2 (jn h2d (jn @hbE_c0_c (jn @hb0E_c0_c (jn @hbR_c_c (jn @hb0R_c_c (jn @hcl_c (jn @hcl0_c (jn @slr_len @slr_ones)))))))))))))
    refine runTf g'4 ?_
    obtain ⟨n_d, hn_d⟩ : ∃ n, n = (G_c).length := ⟨_, rfl⟩
    refine call_of (by kernel_rfl) (rclu_k _ A n_d W Hh _ xs CS (⟨_, _, _, rfl, by first | exact hb0pp_c _ | exact hbpp_c⟩) (by assumption) hA hn_d hCS) ?_
    rintro _ _ ⟨X_d, hXg_d, hXe_d, rfl, rfl⟩
    obtain ⟨G_d, hG_d⟩ : ∃ G, G = G_c ++ (X_d ++ [.cells (ownG CS.length) 1 (slr n_d CS)]) := ⟨_, rfl⟩
    have hGe_d : ((G_c) ++ X_d) ++ [.cells (ownG CS.length) 1 (slr n_d CS)] = G_d := by rw [hG_d]; simp only [List.append_assoc]
    obtain ⟨br_d, hbr_d⟩ : ∃ b, b = ((G_c) ++ X_d).length := ⟨_, rfl⟩
    rw [← hbr_d, hGe_d]
    have hlX_d : n_d + X_d.length = br_d := by rw [hbr_d, hn_d]; exact List.length_append.symm
    have hlG_d : G_d.length = br_d + 1 := by rw [← hGe_d, List.length_append, ← hbr_d]; rfl
    have hlN_d : n_d = G_c.length + 0 := hn_d
    have hlen_d := (by rw [hXe_d, List.length_map] at hlX_d; exact hlX_d : n_d + CS.length = br_d)
    have hXb_d : ∀ x ∈ X_d ++ [.cells (ownG CS.length) 1 (slr n_d CS)], ABlk.bel G_d.length x = true := by
      intro x hx
      rcases List.mem_append.1 hx with hx | hx
      · exact ABlk.bel_up (by rw [List.length_append, ← hn_d]; omega) (hXg_d x hx)
      rw [List.mem_singleton.1 hx]; exact bels_slr (by omega)
    have hbel_d := hbel_grow hG_d hbel_c hXb_d
    have hbpp_d := grow1 hG_d hb0pp_c
    have hblpp_d := getElem?_lt hbpp_d
    have hb0pp_d := fun l => get_app (l := l) hbpp_d
    have hbE_c0_d := grow1 hG_d hb0E_c0_c
    have hblE_c0_d := getElem?_lt hbE_c0_d
    have hb0E_c0_d := fun l => get_app (l := l) hbE_c0_d
    have hbR_c_d := grow1 hG_d hb0R_c_c
    have hblR_c_d := getElem?_lt hbR_c_d
    have hb0R_c_d := fun l => get_app (l := l) hbR_c_d
    have hpre_d := pre_trans hpre_c hG_d
    have hle_d := pre_le hpre_d
    have hbR_d_d : G_d[br_d]? = some (.cells (ownG CS.length) 1 (slr n_d CS)) := by rw [← hGe_d, hbr_d, List.getElem?_append_right (Nat.le_refl _), Nat.sub_self]; rfl
    have hblR_d_d := getElem?_lt hbR_d_d
    have hb0R_d_d := fun l => get_app (l := l) hbR_d_d
    have hcl_d := grow_at (L := []) (n := n_d) hG_d hXe_d (by rw [List.append_nil]; exact hn_d)
    have hcl_c_d := fun i hi => grow1 hG_d (fun l => hcl0_c i l hi)
    have hcl0_c_d := fun i (l : AHeap) hi => get_app (l := l) (hcl_c_d i hi)
    have hcl0_d : ∀ i (l : AHeap), i < CS.length → (G_d ++ l)[n_d + i]? = some (.cells true 2 (prs (gc CS i))) := fun i l hi => get_app (l := l) (hcl_d i hi)
    have g'5 := (jn @hbpp_d (jn @hb0pp_d (jn h1 (jn h1d (jn h2 (jn h2d (jn @hbE_c0_d (jn @hb0E_c0_d (jn @hbR_c_d (jn @hb0R_c_d (jn @slr_len (jn @slr_ones (jn @hcl_c_d (jn @hcl0_c_d (jn @hbR_d_d (jn @hb0R_d_d (jn @hcl_d @hcl0_d)))))))))))))))))
    refine runTf g'5 ?_
    refine glp (fun k F Hx => ∃ i : Nat, i + k = CS.length ∧ F = [(3, .sl (some (br_c, 0)) CS.length (capG CS.length)), (5, .sl (some (br_d, 0)) CS.length (capG CS.length)), (7, iV ((i : Nat) : Int))] ∧ G_d = Hx) (CS.length) ?_ ?_
    · refine ⟨_, _, _, ⟨0, by omega, rfl, rfl⟩, (Abs.by0 hbel_d ?_).le hle_d⟩
      exact absW
    rintro k0 F Hx ⟨i, hm0, rfl, rfl⟩ J0 hJ0
    refine rcs g'5 (fun h3 h3d _ => ?_) (fun h3 h3d g'7 => ?_)
    · have hlt : i < CS.length := by omega
      have hgl := hC.le i hlt
      have q4 := slr_get (n := n_c) (cs := CS) (i := i) (by omega)
      have q5 := slr_get (n := n_d) (cs := CS) (i := i) (by omega)
      have g'6 := (jn h3 (jn h3d (jn q4 (jn q5 g'5))))
      refine runTf g'6 ?_
      refine cdr g'6 (bcells_s _ _ (gc CS i) _ (⟨_, _, _, rfl, by first | exact hcl0_c_d _ _ (by omega) | exact hcl_c_d _ (by omega)⟩) (⟨_, _, _, rfl, by first | exact hcl0_d _ _ (by omega) | exact hcl_d _ (by omega)⟩) (by omega)) ?_
      refine hJ0 _ _ ⟨k0 - 1, by omega, _, _, _, ⟨i + 1, by omega, rfl, rfl⟩, (Abs.by0 hbel_d ?_).le hle_d⟩
      exact absW
    refine runTf g'7 ?_
    exact hQ _ _ (endX_plain0 (.inl rfl) hpre_d h0bel (x := .bool true) (resT Try.results4) rfl ⟨rfl, rfl⟩)
  have h2d := h2
  refine cv (clus_n _ W _ _ xs (⟨_, _, _, rfl, by first | exact hb0pp _ | exact hbpp⟩) (by assumption)) ?_
  have g'8 := j2 h2 h2d g'3
  refine runTf g'8 ?_
  refine cvr g'8 (rclu_n _ W _ _ xs (⟨_, _, _, rfl, by first | exact hb0pp _ | exact hbpp⟩) (by assumption)) ?_
  refine glp (fun k F Hx => ∃ z : Unit, k = 0 ∧ F = [(3, .sl none 0 (some 0)), (5, .sl none 0 (some 0)), (7, iV 0)] ∧ H = Hx) (0) ?_ ?_
  · refine ⟨_, _, _, ⟨(), by omega, rfl, rfl⟩, Abs.byN hbel ?_⟩
    exact absW
  rintro k1 F Hx ⟨z, hm1, rfl, rfl⟩ J1 hJ1
  exact eS g'8 hQ hbel (.bool true) Try.results4 ⟨rfl, rfl⟩
set_option maxRecDepth 100000 in
theorem frontierClusters_top (H : AHeap) (xs : List AV) (hn : xs.length = 1) (hy : ∀ (j : Nat) (t : TypeId) (x : AV), [24][j]? = some t → xs[j]? = some x → ATy Try.prog H 9 t x) : ACalls Try.prog 4 xs H (fun v H' => v = .bool true ∧ H' = H) := by
  match xs, hn, hy with
  | [a0], _, hy =>
    obtain ⟨ys0, e0, r0_0⟩ := (hy 0 _ a0 rfl rfl).agg (ls := [3, 3, 22]) (by kernel_rfl) (by kernel_rfl)
    obtain ⟨y0_0, q0_0, rfl, t0_0, r0_1⟩ := r0_0.cons
    obtain ⟨z1, rfl, w1⟩ := t0_0.int (k := .i64) (by kernel_rfl)
    obtain ⟨y0_1, q0_1, rfl, t0_1, r0_2⟩ := r0_1.cons
    obtain ⟨z2, rfl, w2⟩ := t0_1.int (k := .i64) (by kernel_rfl)
    obtain ⟨y0_2, q0_2, rfl, t0_2, r0_3⟩ := r0_2.cons
    obtain ⟨l3, s3, m3, w3⟩ := t0_2.intsU (n := 7) (t := 22) (e := 5) (by kernel_rfl) (by kernel_rfl) (by kernel_rfl)
    obtain rfl := r0_3.nil
    subst e0
    exact lclus_c H z1 z2 _ l3 s3
section
open Go.ChangeShapes Go.WideShapes Go.ChangeAt Go.Joins
open Go.ChangeMaps (open_string shut_string)
set_option maxRecDepth 100000 in
theorem frontierClusters_lifted (os : Os) (started : os.Started) (H : Type) (enc : TypeId × Value → H) :
    ReturnsInHanded {} Try.checked os 4 .any (Rows.frontierClustersSpec.pre6 enc Try.prog Try.f4 Rows.frontierClustersRow.domain false) (Rows.frontierClustersSpec.post enc Try.prog Try.f4 false true false false) := by
  refine returnsInHanded_of_change (C := Try.checked) own started (by kernel_rfl) Try.func4
    (ChangeSpec.witness6 (enc := enc) (C := Try.checked) false ⟨#[], #[.agg #[.int .i64 0, .int .i64 0, .slice none 0 0]], []⟩ 8 (by kernel_rfl) (by kernel_rfl) (by kernel_rfl) (by kernel_rfl)) ?_
  intro W base args ds gs before hval0 hW hcnd _
  have hval : ∀ (j : Nat) t v, Try.f4.params[j]? = some t → args[j]? = some v → Value.okWide Try.prog W .any base t v := hval0
  have hW' := hW
  obtain ⟨p, q, hA0, hV, rfl, hfz, hnd⟩ := hW
  have hA : DataW.TrodAll enc Try.prog W 0 (fun _ => true) true Try.f4.params.toList args.toList ds p := hA0
  rw [Try.params4] at hA hval
  have hwalk := calls_top (n := 9) (f := 4) hA (fun j t v a b => hval j t v (by simpa using a) (by simpa using b)) (by kernel_rfl) (fun H xs hn hy => frontierClusters_top H xs hn hy)
  rw [Array.toArray_toList] at hwalk
  obtain ⟨v0, vs0, d0, ds0, p0, q0, hargs, rfl, rfl, h0, r0⟩ := trodAll_cons hA
  obtain ⟨rfl, rfl, rfl⟩ := trodAll_nil r0
  obtain rfl : args = #[v0] := by cases args; simp_all
  obtain ⟨rfl, rfl⟩ := trodVars_none hV
  have k0 := h0
  have lt0 : ∀ x ∈ p0, x.block < W.heap.size := by obtain ⟨m, hm⟩ := k0; exact DataW.trod_lt m _ _ _ hm
  clear hA0 hval0
  refine hwalk.mono fun e W' ⟨he, bel⟩ => ?_
  subst he
  exact ⟨_, rfl, _, _, _, [], _, [], hW', trodAll_mk1 (shut_bool Try.underlying4 _), (trodAll_cons_mk (Below.trod laidOut (by kernel_rfl) (of_decide_eq_true (by kernel_rfl)) k0 bel lt0) trodAll_mk0), rfl, bel.frame _, fun h => by cases h⟩
theorem and_t {a b : Bool} (h : a = true) (k : b = true) : (a && b) = true := by rw [h, k]; rfl
theorem frontierClusters_h0 : (Rows.frontierClustersRow.inPlace == Try.pinned.checked.prog.inPlace 4) = true := by kernel_rfl
theorem frontierClusters_h1 : (Rows.frontierClustersRow.unfollowed == Try.pinned.checked.prog.unfollowed 4) = true := by kernel_rfl
theorem frontierClusters_h2 : (Rows.frontierClustersRow.recurses == Try.pinned.checked.prog.recurses 4) = true := by kernel_rfl
theorem frontierClusters_h3 : (Rows.frontierClustersRow.named == Try.pinned.checked.prog.varsNamed 4) = true := by kernel_rfl
theorem frontierClusters_h4 : Try.pinned.checked.prog.stopsHeard = true := by kernel_rfl
theorem frontierClusters_h5 : Try.pinned.checked.prog.mayEnter = true := by kernel_rfl
theorem frontierClusters_h6 : (Rows.frontierClustersRow.lifted == Try.pinned.checked.prog.liftsFinal) = true := by kernel_rfl
theorem frontierClusters_closed : joinedFacts Try.pinned.checked.prog 4 Try.f4 Rows.frontierClustersSpec Rows.frontierClustersRow = true := by
  unfold joinedFacts
  exact (and_t (and_t (and_t (and_t (and_t (and_t (and_t (and_t (and_t (and_t (and_t (and_t (and_t (and_t (and_t (and_t (and_t (and_t (and_t (and_t (and_t (and_t (and_t (and_t (and_t (and_t (and_t (and_t (and_t (and_t (and_t (by kernel_rfl) laidOut) (by kernel_rfl)) (by kernel_rfl)) (by kernel_rfl)) (by kernel_rfl)) (by kernel_rfl)) (by kernel_rfl)) (by kernel_rfl)) frontierClusters_h0) frontierClusters_h1) frontierClusters_h2) frontierClusters_h3) (by kernel_rfl)) (by kernel_rfl)) (by kernel_rfl)) (by kernel_rfl)) (by kernel_rfl)) (by kernel_rfl)) (by kernel_rfl)) (by kernel_rfl)) (by kernel_rfl)) (by kernel_rfl)) (by kernel_rfl)) frontierClusters_h4) frontierClusters_h5) frontierClusters_h6) (by kernel_rfl)) (by kernel_rfl)) (by kernel_rfl)) (by kernel_rfl)) (by kernel_rfl))
theorem frontierClusters_over : Rows.frontierClustersRow.holds Try.pinned (OpenSpec.ofChange Rows.frontierClustersSpec) :=
  OpenClaim.holds_of_wide 4 Try.f4 rfl rfl rfl rfl rfl rfl rfl ⟨rfl, rfl, rfl, rfl, rfl⟩ rfl rfl rfl rfl rfl (by kernel_rfl) Try.func4 frontierClusters_closed
    (of_decide_eq_true (by kernel_rfl)) (by unfold Func.isWrapper; rw [if_neg (by decide +kernel)]; exact ⟨rfl, rfl⟩)
    (fun os started H enc _ => frontierClusters_lifted os started H enc)
/-- The given statement. -/
theorem frontierClusters_proved : Rows.FrontierClustersSaid := frontierClusters_over
end
end Go.Proofs.Ytcghekjnjbpeoaa
