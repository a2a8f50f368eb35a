/- Walk by the abstract machine: wayfinderbase.Plans at equal plans; bytes as a text. Conditions: as each theorem states. -/
import Derived.Test.YtloblgkjgcemoaaWCellsF
import Derived.Test.YtloblgkjgcemoaaAmD
namespace Go.Proofs.Ytloblgkjgcemoaa
set_option linter.unusedSimpArgs false
set_option linter.unusedVariables false
open Go.RowKit
def bys (xs : List Int) : List UInt8 := xs.map fun n => UInt8.ofNat n.toNat
theorem bys_map : ∀ xs : List Int, (ints .u8 xs).mapM byteOf = some (bys xs)
  | [] => rfl
  | x :: xs => by
    have ih := bys_map xs
    show (AV.int .u8 x :: ints .u8 xs).mapM byteOf = _
    rw [List.mapM_cons, ih]
    rfl
theorem need_pos {p : Prop} [Decidable p] (h : p) : need p = some () := by unfold need; rw [if_pos h]
/-- A slice of bytes, as a text. -/
theorem conv_bytes {H : AHeap} {s : AV} {xs : List Int} (hs : IsI H .u8 s xs) : aConv Try.prog 22 9 s H = some (.str (bys xs)) := by
  have h1 := bys_map xs
  have key : ∀ a n c, aElems 1 (.sl a n c) H = some (n, ints .u8 xs) → aConv Try.prog 22 9 (.sl a n c) H = some (.str (bys xs)) := fun a n c he => by
    unfold aConv
    simp only [tElem22, Option.bind_some]
    rw [need_pos ⟨tInt5, by kernel_rfl⟩, Option.bind_some, he, Option.bind_some]
    simp only [h1, Option.map_some]
  rcases hs with ⟨rfl, rfl⟩ | ⟨b, own, cap, rfl, hb⟩
  · exact key none 0 (some 0) rfl
  · refine key _ _ _ ?_
    unfold aElems ards
    simp only [hb]
    rw [if_pos (by rw [ints_len]; omega), List.drop_zero, List.take_of_length_le (by rw [ints_len]; omega)]
    rfl
set_option maxRecDepth 100000 in
theorem plans_c (H : AHeap) (W Hh : Int) (xs : List Int) (s1 s2 : AV) (h1 : IsI H .u8 s1 xs) (h2 : IsI H .u8 s2 xs) : ACalls Try.prog 16 [.agg [.int .i64 W, .int .i64 Hh, s1], .agg [.int .i64 W, .int .i64 Hh, s2]] H (fun v H' => v = .bool true ∧ H' = H) := by
  have hc1 := fun l => conv_bytes (h1.app l)
  have hc2 := fun l => conv_bytes (h2.app l)
  obtain ⟨a1, c1, rfl⟩ := h1.parts
  obtain ⟨a2, c2, rfl⟩ := h2.parts
  (refine ACalls_run try_mixed Try.func16 true _ rfl (Nat.le_of_ble_eq_true (by kernel_rfl)) (by kernel_rfl) ?_; intro hbel Q hQ hQ' c hc; unfold Try.f16 at hc; simp only [Option.some.injEq] at hc; subst hc; clear hQ')
  simp -implicitDefEqProofs (disch := omega) only [hc1, hc2, amset, tyset, gdL, lightOf, dsts, AGd.eq_1, AGd.eq_2, ADo, lateOk, belowV, lenV, Int.reduceToNat, Int.reduceBEq, Int.reduceBNe, Int.reduceLT, Int.reduceLE, calleeOf, aop, aev, look, putF, AV.ofValue, AV.ofCell, AV.cells, AV.flat, AV.one, aAlloc, aNew, aBox, aBuild, afill, splice, aBuildSlice, arep, aLoad, ard, ards, aStore, awrite, aFieldAddr, aField, aIndexAddr, aIndex, aExtract, aBound, aSlice, aInt, aBin, aUn, aLen, aAppend, aElems, aCopy, aMin2, aMax2, aFold, aBuiltin, aMakeSlice, aMapUpdate, aDelete, aLookup, argF, Nat.reduceBEq, Nat.reduceLT, isSh, aRes, one1, Nat.reduceMod, Nat.reducePow, Nat.reduceAdd, Nat.reduceLeDiff, Nat.reduceMul, Nat.reduceSub]
  exact hQ _ _ (end_plain (.inl rfl) hbel (x := .bool true) (ret_of Try.results16 (by simp -implicitDefEqProofs (disch := omega) only [amset, tyset, gdL, lightOf, dsts, AGd.eq_1, AGd.eq_2, ADo, lateOk, belowV, lenV, Int.reduceToNat, Int.reduceBEq, Int.reduceBNe, Int.reduceLT, Int.reduceLE, calleeOf, aop, aev, look, putF, AV.ofValue, AV.ofCell, AV.cells, AV.flat, AV.one, aAlloc, aNew, aBox, aBuild, afill, splice, aBuildSlice, arep, aLoad, ard, ards, aStore, awrite, aFieldAddr, aField, aIndexAddr, aIndex, aExtract, aBound, aSlice, aInt, aBin, aUn, aConv, aLen, aAppend, aElems, aCopy, aMin2, aMax2, aFold, aBuiltin, aMakeSlice, aMapUpdate, aDelete, aLookup, argF, Nat.reduceBEq, Nat.reduceLT, isSh, aRes, one1, Nat.reduceMod, Nat.reducePow, Nat.reduceAdd, Nat.reduceLeDiff, Nat.reduceMul, Nat.reduceSub])) rfl ⟨rfl, rfl⟩)
end Go.Proofs.Ytloblgkjgcemoaa
