/- Facts on the types of the program, as the abstract machine asks for them. Conditions: none. -/
import Derived.Test.YtloblgkjgcemoaaAmS
namespace Go.Proofs.Ytloblgkjgcemoaa
open Go.RowKit
theorem try_mixed : Try.prog.follows .mixedOrders = true := by kernel_rfl
theorem tAgg2 : tAgg Try.prog 2 = some false := by kernel_rfl
theorem tSz2 : tSz Try.prog 2 = some 1 := by kernel_rfl
theorem tBytes2 : tBytes Try.prog 2 = some 8 := by kernel_rfl
theorem tZero2 : tZero Try.prog 2 = some [.int .i64 0] := by kernel_rfl
theorem tInt2 : tInt Try.prog 2 = some .i64 := by kernel_rfl
theorem tAgg3 : tAgg Try.prog 3 = some false := by kernel_rfl
theorem tSz3 : tSz Try.prog 3 = some 1 := by kernel_rfl
theorem tBytes3 : tBytes Try.prog 3 = some 8 := by kernel_rfl
theorem tZero3 : tZero Try.prog 3 = some [.int .i64 0] := by kernel_rfl
theorem tInt3 : tInt Try.prog 3 = some .i64 := by kernel_rfl
theorem tAgg4 : tAgg Try.prog 4 = some false := by kernel_rfl
theorem tSz4 : tSz Try.prog 4 = some 1 := by kernel_rfl
theorem tBytes4 : tBytes Try.prog 4 = some 1 := by kernel_rfl
theorem tZero4 : tZero Try.prog 4 = some [.bool false] := by kernel_rfl
theorem tIsBool4 : tIsBool Try.prog 4 = true := by kernel_rfl
theorem tAgg5 : tAgg Try.prog 5 = some false := by kernel_rfl
theorem tSz5 : tSz Try.prog 5 = some 1 := by kernel_rfl
theorem tBytes5 : tBytes Try.prog 5 = some 1 := by kernel_rfl
theorem tZero5 : tZero Try.prog 5 = some [.int .u8 0] := by kernel_rfl
theorem tInt5 : tInt Try.prog 5 = some .u8 := by kernel_rfl
theorem tAgg7 : tAgg Try.prog 7 = some true := by kernel_rfl
theorem tSz7 : tSz Try.prog 7 = some 4 := by kernel_rfl
theorem tBytes7 : tBytes Try.prog 7 = some 24 := by kernel_rfl
theorem tZero7 : tZero Try.prog 7 = some [.int .i64 0, .int .i64 0, .bool false, .int .u8 0] := by kernel_rfl
theorem tPlaces7 : tPlaces Try.prog 7 = some [(0, 1), (1, 1), (2, 1), (3, 1)] := by kernel_rfl
theorem tFld7_0 : tFld Try.prog 7 0 = some (0, 2) := by kernel_rfl
theorem tFld7_1 : tFld Try.prog 7 1 = some (1, 3) := by kernel_rfl
theorem tFld7_2 : tFld Try.prog 7 2 = some (2, 4) := by kernel_rfl
theorem tFld7_3 : tFld Try.prog 7 3 = some (3, 6) := by kernel_rfl
theorem tGuard7 : Try.prog.eqGuardType Try.prog.depth 7 = false := by kernel_rfl
theorem tAgg9 : tAgg Try.prog 9 = some false := by kernel_rfl
theorem tSz9 : tSz Try.prog 9 = some 1 := by kernel_rfl
theorem tBytes9 : tBytes Try.prog 9 = some 16 := by kernel_rfl
theorem tZero9 : tZero Try.prog 9 = some [.str []] := by kernel_rfl
theorem tAgg12 : tAgg Try.prog 12 = some false := by kernel_rfl
theorem tSz12 : tSz Try.prog 12 = some 1 := by kernel_rfl
theorem tBytes12 : tBytes Try.prog 12 = some 8 := by kernel_rfl
theorem tZero12 : tZero Try.prog 12 = some [.int .u64 0] := by kernel_rfl
theorem tInt12 : tInt Try.prog 12 = some .u64 := by kernel_rfl
theorem tAgg13 : tAgg Try.prog 13 = some true := by kernel_rfl
theorem tSz13 : tSz Try.prog 13 = some 2 := by kernel_rfl
theorem tBytes13 : tBytes Try.prog 13 = some 24 := by kernel_rfl
theorem tZero13 : tZero Try.prog 13 = some [.str [], .int .u64 0] := by kernel_rfl
theorem tPlaces13 : tPlaces Try.prog 13 = some [(0, 1), (1, 1)] := by kernel_rfl
theorem tFld13_0 : tFld Try.prog 13 0 = some (0, 9) := by kernel_rfl
theorem tFld13_1 : tFld Try.prog 13 1 = some (1, 12) := by kernel_rfl
theorem tGuard13 : Try.prog.eqGuardType Try.prog.depth 13 = false := by kernel_rfl
theorem tAgg17 : tAgg Try.prog 17 = some false := by kernel_rfl
theorem tSz17 : tSz Try.prog 17 = some 1 := by kernel_rfl
theorem tBytes17 : tBytes Try.prog 17 = some 8 := by kernel_rfl
theorem tZero17 : tZero Try.prog 17 = some [.ptr none] := by kernel_rfl
theorem tAgg18 : tAgg Try.prog 18 = some true := by kernel_rfl
theorem tSz18 : tSz Try.prog 18 = some 1 := by kernel_rfl
theorem tBytes18 : tBytes Try.prog 18 = some 8 := by kernel_rfl
theorem tZero18 : tZero Try.prog 18 = some [.ptr none] := by kernel_rfl
theorem tPlaces18 : tPlaces Try.prog 18 = some [(0, 1)] := by kernel_rfl
theorem tFld18_0 : tFld Try.prog 18 0 = some (0, 17) := by kernel_rfl
theorem tGuard18 : Try.prog.eqGuardType Try.prog.depth 18 = false := by kernel_rfl
theorem tAgg21 : tAgg Try.prog 21 = some false := by kernel_rfl
theorem tSz21 : tSz Try.prog 21 = some 1 := by kernel_rfl
theorem tBytes21 : tBytes Try.prog 21 = some 4 := by kernel_rfl
theorem tZero21 : tZero Try.prog 21 = some [.int .i32 0] := by kernel_rfl
theorem tInt21 : tInt Try.prog 21 = some .i32 := by kernel_rfl
theorem tAgg22 : tAgg Try.prog 22 = some false := by kernel_rfl
theorem tSz22 : tSz Try.prog 22 = some 1 := by kernel_rfl
theorem tBytes22 : tBytes Try.prog 22 = some 24 := by kernel_rfl
theorem tZero22 : tZero Try.prog 22 = some [.sl none 0 (some 0)] := by kernel_rfl
theorem tElem22 : tElem Try.prog 22 = some 5 := by kernel_rfl
theorem tIsSlice22 : tIsSlice Try.prog 22 = true := by kernel_rfl
theorem tAgg23 : tAgg Try.prog 23 = some true := by kernel_rfl
theorem tSz23 : tSz Try.prog 23 = some 3 := by kernel_rfl
theorem tBytes23 : tBytes Try.prog 23 = some 40 := by kernel_rfl
theorem tZero23 : tZero Try.prog 23 = some [.int .i64 0, .int .i64 0, .sl none 0 (some 0)] := by kernel_rfl
theorem tPlaces23 : tPlaces Try.prog 23 = some [(0, 1), (1, 1), (2, 1)] := by kernel_rfl
theorem tFld23_0 : tFld Try.prog 23 0 = some (0, 3) := by kernel_rfl
theorem tFld23_1 : tFld Try.prog 23 1 = some (1, 3) := by kernel_rfl
theorem tFld23_2 : tFld Try.prog 23 2 = some (2, 22) := by kernel_rfl
theorem tGuard23 : Try.prog.eqGuardType Try.prog.depth 23 = false := by kernel_rfl
theorem tAgg24 : tAgg Try.prog 24 = some true := by kernel_rfl
theorem tSz24 : tSz Try.prog 24 = some 3 := by kernel_rfl
theorem tBytes24 : tBytes Try.prog 24 = some 40 := by kernel_rfl
theorem tZero24 : tZero Try.prog 24 = some [.int .i64 0, .int .i64 0, .sl none 0 (some 0)] := by kernel_rfl
theorem tPlaces24 : tPlaces Try.prog 24 = some [(0, 1), (1, 1), (2, 1)] := by kernel_rfl
theorem tFld24_0 : tFld Try.prog 24 0 = some (0, 3) := by kernel_rfl
theorem tFld24_1 : tFld Try.prog 24 1 = some (1, 3) := by kernel_rfl
theorem tFld24_2 : tFld Try.prog 24 2 = some (2, 22) := by kernel_rfl
theorem tGuard24 : Try.prog.eqGuardType Try.prog.depth 24 = false := by kernel_rfl
theorem tAgg27 : tAgg Try.prog 27 = some false := by kernel_rfl
theorem tSz27 : tSz Try.prog 27 = some 1 := by kernel_rfl
theorem tBytes27 : tBytes Try.prog 27 = some 24 := by kernel_rfl
theorem tZero27 : tZero Try.prog 27 = some [.sl none 0 (some 0)] := by kernel_rfl
theorem tElem27 : tElem Try.prog 27 = some 38 := by kernel_rfl
theorem tIsSlice27 : tIsSlice Try.prog 27 = true := by kernel_rfl
theorem tAgg28 : tAgg Try.prog 28 = some false := by kernel_rfl
theorem tSz28 : tSz Try.prog 28 = some 1 := by kernel_rfl
theorem tBytes28 : tBytes Try.prog 28 = some 8 := by kernel_rfl
theorem tZero28 : tZero Try.prog 28 = some [.int .i64 0] := by kernel_rfl
theorem tInt28 : tInt Try.prog 28 = some .i64 := by kernel_rfl
theorem tAgg33 : tAgg Try.prog 33 = some false := by kernel_rfl
theorem tSz33 : tSz Try.prog 33 = some 1 := by kernel_rfl
theorem tBytes33 : tBytes Try.prog 33 = some 24 := by kernel_rfl
theorem tZero33 : tZero Try.prog 33 = some [.sl none 0 (some 0)] := by kernel_rfl
theorem tElem33 : tElem Try.prog 33 = some 27 := by kernel_rfl
theorem tIsSlice33 : tIsSlice Try.prog 33 = true := by kernel_rfl
theorem tAgg36 : tAgg Try.prog 36 = some false := by kernel_rfl
theorem tSz36 : tSz Try.prog 36 = some 1 := by kernel_rfl
theorem tBytes36 : tBytes Try.prog 36 = some 24 := by kernel_rfl
theorem tZero36 : tZero Try.prog 36 = some [.sl none 0 (some 0)] := by kernel_rfl
theorem tElem36 : tElem Try.prog 36 = some 3 := by kernel_rfl
theorem tIsSlice36 : tIsSlice Try.prog 36 = true := by kernel_rfl
theorem tAgg37 : tAgg Try.prog 37 = some true := by kernel_rfl
theorem tSz37 : tSz Try.prog 37 = some 2 := by kernel_rfl
theorem tBytes37 : tBytes Try.prog 37 = some 16 := by kernel_rfl
theorem tZero37 : tZero Try.prog 37 = some [.int .i64 0, .int .i64 0] := by kernel_rfl
theorem tPlaces37 : tPlaces Try.prog 37 = some [(0, 1), (1, 1)] := by kernel_rfl
theorem tFld37_0 : tFld Try.prog 37 0 = some (0, 3) := by kernel_rfl
theorem tFld37_1 : tFld Try.prog 37 1 = some (1, 3) := by kernel_rfl
theorem tGuard37 : Try.prog.eqGuardType Try.prog.depth 37 = false := by kernel_rfl
theorem tEq37 (a0 a1 b0 b1 : Int) : aEq Try.prog 20 37 [.int .i64 a0, .int .i64 a1] [.int .i64 b0, .int .i64 b1] = some ((a0 == b0) && ((a1 == b1) && true)) := by kernel_rfl
theorem tAgg38 : tAgg Try.prog 38 = some true := by kernel_rfl
theorem tSz38 : tSz Try.prog 38 = some 2 := by kernel_rfl
theorem tBytes38 : tBytes Try.prog 38 = some 16 := by kernel_rfl
theorem tZero38 : tZero Try.prog 38 = some [.int .i64 0, .int .i64 0] := by kernel_rfl
theorem tPlaces38 : tPlaces Try.prog 38 = some [(0, 1), (1, 1)] := by kernel_rfl
theorem tFld38_0 : tFld Try.prog 38 0 = some (0, 3) := by kernel_rfl
theorem tFld38_1 : tFld Try.prog 38 1 = some (1, 3) := by kernel_rfl
theorem tGuard38 : Try.prog.eqGuardType Try.prog.depth 38 = false := by kernel_rfl
theorem tEq38 (a0 a1 b0 b1 : Int) : aEq Try.prog 20 38 [.int .i64 a0, .int .i64 a1] [.int .i64 b0, .int .i64 b1] = some ((a0 == b0) && ((a1 == b1) && true)) := by kernel_rfl
theorem tAgg41 : tAgg Try.prog 41 = some false := by kernel_rfl
theorem tSz41 : tSz Try.prog 41 = some 1 := by kernel_rfl
theorem tBytes41 : tBytes Try.prog 41 = some 24 := by kernel_rfl
theorem tZero41 : tZero Try.prog 41 = some [.sl none 0 (some 0)] := by kernel_rfl
theorem tElem41 : tElem Try.prog 41 = some 47 := by kernel_rfl
theorem tIsSlice41 : tIsSlice Try.prog 41 = true := by kernel_rfl
theorem tAgg46 : tAgg Try.prog 46 = some true := by kernel_rfl
theorem tSz46 : tSz Try.prog 46 = some 4 := by kernel_rfl
theorem tBytes46 : tBytes Try.prog 46 = some 32 := by kernel_rfl
theorem tZero46 : tZero Try.prog 46 = some [.int .i64 0, .int .i64 0, .int .i64 0, .int .i64 0] := by kernel_rfl
theorem tPlaces46 : tPlaces Try.prog 46 = some [(0, 2), (2, 1), (3, 1)] := by kernel_rfl
theorem tFld46_0 : tFld Try.prog 46 0 = some (0, 38) := by kernel_rfl
theorem tFld46_1 : tFld Try.prog 46 1 = some (2, 3) := by kernel_rfl
theorem tFld46_2 : tFld Try.prog 46 2 = some (3, 3) := by kernel_rfl
theorem tGuard46 : Try.prog.eqGuardType Try.prog.depth 46 = false := by kernel_rfl
theorem tEq46 (a0 a1 a2 a3 b0 b1 b2 b3 : Int) : aEq Try.prog 20 46 [.int .i64 a0, .int .i64 a1, .int .i64 a2, .int .i64 a3] [.int .i64 b0, .int .i64 b1, .int .i64 b2, .int .i64 b3] = some (((a0 == b0) && ((a1 == b1) && true)) && ((a2 == b2) && ((a3 == b3) && true))) := by kernel_rfl
theorem tAgg47 : tAgg Try.prog 47 = some true := by kernel_rfl
theorem tSz47 : tSz Try.prog 47 = some 4 := by kernel_rfl
theorem tBytes47 : tBytes Try.prog 47 = some 32 := by kernel_rfl
theorem tZero47 : tZero Try.prog 47 = some [.int .i64 0, .int .i64 0, .int .i64 0, .int .i64 0] := by kernel_rfl
theorem tPlaces47 : tPlaces Try.prog 47 = some [(0, 2), (2, 1), (3, 1)] := by kernel_rfl
theorem tFld47_0 : tFld Try.prog 47 0 = some (0, 38) := by kernel_rfl
theorem tFld47_1 : tFld Try.prog 47 1 = some (2, 3) := by kernel_rfl
theorem tFld47_2 : tFld Try.prog 47 2 = some (3, 3) := by kernel_rfl
theorem tGuard47 : Try.prog.eqGuardType Try.prog.depth 47 = false := by kernel_rfl
theorem tEq47 (a0 a1 a2 a3 b0 b1 b2 b3 : Int) : aEq Try.prog 20 47 [.int .i64 a0, .int .i64 a1, .int .i64 a2, .int .i64 a3] [.int .i64 b0, .int .i64 b1, .int .i64 b2, .int .i64 b3] = some (((a0 == b0) && ((a1 == b1) && true)) && ((a2 == b2) && ((a3 == b3) && true))) := by kernel_rfl
theorem tAgg58 : tAgg Try.prog 58 = some false := by kernel_rfl
theorem tSz58 : tSz Try.prog 58 = some 1 := by kernel_rfl
theorem tBytes58 : tBytes Try.prog 58 = some 8 := by kernel_rfl
theorem tZero58 : tZero Try.prog 58 = some [.mp none] := by kernel_rfl
theorem tMap58 : tMap Try.prog 58 = some (38, 4) := by kernel_rfl
theorem tElem58 : tElem Try.prog 58 = none := by kernel_rfl
theorem tZeroOk58_ : tZeroOk Try.prog 4 = true := by kernel_rfl
theorem tAgg72 : tAgg Try.prog 72 = some true := by kernel_rfl
theorem tSz72 : tSz Try.prog 72 = some 16 := by kernel_rfl
theorem tBytes72 : tBytes Try.prog 72 = some 128 := by kernel_rfl
theorem tZero72 : tZero Try.prog 72 = some [.int .i64 0, .int .i64 0, .int .i64 0, .int .i64 0, .int .i64 0, .int .i64 0, .int .i64 0, .int .i64 0, .int .i64 0, .int .i64 0, .int .i64 0, .int .i64 0, .int .i64 0, .int .i64 0, .int .i64 0, .int .i64 0] := by kernel_rfl
theorem tIdx72 : tIdx Try.prog 72 = some (some 8, 38) := by kernel_rfl
theorem tPlaces72 : tPlaces Try.prog 72 = some [(0, 2), (2, 2), (4, 2), (6, 2), (8, 2), (10, 2), (12, 2), (14, 2)] := by kernel_rfl
theorem tAgg82 : tAgg Try.prog 82 = some false := by kernel_rfl
theorem tSz82 : tSz Try.prog 82 = some 1 := by kernel_rfl
theorem tBytes82 : tBytes Try.prog 82 = some 8 := by kernel_rfl
theorem tZero82 : tZero Try.prog 82 = some [.int .u64 0] := by kernel_rfl
theorem tInt82 : tInt Try.prog 82 = some .u64 := by kernel_rfl
theorem tAgg87 : tAgg Try.prog 87 = some true := by kernel_rfl
theorem tSz87 : tSz Try.prog 87 = some 3 := by kernel_rfl
theorem tBytes87 : tBytes Try.prog 87 = some 24 := by kernel_rfl
theorem tZero87 : tZero Try.prog 87 = some [.int .i64 0, .int .i64 0, .int .i64 0] := by kernel_rfl
theorem tPlaces87 : tPlaces Try.prog 87 = some [(0, 2), (2, 1)] := by kernel_rfl
theorem tFld87_0 : tFld Try.prog 87 0 = some (0, 38) := by kernel_rfl
theorem tFld87_1 : tFld Try.prog 87 1 = some (2, 3) := by kernel_rfl
theorem tGuard87 : Try.prog.eqGuardType Try.prog.depth 87 = false := by kernel_rfl
theorem tEq87 (a0 a1 a2 b0 b1 b2 : Int) : aEq Try.prog 20 87 [.int .i64 a0, .int .i64 a1, .int .i64 a2] [.int .i64 b0, .int .i64 b1, .int .i64 b2] = some (((a0 == b0) && ((a1 == b1) && true)) && ((a2 == b2) && true)) := by kernel_rfl
theorem tAgg88 : tAgg Try.prog 88 = some true := by kernel_rfl
theorem tSz88 : tSz Try.prog 88 = some 3 := by kernel_rfl
theorem tBytes88 : tBytes Try.prog 88 = some 24 := by kernel_rfl
theorem tZero88 : tZero Try.prog 88 = some [.int .i64 0, .int .i64 0, .int .i64 0] := by kernel_rfl
theorem tPlaces88 : tPlaces Try.prog 88 = some [(0, 2), (2, 1)] := by kernel_rfl
theorem tFld88_0 : tFld Try.prog 88 0 = some (0, 38) := by kernel_rfl
theorem tFld88_1 : tFld Try.prog 88 1 = some (2, 3) := by kernel_rfl
theorem tGuard88 : Try.prog.eqGuardType Try.prog.depth 88 = false := by kernel_rfl
theorem tEq88 (a0 a1 a2 b0 b1 b2 : Int) : aEq Try.prog 20 88 [.int .i64 a0, .int .i64 a1, .int .i64 a2] [.int .i64 b0, .int .i64 b1, .int .i64 b2] = some (((a0 == b0) && ((a1 == b1) && true)) && ((a2 == b2) && true)) := by kernel_rfl
theorem tAgg89 : tAgg Try.prog 89 = some false := by kernel_rfl
theorem tSz89 : tSz Try.prog 89 = some 1 := by kernel_rfl
theorem tBytes89 : tBytes Try.prog 89 = some 24 := by kernel_rfl
theorem tZero89 : tZero Try.prog 89 = some [.sl none 0 (some 0)] := by kernel_rfl
theorem tElem89 : tElem Try.prog 89 = some 88 := by kernel_rfl
theorem tIsSlice89 : tIsSlice Try.prog 89 = true := by kernel_rfl
theorem tAgg90 : tAgg Try.prog 90 = some false := by kernel_rfl
theorem tSz90 : tSz Try.prog 90 = some 1 := by kernel_rfl
theorem tBytes90 : tBytes Try.prog 90 = some 24 := by kernel_rfl
theorem tZero90 : tZero Try.prog 90 = some [.sl none 0 (some 0)] := by kernel_rfl
theorem tElem90 : tElem Try.prog 90 = some 88 := by kernel_rfl
theorem tIsSlice90 : tIsSlice Try.prog 90 = true := by kernel_rfl
theorem tAgg92 : tAgg Try.prog 92 = some false := by kernel_rfl
theorem tSz92 : tSz Try.prog 92 = some 1 := by kernel_rfl
theorem tBytes92 : tBytes Try.prog 92 = some 8 := by kernel_rfl
theorem tZero92 : tZero Try.prog 92 = some [.ptr none] := by kernel_rfl
theorem tAgg95 : tAgg Try.prog 95 = some false := by kernel_rfl
theorem tSz95 : tSz Try.prog 95 = some 1 := by kernel_rfl
theorem tBytes95 : tBytes Try.prog 95 = some 8 := by kernel_rfl
theorem tZero95 : tZero Try.prog 95 = some [.int .i64 0] := by kernel_rfl
theorem tInt95 : tInt Try.prog 95 = some .i64 := by kernel_rfl
theorem tAgg103 : tAgg Try.prog 103 = some false := by kernel_rfl
theorem tSz103 : tSz Try.prog 103 = some 1 := by kernel_rfl
theorem tBytes103 : tBytes Try.prog 103 = some 4 := by kernel_rfl
theorem tZero103 : tZero Try.prog 103 = some [.int .u32 0] := by kernel_rfl
theorem tInt103 : tInt Try.prog 103 = some .u32 := by kernel_rfl
theorem tAgg105 : tAgg Try.prog 105 = some false := by kernel_rfl
theorem tSz105 : tSz Try.prog 105 = some 1 := by kernel_rfl
theorem tBytes105 : tBytes Try.prog 105 = some 8 := by kernel_rfl
theorem tZero105 : tZero Try.prog 105 = some [.int .u64 0] := by kernel_rfl
theorem tInt105 : tInt Try.prog 105 = some .u64 := by kernel_rfl
theorem tAgg113 : tAgg Try.prog 113 = some false := by kernel_rfl
theorem tSz113 : tSz Try.prog 113 = some 1 := by kernel_rfl
theorem tBytes113 : tBytes Try.prog 113 = some 8 := by kernel_rfl
theorem tZero113 : tZero Try.prog 113 = some [.ptr none] := by kernel_rfl
theorem tAgg114 : tAgg Try.prog 114 = some true := by kernel_rfl
theorem tSz114 : tSz Try.prog 114 = some 2 := by kernel_rfl
theorem tBytes114 : tBytes Try.prog 114 = some 16 := by kernel_rfl
theorem tZero114 : tZero Try.prog 114 = some [.int .i64 0, .int .i64 0] := by kernel_rfl
theorem tIdx114 : tIdx Try.prog 114 = some (some 2, 3) := by kernel_rfl
theorem tPlaces114 : tPlaces Try.prog 114 = some [(0, 1), (1, 1)] := by kernel_rfl
theorem tAgg115 : tAgg Try.prog 115 = some false := by kernel_rfl
theorem tSz115 : tSz Try.prog 115 = some 1 := by kernel_rfl
theorem tBytes115 : tBytes Try.prog 115 = some 8 := by kernel_rfl
theorem tZero115 : tZero Try.prog 115 = some [.int .u64 0] := by kernel_rfl
theorem tInt115 : tInt Try.prog 115 = some .u64 := by kernel_rfl
theorem tAgg126 : tAgg Try.prog 126 = some false := by kernel_rfl
theorem tSz126 : tSz Try.prog 126 = some 1 := by kernel_rfl
theorem tBytes126 : tBytes Try.prog 126 = some 8 := by kernel_rfl
theorem tZero126 : tZero Try.prog 126 = some [.ptr none] := by kernel_rfl
theorem tAgg131 : tAgg Try.prog 131 = some true := by kernel_rfl
theorem tSz131 : tSz Try.prog 131 = some 4 := by kernel_rfl
theorem tBytes131 : tBytes Try.prog 131 = some 40 := by kernel_rfl
theorem tZero131 : tZero Try.prog 131 = some [.ptr none, .ptr none, .ptr none, .str []] := by kernel_rfl
theorem tPlaces131 : tPlaces Try.prog 131 = some [(0, 1), (1, 1), (2, 1), (3, 1)] := by kernel_rfl
theorem tFld131_0 : tFld Try.prog 131 0 = some (0, 17) := by kernel_rfl
theorem tFld131_1 : tFld Try.prog 131 1 = some (1, 17) := by kernel_rfl
theorem tFld131_2 : tFld Try.prog 131 2 = some (2, 17) := by kernel_rfl
theorem tFld131_3 : tFld Try.prog 131 3 = some (3, 9) := by kernel_rfl
theorem tGuard131 : Try.prog.eqGuardType Try.prog.depth 131 = false := by kernel_rfl
theorem tAgg140 : tAgg Try.prog 140 = some false := by kernel_rfl
theorem tSz140 : tSz Try.prog 140 = some 1 := by kernel_rfl
theorem tBytes140 : tBytes Try.prog 140 = some 8 := by kernel_rfl
theorem tZero140 : tZero Try.prog 140 = some [.ptr none] := by kernel_rfl
theorem tAgg143 : tAgg Try.prog 143 = some true := by kernel_rfl
theorem tSz143 : tSz Try.prog 143 = some 11 := by kernel_rfl
theorem tBytes143 : tBytes Try.prog 143 = some 48 := by kernel_rfl
theorem tZero143 : tZero Try.prog 143 = some [.int .u64 0, .int .u64 0, .int .u32 0, .int .u8 0, .int .u8 0, .int .u8 0, .int .u8 0, .nilfn, .ptr none, .int .i32 0, .int .i32 0] := by kernel_rfl
theorem tPlaces143 : tPlaces Try.prog 143 = some [(0, 1), (1, 1), (2, 1), (3, 1), (4, 1), (5, 1), (6, 1), (7, 1), (8, 1), (9, 1), (10, 1)] := by kernel_rfl
theorem tFld143_0 : tFld Try.prog 143 0 = some (0, 12) := by kernel_rfl
theorem tFld143_1 : tFld Try.prog 143 1 = some (1, 12) := by kernel_rfl
theorem tFld143_2 : tFld Try.prog 143 2 = some (2, 103) := by kernel_rfl
theorem tFld143_3 : tFld Try.prog 143 3 = some (3, 137) := by kernel_rfl
theorem tFld143_4 : tFld Try.prog 143 4 = some (4, 5) := by kernel_rfl
theorem tFld143_5 : tFld Try.prog 143 5 = some (5, 5) := by kernel_rfl
theorem tFld143_6 : tFld Try.prog 143 6 = some (6, 138) := by kernel_rfl
theorem tFld143_7 : tFld Try.prog 143 7 = some (7, 139) := by kernel_rfl
theorem tFld143_8 : tFld Try.prog 143 8 = some (8, 140) := by kernel_rfl
theorem tFld143_9 : tFld Try.prog 143 9 = some (9, 141) := by kernel_rfl
theorem tFld143_10 : tFld Try.prog 143 10 = some (10, 142) := by kernel_rfl
theorem tGuard143 : Try.prog.eqGuardType Try.prog.depth 143 = false := by kernel_rfl
theorem tyset0 : type_of% (And.intro (@tAgg2) <| And.intro (@tSz2) <| And.intro (@tBytes2) <| And.intro (@tZero2) <| And.intro (@tInt2) <| And.intro (@tAgg3) <| And.intro (@tSz3) <| And.intro (@tBytes3) <| And.intro (@tZero3) <| And.intro (@tInt3) <| And.intro (@tAgg4) <| And.intro (@tSz4) <| And.intro (@tBytes4) <| And.intro (@tZero4) <| And.intro (@tIsBool4) <| And.intro (@tAgg5) <| And.intro (@tSz5) <| And.intro (@tBytes5) <| And.intro (@tZero5) <| And.intro (@tInt5) <| And.intro (@tAgg7) <| And.intro (@tSz7) <| And.intro (@tBytes7) <| (@tZero7)) :=
  And.intro (@tAgg2) <| And.intro (@tSz2) <| And.intro (@tBytes2) <| And.intro (@tZero2) <| And.intro (@tInt2) <| And.intro (@tAgg3) <| And.intro (@tSz3) <| And.intro (@tBytes3) <| And.intro (@tZero3) <| And.intro (@tInt3) <| And.intro (@tAgg4) <| And.intro (@tSz4) <| And.intro (@tBytes4) <| And.intro (@tZero4) <| And.intro (@tIsBool4) <| And.intro (@tAgg5) <| And.intro (@tSz5) <| And.intro (@tBytes5) <| And.intro (@tZero5) <| And.intro (@tInt5) <| And.intro (@tAgg7) <| And.intro (@tSz7) <| And.intro (@tBytes7) <| (@tZero7)
theorem tyset1 : type_of% (And.intro (@tPlaces7) <| And.intro (@tFld7_0) <| And.intro (@tFld7_1) <| And.intro (@tFld7_2) <| And.intro (@tFld7_3) <| And.intro (@tGuard7) <| And.intro (@tAgg9) <| And.intro (@tSz9) <| And.intro (@tBytes9) <| And.intro (@tZero9) <| And.intro (@tAgg12) <| And.intro (@tSz12) <| And.intro (@tBytes12) <| And.intro (@tZero12) <| And.intro (@tInt12) <| And.intro (@tAgg13) <| And.intro (@tSz13) <| And.intro (@tBytes13) <| And.intro (@tZero13) <| And.intro (@tPlaces13) <| And.intro (@tFld13_0) <| And.intro (@tFld13_1) <| And.intro (@tGuard13) <| (@tAgg17)) :=
  And.intro (@tPlaces7) <| And.intro (@tFld7_0) <| And.intro (@tFld7_1) <| And.intro (@tFld7_2) <| And.intro (@tFld7_3) <| And.intro (@tGuard7) <| And.intro (@tAgg9) <| And.intro (@tSz9) <| And.intro (@tBytes9) <| And.intro (@tZero9) <| And.intro (@tAgg12) <| And.intro (@tSz12) <| And.intro (@tBytes12) <| And.intro (@tZero12) <| And.intro (@tInt12) <| And.intro (@tAgg13) <| And.intro (@tSz13) <| And.intro (@tBytes13) <| And.intro (@tZero13) <| And.intro (@tPlaces13) <| And.intro (@tFld13_0) <| And.intro (@tFld13_1) <| And.intro (@tGuard13) <| (@tAgg17)
theorem tyset2 : type_of% (And.intro (@tSz17) <| And.intro (@tBytes17) <| And.intro (@tZero17) <| And.intro (@tAgg18) <| And.intro (@tSz18) <| And.intro (@tBytes18) <| And.intro (@tZero18) <| And.intro (@tPlaces18) <| And.intro (@tFld18_0) <| And.intro (@tGuard18) <| And.intro (@tAgg21) <| And.intro (@tSz21) <| And.intro (@tBytes21) <| And.intro (@tZero21) <| And.intro (@tInt21) <| And.intro (@tAgg22) <| And.intro (@tSz22) <| And.intro (@tBytes22) <| And.intro (@tZero22) <| And.intro (@tElem22) <| And.intro (@tIsSlice22) <| And.intro (@tAgg23) <| And.intro (@tSz23) <| (@tBytes23)) :=
  And.intro (@tSz17) <| And.intro (@tBytes17) <| And.intro (@tZero17) <| And.intro (@tAgg18) <| And.intro (@tSz18) <| And.intro (@tBytes18) <| And.intro (@tZero18) <| And.intro (@tPlaces18) <| And.intro (@tFld18_0) <| And.intro (@tGuard18) <| And.intro (@tAgg21) <| And.intro (@tSz21) <| And.intro (@tBytes21) <| And.intro (@tZero21) <| And.intro (@tInt21) <| And.intro (@tAgg22) <| And.intro (@tSz22) <| And.intro (@tBytes22) <| And.intro (@tZero22) <| And.intro (@tElem22) <| And.intro (@tIsSlice22) <| And.intro (@tAgg23) <| And.intro (@tSz23) <| (@tBytes23)
theorem tyset3 : type_of% (And.intro (@tZero23) <| And.intro (@tPlaces23) <| And.intro (@tFld23_0) <| And.intro (@tFld23_1) <| And.intro (@tFld23_2) <| And.intro (@tGuard23) <| And.intro (@tAgg24) <| And.intro (@tSz24) <| And.intro (@tBytes24) <| And.intro (@tZero24) <| And.intro (@tPlaces24) <| And.intro (@tFld24_0) <| And.intro (@tFld24_1) <| And.intro (@tFld24_2) <| And.intro (@tGuard24) <| And.intro (@tAgg27) <| And.intro (@tSz27) <| And.intro (@tBytes27) <| And.intro (@tZero27) <| And.intro (@tElem27) <| And.intro (@tIsSlice27) <| And.intro (@tAgg28) <| And.intro (@tSz28) <| (@tBytes28)) :=
  And.intro (@tZero23) <| And.intro (@tPlaces23) <| And.intro (@tFld23_0) <| And.intro (@tFld23_1) <| And.intro (@tFld23_2) <| And.intro (@tGuard23) <| And.intro (@tAgg24) <| And.intro (@tSz24) <| And.intro (@tBytes24) <| And.intro (@tZero24) <| And.intro (@tPlaces24) <| And.intro (@tFld24_0) <| And.intro (@tFld24_1) <| And.intro (@tFld24_2) <| And.intro (@tGuard24) <| And.intro (@tAgg27) <| And.intro (@tSz27) <| And.intro (@tBytes27) <| And.intro (@tZero27) <| And.intro (@tElem27) <| And.intro (@tIsSlice27) <| And.intro (@tAgg28) <| And.intro (@tSz28) <| (@tBytes28)
theorem tyset4 : type_of% (And.intro (@tZero28) <| And.intro (@tInt28) <| And.intro (@tAgg33) <| And.intro (@tSz33) <| And.intro (@tBytes33) <| And.intro (@tZero33) <| And.intro (@tElem33) <| And.intro (@tIsSlice33) <| And.intro (@tAgg36) <| And.intro (@tSz36) <| And.intro (@tBytes36) <| And.intro (@tZero36) <| And.intro (@tElem36) <| And.intro (@tIsSlice36) <| And.intro (@tAgg37) <| And.intro (@tSz37) <| And.intro (@tBytes37) <| And.intro (@tZero37) <| And.intro (@tPlaces37) <| And.intro (@tFld37_0) <| And.intro (@tFld37_1) <| And.intro (@tGuard37) <| And.intro (@tEq37) <| (@tAgg38)) :=
  And.intro (@tZero28) <| And.intro (@tInt28) <| And.intro (@tAgg33) <| And.intro (@tSz33) <| And.intro (@tBytes33) <| And.intro (@tZero33) <| And.intro (@tElem33) <| And.intro (@tIsSlice33) <| And.intro (@tAgg36) <| And.intro (@tSz36) <| And.intro (@tBytes36) <| And.intro (@tZero36) <| And.intro (@tElem36) <| And.intro (@tIsSlice36) <| And.intro (@tAgg37) <| And.intro (@tSz37) <| And.intro (@tBytes37) <| And.intro (@tZero37) <| And.intro (@tPlaces37) <| And.intro (@tFld37_0) <| And.intro (@tFld37_1) <| And.intro (@tGuard37) <| And.intro (@tEq37) <| (@tAgg38)
theorem tyset5 : type_of% (And.intro (@tSz38) <| And.intro (@tBytes38) <| And.intro (@tZero38) <| And.intro (@tPlaces38) <| And.intro (@tFld38_0) <| And.intro (@tFld38_1) <| And.intro (@tGuard38) <| And.intro (@tEq38) <| And.intro (@tAgg41) <| And.intro (@tSz41) <| And.intro (@tBytes41) <| And.intro (@tZero41) <| And.intro (@tElem41) <| And.intro (@tIsSlice41) <| And.intro (@tAgg46) <| And.intro (@tSz46) <| And.intro (@tBytes46) <| And.intro (@tZero46) <| And.intro (@tPlaces46) <| And.intro (@tFld46_0) <| And.intro (@tFld46_1) <| And.intro (@tFld46_2) <| And.intro (@tGuard46) <| (@tEq46)) :=
  And.intro (@tSz38) <| And.intro (@tBytes38) <| And.intro (@tZero38) <| And.intro (@tPlaces38) <| And.intro (@tFld38_0) <| And.intro (@tFld38_1) <| And.intro (@tGuard38) <| And.intro (@tEq38) <| And.intro (@tAgg41) <| And.intro (@tSz41) <| And.intro (@tBytes41) <| And.intro (@tZero41) <| And.intro (@tElem41) <| And.intro (@tIsSlice41) <| And.intro (@tAgg46) <| And.intro (@tSz46) <| And.intro (@tBytes46) <| And.intro (@tZero46) <| And.intro (@tPlaces46) <| And.intro (@tFld46_0) <| And.intro (@tFld46_1) <| And.intro (@tFld46_2) <| And.intro (@tGuard46) <| (@tEq46)
theorem tyset6 : type_of% (And.intro (@tAgg47) <| And.intro (@tSz47) <| And.intro (@tBytes47) <| And.intro (@tZero47) <| And.intro (@tPlaces47) <| And.intro (@tFld47_0) <| And.intro (@tFld47_1) <| And.intro (@tFld47_2) <| And.intro (@tGuard47) <| And.intro (@tEq47) <| And.intro (@tAgg58) <| And.intro (@tSz58) <| And.intro (@tBytes58) <| And.intro (@tZero58) <| And.intro (@tMap58) <| And.intro (@tElem58) <| And.intro (@tZeroOk58_) <| And.intro (@tAgg72) <| And.intro (@tSz72) <| And.intro (@tBytes72) <| And.intro (@tZero72) <| And.intro (@tIdx72) <| And.intro (@tPlaces72) <| (@tAgg82)) :=
  And.intro (@tAgg47) <| And.intro (@tSz47) <| And.intro (@tBytes47) <| And.intro (@tZero47) <| And.intro (@tPlaces47) <| And.intro (@tFld47_0) <| And.intro (@tFld47_1) <| And.intro (@tFld47_2) <| And.intro (@tGuard47) <| And.intro (@tEq47) <| And.intro (@tAgg58) <| And.intro (@tSz58) <| And.intro (@tBytes58) <| And.intro (@tZero58) <| And.intro (@tMap58) <| And.intro (@tElem58) <| And.intro (@tZeroOk58_) <| And.intro (@tAgg72) <| And.intro (@tSz72) <| And.intro (@tBytes72) <| And.intro (@tZero72) <| And.intro (@tIdx72) <| And.intro (@tPlaces72) <| (@tAgg82)
theorem tyset7 : type_of% (And.intro (@tSz82) <| And.intro (@tBytes82) <| And.intro (@tZero82) <| And.intro (@tInt82) <| And.intro (@tAgg87) <| And.intro (@tSz87) <| And.intro (@tBytes87) <| And.intro (@tZero87) <| And.intro (@tPlaces87) <| And.intro (@tFld87_0) <| And.intro (@tFld87_1) <| And.intro (@tGuard87) <| And.intro (@tEq87) <| And.intro (@tAgg88) <| And.intro (@tSz88) <| And.intro (@tBytes88) <| And.intro (@tZero88) <| And.intro (@tPlaces88) <| And.intro (@tFld88_0) <| And.intro (@tFld88_1) <| And.intro (@tGuard88) <| And.intro (@tEq88) <| And.intro (@tAgg89) <| (@tSz89)) :=
  And.intro (@tSz82) <| And.intro (@tBytes82) <| And.intro (@tZero82) <| And.intro (@tInt82) <| And.intro (@tAgg87) <| And.intro (@tSz87) <| And.intro (@tBytes87) <| And.intro (@tZero87) <| And.intro (@tPlaces87) <| And.intro (@tFld87_0) <| And.intro (@tFld87_1) <| And.intro (@tGuard87) <| And.intro (@tEq87) <| And.intro (@tAgg88) <| And.intro (@tSz88) <| And.intro (@tBytes88) <| And.intro (@tZero88) <| And.intro (@tPlaces88) <| And.intro (@tFld88_0) <| And.intro (@tFld88_1) <| And.intro (@tGuard88) <| And.intro (@tEq88) <| And.intro (@tAgg89) <| (@tSz89)
theorem tyset8 : type_of% (And.intro (@tBytes89) <| And.intro (@tZero89) <| And.intro (@tElem89) <| And.intro (@tIsSlice89) <| And.intro (@tAgg90) <| And.intro (@tSz90) <| And.intro (@tBytes90) <| And.intro (@tZero90) <| And.intro (@tElem90) <| And.intro (@tIsSlice90) <| And.intro (@tAgg92) <| And.intro (@tSz92) <| And.intro (@tBytes92) <| And.intro (@tZero92) <| And.intro (@tAgg95) <| And.intro (@tSz95) <| And.intro (@tBytes95) <| And.intro (@tZero95) <| And.intro (@tInt95) <| And.intro (@tAgg103) <| And.intro (@tSz103) <| And.intro (@tBytes103) <| And.intro (@tZero103) <| (@tInt103)) :=
  And.intro (@tBytes89) <| And.intro (@tZero89) <| And.intro (@tElem89) <| And.intro (@tIsSlice89) <| And.intro (@tAgg90) <| And.intro (@tSz90) <| And.intro (@tBytes90) <| And.intro (@tZero90) <| And.intro (@tElem90) <| And.intro (@tIsSlice90) <| And.intro (@tAgg92) <| And.intro (@tSz92) <| And.intro (@tBytes92) <| And.intro (@tZero92) <| And.intro (@tAgg95) <| And.intro (@tSz95) <| And.intro (@tBytes95) <| And.intro (@tZero95) <| And.intro (@tInt95) <| And.intro (@tAgg103) <| And.intro (@tSz103) <| And.intro (@tBytes103) <| And.intro (@tZero103) <| (@tInt103)
theorem tyset9 : type_of% (And.intro (@tAgg105) <| And.intro (@tSz105) <| And.intro (@tBytes105) <| And.intro (@tZero105) <| And.intro (@tInt105) <| And.intro (@tAgg113) <| And.intro (@tSz113) <| And.intro (@tBytes113) <| And.intro (@tZero113) <| And.intro (@tAgg114) <| And.intro (@tSz114) <| And.intro (@tBytes114) <| And.intro (@tZero114) <| And.intro (@tIdx114) <| And.intro (@tPlaces114) <| And.intro (@tAgg115) <| And.intro (@tSz115) <| And.intro (@tBytes115) <| And.intro (@tZero115) <| And.intro (@tInt115) <| And.intro (@tAgg126) <| And.intro (@tSz126) <| And.intro (@tBytes126) <| (@tZero126)) :=
  And.intro (@tAgg105) <| And.intro (@tSz105) <| And.intro (@tBytes105) <| And.intro (@tZero105) <| And.intro (@tInt105) <| And.intro (@tAgg113) <| And.intro (@tSz113) <| And.intro (@tBytes113) <| And.intro (@tZero113) <| And.intro (@tAgg114) <| And.intro (@tSz114) <| And.intro (@tBytes114) <| And.intro (@tZero114) <| And.intro (@tIdx114) <| And.intro (@tPlaces114) <| And.intro (@tAgg115) <| And.intro (@tSz115) <| And.intro (@tBytes115) <| And.intro (@tZero115) <| And.intro (@tInt115) <| And.intro (@tAgg126) <| And.intro (@tSz126) <| And.intro (@tBytes126) <| (@tZero126)
theorem tyset10 : type_of% (And.intro (@tAgg131) <| And.intro (@tSz131) <| And.intro (@tBytes131) <| And.intro (@tZero131) <| And.intro (@tPlaces131) <| And.intro (@tFld131_0) <| And.intro (@tFld131_1) <| And.intro (@tFld131_2) <| And.intro (@tFld131_3) <| And.intro (@tGuard131) <| And.intro (@tAgg140) <| And.intro (@tSz140) <| And.intro (@tBytes140) <| And.intro (@tZero140) <| And.intro (@tAgg143) <| And.intro (@tSz143) <| And.intro (@tBytes143) <| And.intro (@tZero143) <| And.intro (@tPlaces143) <| And.intro (@tFld143_0) <| And.intro (@tFld143_1) <| And.intro (@tFld143_2) <| And.intro (@tFld143_3) <| (@tFld143_4)) :=
  And.intro (@tAgg131) <| And.intro (@tSz131) <| And.intro (@tBytes131) <| And.intro (@tZero131) <| And.intro (@tPlaces131) <| And.intro (@tFld131_0) <| And.intro (@tFld131_1) <| And.intro (@tFld131_2) <| And.intro (@tFld131_3) <| And.intro (@tGuard131) <| And.intro (@tAgg140) <| And.intro (@tSz140) <| And.intro (@tBytes140) <| And.intro (@tZero140) <| And.intro (@tAgg143) <| And.intro (@tSz143) <| And.intro (@tBytes143) <| And.intro (@tZero143) <| And.intro (@tPlaces143) <| And.intro (@tFld143_0) <| And.intro (@tFld143_1) <| And.intro (@tFld143_2) <| And.intro (@tFld143_3) <| (@tFld143_4)
theorem tyset11 : type_of% (And.intro (@tFld143_5) <| And.intro (@tFld143_6) <| And.intro (@tFld143_7) <| And.intro (@tFld143_8) <| And.intro (@tFld143_9) <| And.intro (@tFld143_10) <| (@tGuard143)) :=
  And.intro (@tFld143_5) <| And.intro (@tFld143_6) <| And.intro (@tFld143_7) <| And.intro (@tFld143_8) <| And.intro (@tFld143_9) <| And.intro (@tFld143_10) <| (@tGuard143)
theorem tyset : type_of% (And.intro (@tyset0) <| And.intro (@tyset1) <| And.intro (@tyset2) <| And.intro (@tyset3) <| And.intro (@tyset4) <| And.intro (@tyset5) <| And.intro (@tyset6) <| And.intro (@tyset7) <| And.intro (@tyset8) <| And.intro (@tyset9) <| And.intro (@tyset10) <| (@tyset11)) :=
  And.intro (@tyset0) <| And.intro (@tyset1) <| And.intro (@tyset2) <| And.intro (@tyset3) <| And.intro (@tyset4) <| And.intro (@tyset5) <| And.intro (@tyset6) <| And.intro (@tyset7) <| And.intro (@tyset8) <| And.intro (@tyset9) <| And.intro (@tyset10) <| (@tyset11)

end Go.Proofs.Ytloblgkjgcemoaa
