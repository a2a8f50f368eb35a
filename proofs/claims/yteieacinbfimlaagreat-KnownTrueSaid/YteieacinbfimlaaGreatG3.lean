/- Parts of the proof: walks and plain facts. Conditions: as each theorem states. -/
import Derived.Test.YteieacinbfimlaaGreatG2
import Derived.Test.YteieacinbfimlaaGreatRows
import Derived.Test.YteieacinbfimlaaGreatG1
import Derived.ProofKit
import Derived.OpenShut
import Derived.ShutString
import Derived.ChangeOld
import Derived.Lib.SmallJoins
import Derived.Shelf.Small.Bits
import Derived.Shelf.Strconv.Itoa0
import Derived.Shelf.Strings.Search1
import Derived.Shelf.SlSortCmp.WholeK
import Derived.Shelf.SlGeneric
import Derived.Ground.SlsfProg
import Derived.Shelf.Spec.SlicesGrow
import Derived.Test.YteieacinbfimlaaGreatProg
import Derived.Lib.SortBridge
import Derived.Lib.RowBridge
namespace Go.Proofs.YteieacinbfimlaaGreat
open Go.RowKit
theorem try_mixed : Tryz.prog.follows .mixedOrders = true := by kernel_rfl
theorem tAgg2 : tAgg Tryz.prog 2 = some false := by kernel_rfl
theorem tSz2 : tSz Tryz.prog 2 = some 1 := by kernel_rfl
theorem tBytes2 : tBytes Tryz.prog 2 = some 8 := by kernel_rfl
theorem tZero2 : tZero Tryz.prog 2 = some [.int .i64 0] := by kernel_rfl
theorem tInt2 : tInt Tryz.prog 2 = some .i64 := by kernel_rfl
theorem tUnd2 : Tryz.prog.underlying 2 = some (.int .i64) := by kernel_rfl
theorem tAgg3 : tAgg Tryz.prog 3 = some false := by kernel_rfl
theorem tSz3 : tSz Tryz.prog 3 = some 1 := by kernel_rfl
theorem tBytes3 : tBytes Tryz.prog 3 = some 8 := by kernel_rfl
theorem tZero3 : tZero Tryz.prog 3 = some [.int .i64 0] := by kernel_rfl
theorem tInt3 : tInt Tryz.prog 3 = some .i64 := by kernel_rfl
theorem tUnd3 : Tryz.prog.underlying 3 = some (.int .i64) := by kernel_rfl
theorem tAgg4 : tAgg Tryz.prog 4 = some false := by kernel_rfl
theorem tSz4 : tSz Tryz.prog 4 = some 1 := by kernel_rfl
theorem tBytes4 : tBytes Tryz.prog 4 = some 1 := by kernel_rfl
theorem tZero4 : tZero Tryz.prog 4 = some [.bool false] := by kernel_rfl
theorem tIsBool4 : tIsBool Tryz.prog 4 = true := by kernel_rfl
theorem tAgg5 : tAgg Tryz.prog 5 = some false := by kernel_rfl
theorem tSz5 : tSz Tryz.prog 5 = some 1 := by kernel_rfl
theorem tBytes5 : tBytes Tryz.prog 5 = some 1 := by kernel_rfl
theorem tZero5 : tZero Tryz.prog 5 = some [.int .u8 0] := by kernel_rfl
theorem tInt5 : tInt Tryz.prog 5 = some .u8 := by kernel_rfl
theorem tUnd5 : Tryz.prog.underlying 5 = some (.int .u8) := by kernel_rfl
theorem tAgg7 : tAgg Tryz.prog 7 = some true := by kernel_rfl
theorem tSz7 : tSz Tryz.prog 7 = some 4 := by kernel_rfl
theorem tBytes7 : tBytes Tryz.prog 7 = some 24 := by kernel_rfl
theorem tZero7 : tZero Tryz.prog 7 = some [.int .i64 0, .int .i64 0, .bool false, .int .u8 0] := by kernel_rfl
theorem tPlaces7 : tPlaces Tryz.prog 7 = some [(0, 1), (1, 1), (2, 1), (3, 1)] := by kernel_rfl
theorem tFld7_0 : tFld Tryz.prog 7 0 = some (0, 2) := by kernel_rfl
theorem tFld7_1 : tFld Tryz.prog 7 1 = some (1, 3) := by kernel_rfl
theorem tFld7_2 : tFld Tryz.prog 7 2 = some (2, 4) := by kernel_rfl
theorem tFld7_3 : tFld Tryz.prog 7 3 = some (3, 6) := by kernel_rfl
theorem tGuard7 : Tryz.prog.eqGuardType Tryz.prog.depth 7 = false := by kernel_rfl
theorem tAgg9 : tAgg Tryz.prog 9 = some false := by kernel_rfl
theorem tSz9 : tSz Tryz.prog 9 = some 1 := by kernel_rfl
theorem tBytes9 : tBytes Tryz.prog 9 = some 16 := by kernel_rfl
theorem tZero9 : tZero Tryz.prog 9 = some [.str []] := by kernel_rfl
theorem tAgg12 : tAgg Tryz.prog 12 = some false := by kernel_rfl
theorem tSz12 : tSz Tryz.prog 12 = some 1 := by kernel_rfl
theorem tBytes12 : tBytes Tryz.prog 12 = some 8 := by kernel_rfl
theorem tZero12 : tZero Tryz.prog 12 = some [.int .u64 0] := by kernel_rfl
theorem tInt12 : tInt Tryz.prog 12 = some .u64 := by kernel_rfl
theorem tUnd12 : Tryz.prog.underlying 12 = some (.int .u64) := by kernel_rfl
theorem tAgg13 : tAgg Tryz.prog 13 = some true := by kernel_rfl
theorem tSz13 : tSz Tryz.prog 13 = some 2 := by kernel_rfl
theorem tBytes13 : tBytes Tryz.prog 13 = some 24 := by kernel_rfl
theorem tZero13 : tZero Tryz.prog 13 = some [.str [], .int .u64 0] := by kernel_rfl
theorem tPlaces13 : tPlaces Tryz.prog 13 = some [(0, 1), (1, 1)] := by kernel_rfl
theorem tFld13_0 : tFld Tryz.prog 13 0 = some (0, 9) := by kernel_rfl
theorem tFld13_1 : tFld Tryz.prog 13 1 = some (1, 12) := by kernel_rfl
theorem tGuard13 : Tryz.prog.eqGuardType Tryz.prog.depth 13 = false := by kernel_rfl
theorem tAgg17 : tAgg Tryz.prog 17 = some false := by kernel_rfl
theorem tSz17 : tSz Tryz.prog 17 = some 1 := by kernel_rfl
theorem tBytes17 : tBytes Tryz.prog 17 = some 8 := by kernel_rfl
theorem tZero17 : tZero Tryz.prog 17 = some [.ptr none] := by kernel_rfl
theorem tAgg18 : tAgg Tryz.prog 18 = some true := by kernel_rfl
theorem tSz18 : tSz Tryz.prog 18 = some 1 := by kernel_rfl
theorem tBytes18 : tBytes Tryz.prog 18 = some 8 := by kernel_rfl
theorem tZero18 : tZero Tryz.prog 18 = some [.ptr none] := by kernel_rfl
theorem tPlaces18 : tPlaces Tryz.prog 18 = some [(0, 1)] := by kernel_rfl
theorem tFld18_0 : tFld Tryz.prog 18 0 = some (0, 17) := by kernel_rfl
theorem tGuard18 : Tryz.prog.eqGuardType Tryz.prog.depth 18 = false := by kernel_rfl
theorem tAgg21 : tAgg Tryz.prog 21 = some false := by kernel_rfl
theorem tSz21 : tSz Tryz.prog 21 = some 1 := by kernel_rfl
theorem tBytes21 : tBytes Tryz.prog 21 = some 4 := by kernel_rfl
theorem tZero21 : tZero Tryz.prog 21 = some [.int .i32 0] := by kernel_rfl
theorem tInt21 : tInt Tryz.prog 21 = some .i32 := by kernel_rfl
theorem tUnd21 : Tryz.prog.underlying 21 = some (.int .i32) := by kernel_rfl
theorem tAgg22 : tAgg Tryz.prog 22 = some false := by kernel_rfl
theorem tSz22 : tSz Tryz.prog 22 = some 1 := by kernel_rfl
theorem tBytes22 : tBytes Tryz.prog 22 = some 24 := by kernel_rfl
theorem tZero22 : tZero Tryz.prog 22 = some [.sl none 0 (some 0)] := by kernel_rfl
theorem tElem22 : tElem Tryz.prog 22 = some 5 := by kernel_rfl
theorem tIsSlice22 : tIsSlice Tryz.prog 22 = true := by kernel_rfl
theorem tAgg23 : tAgg Tryz.prog 23 = some true := by kernel_rfl
theorem tSz23 : tSz Tryz.prog 23 = some 3 := by kernel_rfl
theorem tBytes23 : tBytes Tryz.prog 23 = some 40 := by kernel_rfl
theorem tZero23 : tZero Tryz.prog 23 = some [.int .i64 0, .int .i64 0, .sl none 0 (some 0)] := by kernel_rfl
theorem tPlaces23 : tPlaces Tryz.prog 23 = some [(0, 1), (1, 1), (2, 1)] := by kernel_rfl
theorem tFld23_0 : tFld Tryz.prog 23 0 = some (0, 3) := by kernel_rfl
theorem tFld23_1 : tFld Tryz.prog 23 1 = some (1, 3) := by kernel_rfl
theorem tFld23_2 : tFld Tryz.prog 23 2 = some (2, 22) := by kernel_rfl
theorem tGuard23 : Tryz.prog.eqGuardType Tryz.prog.depth 23 = false := by kernel_rfl
theorem tAgg24 : tAgg Tryz.prog 24 = some true := by kernel_rfl
theorem tSz24 : tSz Tryz.prog 24 = some 3 := by kernel_rfl
theorem tBytes24 : tBytes Tryz.prog 24 = some 40 := by kernel_rfl
theorem tZero24 : tZero Tryz.prog 24 = some [.int .i64 0, .int .i64 0, .sl none 0 (some 0)] := by kernel_rfl
theorem tPlaces24 : tPlaces Tryz.prog 24 = some [(0, 1), (1, 1), (2, 1)] := by kernel_rfl
theorem tFld24_0 : tFld Tryz.prog 24 0 = some (0, 3) := by kernel_rfl
theorem tFld24_1 : tFld Tryz.prog 24 1 = some (1, 3) := by kernel_rfl
theorem tFld24_2 : tFld Tryz.prog 24 2 = some (2, 22) := by kernel_rfl
theorem tGuard24 : Tryz.prog.eqGuardType Tryz.prog.depth 24 = false := by kernel_rfl
theorem tAgg25 : tAgg Tryz.prog 25 = some false := by kernel_rfl
theorem tSz25 : tSz Tryz.prog 25 = some 1 := by kernel_rfl
theorem tBytes25 : tBytes Tryz.prog 25 = some 24 := by kernel_rfl
theorem tZero25 : tZero Tryz.prog 25 = some [.sl none 0 (some 0)] := by kernel_rfl
theorem tElem25 : tElem Tryz.prog 25 = some 58 := by kernel_rfl
theorem tIsSlice25 : tIsSlice Tryz.prog 25 = true := by kernel_rfl
theorem tAgg26 : tAgg Tryz.prog 26 = some false := by kernel_rfl
theorem tSz26 : tSz Tryz.prog 26 = some 1 := by kernel_rfl
theorem tBytes26 : tBytes Tryz.prog 26 = some 24 := by kernel_rfl
theorem tZero26 : tZero Tryz.prog 26 = some [.sl none 0 (some 0)] := by kernel_rfl
theorem tElem26 : tElem Tryz.prog 26 = some 37 := by kernel_rfl
theorem tIsSlice26 : tIsSlice Tryz.prog 26 = true := by kernel_rfl
theorem tAgg29 : tAgg Tryz.prog 29 = some false := by kernel_rfl
theorem tSz29 : tSz Tryz.prog 29 = some 1 := by kernel_rfl
theorem tBytes29 : tBytes Tryz.prog 29 = some 24 := by kernel_rfl
theorem tZero29 : tZero Tryz.prog 29 = some [.sl none 0 (some 0)] := by kernel_rfl
theorem tElem29 : tElem Tryz.prog 29 = some 63 := by kernel_rfl
theorem tIsSlice29 : tIsSlice Tryz.prog 29 = true := by kernel_rfl
theorem tAgg30 : tAgg Tryz.prog 30 = some false := by kernel_rfl
theorem tSz30 : tSz Tryz.prog 30 = some 1 := by kernel_rfl
theorem tBytes30 : tBytes Tryz.prog 30 = some 8 := by kernel_rfl
theorem tZero30 : tZero Tryz.prog 30 = some [.int .i64 0] := by kernel_rfl
theorem tInt30 : tInt Tryz.prog 30 = some .i64 := by kernel_rfl
theorem tUnd30 : Tryz.prog.underlying 30 = some (.int .i64) := by kernel_rfl
theorem tAgg36 : tAgg Tryz.prog 36 = some true := by kernel_rfl
theorem tSz36 : tSz Tryz.prog 36 = some 2 := by kernel_rfl
theorem tBytes36 : tBytes Tryz.prog 36 = some 16 := by kernel_rfl
theorem tZero36 : tZero Tryz.prog 36 = some [.int .i64 0, .int .i64 0] := by kernel_rfl
theorem tPlaces36 : tPlaces Tryz.prog 36 = some [(0, 1), (1, 1)] := by kernel_rfl
theorem tFld36_0 : tFld Tryz.prog 36 0 = some (0, 3) := by kernel_rfl
theorem tFld36_1 : tFld Tryz.prog 36 1 = some (1, 3) := by kernel_rfl
theorem tGuard36 : Tryz.prog.eqGuardType Tryz.prog.depth 36 = false := by kernel_rfl
theorem tEq36 (a0 a1 b0 b1 : Int) : aEq Tryz.prog 20 36 [.int .i64 a0, .int .i64 a1] [.int .i64 b0, .int .i64 b1] = some ((a0 == b0) && ((a1 == b1) && true)) := by kernel_rfl
theorem tAgg37 : tAgg Tryz.prog 37 = some true := by kernel_rfl
theorem tSz37 : tSz Tryz.prog 37 = some 2 := by kernel_rfl
theorem tBytes37 : tBytes Tryz.prog 37 = some 16 := by kernel_rfl
theorem tZero37 : tZero Tryz.prog 37 = some [.int .i64 0, .int .i64 0] := by kernel_rfl
theorem tPlaces37 : tPlaces Tryz.prog 37 = some [(0, 1), (1, 1)] := by kernel_rfl
theorem tFld37_0 : tFld Tryz.prog 37 0 = some (0, 3) := by kernel_rfl
theorem tFld37_1 : tFld Tryz.prog 37 1 = some (1, 3) := by kernel_rfl
theorem tGuard37 : Tryz.prog.eqGuardType Tryz.prog.depth 37 = false := by kernel_rfl
theorem tEq37 (a0 a1 b0 b1 : Int) : aEq Tryz.prog 20 37 [.int .i64 a0, .int .i64 a1] [.int .i64 b0, .int .i64 b1] = some ((a0 == b0) && ((a1 == b1) && true)) := by kernel_rfl
theorem tAgg43 : tAgg Tryz.prog 43 = some true := by kernel_rfl
theorem tSz43 : tSz Tryz.prog 43 = some 3 := by kernel_rfl
theorem tBytes43 : tBytes Tryz.prog 43 = some 24 := by kernel_rfl
theorem tZero43 : tZero Tryz.prog 43 = some [.int .i64 0, .int .i64 0, .int .i64 0] := by kernel_rfl
theorem tPlaces43 : tPlaces Tryz.prog 43 = some [(0, 1), (1, 1), (2, 1)] := by kernel_rfl
theorem tFld43_0 : tFld Tryz.prog 43 0 = some (0, 3) := by kernel_rfl
theorem tFld43_1 : tFld Tryz.prog 43 1 = some (1, 3) := by kernel_rfl
theorem tFld43_2 : tFld Tryz.prog 43 2 = some (2, 3) := by kernel_rfl
theorem tGuard43 : Tryz.prog.eqGuardType Tryz.prog.depth 43 = false := by kernel_rfl
theorem tEq43 (a0 a1 a2 b0 b1 b2 : Int) : aEq Tryz.prog 20 43 [.int .i64 a0, .int .i64 a1, .int .i64 a2] [.int .i64 b0, .int .i64 b1, .int .i64 b2] = some ((a0 == b0) && ((a1 == b1) && ((a2 == b2) && true))) := by kernel_rfl
theorem tAgg44 : tAgg Tryz.prog 44 = some true := by kernel_rfl
theorem tSz44 : tSz Tryz.prog 44 = some 3 := by kernel_rfl
theorem tBytes44 : tBytes Tryz.prog 44 = some 24 := by kernel_rfl
theorem tZero44 : tZero Tryz.prog 44 = some [.int .i64 0, .int .i64 0, .int .i64 0] := by kernel_rfl
theorem tPlaces44 : tPlaces Tryz.prog 44 = some [(0, 1), (1, 1), (2, 1)] := by kernel_rfl
theorem tFld44_0 : tFld Tryz.prog 44 0 = some (0, 3) := by kernel_rfl
theorem tFld44_1 : tFld Tryz.prog 44 1 = some (1, 3) := by kernel_rfl
theorem tFld44_2 : tFld Tryz.prog 44 2 = some (2, 3) := by kernel_rfl
theorem tGuard44 : Tryz.prog.eqGuardType Tryz.prog.depth 44 = false := by kernel_rfl
theorem tEq44 (a0 a1 a2 b0 b1 b2 : Int) : aEq Tryz.prog 20 44 [.int .i64 a0, .int .i64 a1, .int .i64 a2] [.int .i64 b0, .int .i64 b1, .int .i64 b2] = some ((a0 == b0) && ((a1 == b1) && ((a2 == b2) && true))) := by kernel_rfl
theorem tAgg45 : tAgg Tryz.prog 45 = some true := by kernel_rfl
theorem tSz45 : tSz Tryz.prog 45 = some 2 := by kernel_rfl
theorem tBytes45 : tBytes Tryz.prog 45 = some 16 := by kernel_rfl
theorem tZero45 : tZero Tryz.prog 45 = some [.int .i64 0, .int .i64 0] := by kernel_rfl
theorem tPlaces45 : tPlaces Tryz.prog 45 = some [(0, 1), (1, 1)] := by kernel_rfl
theorem tFld45_0 : tFld Tryz.prog 45 0 = some (0, 3) := by kernel_rfl
theorem tFld45_1 : tFld Tryz.prog 45 1 = some (1, 3) := by kernel_rfl
theorem tGuard45 : Tryz.prog.eqGuardType Tryz.prog.depth 45 = false := by kernel_rfl
theorem tEq45 (a0 a1 b0 b1 : Int) : aEq Tryz.prog 20 45 [.int .i64 a0, .int .i64 a1] [.int .i64 b0, .int .i64 b1] = some ((a0 == b0) && ((a1 == b1) && true)) := by kernel_rfl
theorem tAgg46 : tAgg Tryz.prog 46 = some true := by kernel_rfl
theorem tSz46 : tSz Tryz.prog 46 = some 2 := by kernel_rfl
theorem tBytes46 : tBytes Tryz.prog 46 = some 16 := by kernel_rfl
theorem tZero46 : tZero Tryz.prog 46 = some [.int .i64 0, .int .i64 0] := by kernel_rfl
theorem tPlaces46 : tPlaces Tryz.prog 46 = some [(0, 1), (1, 1)] := by kernel_rfl
theorem tFld46_0 : tFld Tryz.prog 46 0 = some (0, 3) := by kernel_rfl
theorem tFld46_1 : tFld Tryz.prog 46 1 = some (1, 3) := by kernel_rfl
theorem tGuard46 : Tryz.prog.eqGuardType Tryz.prog.depth 46 = false := by kernel_rfl
theorem tEq46 (a0 a1 b0 b1 : Int) : aEq Tryz.prog 20 46 [.int .i64 a0, .int .i64 a1] [.int .i64 b0, .int .i64 b1] = some ((a0 == b0) && ((a1 == b1) && true)) := by kernel_rfl
theorem tAgg47 : tAgg Tryz.prog 47 = some true := by kernel_rfl
theorem tSz47 : tSz Tryz.prog 47 = some 4 := by kernel_rfl
theorem tBytes47 : tBytes Tryz.prog 47 = some 32 := by kernel_rfl
theorem tZero47 : tZero Tryz.prog 47 = some [.int .i64 0, .int .i64 0, .int .i64 0, .int .i64 0] := by kernel_rfl
theorem tPlaces47 : tPlaces Tryz.prog 47 = some [(0, 1), (1, 1), (2, 1), (3, 1)] := by kernel_rfl
theorem tFld47_0 : tFld Tryz.prog 47 0 = some (0, 3) := by kernel_rfl
theorem tFld47_1 : tFld Tryz.prog 47 1 = some (1, 3) := by kernel_rfl
theorem tFld47_2 : tFld Tryz.prog 47 2 = some (2, 3) := by kernel_rfl
theorem tFld47_3 : tFld Tryz.prog 47 3 = some (3, 3) := by kernel_rfl
theorem tGuard47 : Tryz.prog.eqGuardType Tryz.prog.depth 47 = false := by kernel_rfl
theorem tEq47 (a0 a1 a2 a3 b0 b1 b2 b3 : Int) : aEq Tryz.prog 20 47 [.int .i64 a0, .int .i64 a1, .int .i64 a2, .int .i64 a3] [.int .i64 b0, .int .i64 b1, .int .i64 b2, .int .i64 b3] = some ((a0 == b0) && ((a1 == b1) && ((a2 == b2) && ((a3 == b3) && true)))) := by kernel_rfl
theorem tAgg48 : tAgg Tryz.prog 48 = some true := by kernel_rfl
theorem tSz48 : tSz Tryz.prog 48 = some 4 := by kernel_rfl
theorem tBytes48 : tBytes Tryz.prog 48 = some 32 := by kernel_rfl
theorem tZero48 : tZero Tryz.prog 48 = some [.int .i64 0, .int .i64 0, .int .i64 0, .int .i64 0] := by kernel_rfl
theorem tPlaces48 : tPlaces Tryz.prog 48 = some [(0, 1), (1, 1), (2, 1), (3, 1)] := by kernel_rfl
theorem tFld48_0 : tFld Tryz.prog 48 0 = some (0, 3) := by kernel_rfl
theorem tFld48_1 : tFld Tryz.prog 48 1 = some (1, 3) := by kernel_rfl
theorem tFld48_2 : tFld Tryz.prog 48 2 = some (2, 3) := by kernel_rfl
theorem tFld48_3 : tFld Tryz.prog 48 3 = some (3, 3) := by kernel_rfl
theorem tGuard48 : Tryz.prog.eqGuardType Tryz.prog.depth 48 = false := by kernel_rfl
theorem tEq48 (a0 a1 a2 a3 b0 b1 b2 b3 : Int) : aEq Tryz.prog 20 48 [.int .i64 a0, .int .i64 a1, .int .i64 a2, .int .i64 a3] [.int .i64 b0, .int .i64 b1, .int .i64 b2, .int .i64 b3] = some ((a0 == b0) && ((a1 == b1) && ((a2 == b2) && ((a3 == b3) && true)))) := by kernel_rfl
theorem tAgg49 : tAgg Tryz.prog 49 = some false := by kernel_rfl
theorem tSz49 : tSz Tryz.prog 49 = some 1 := by kernel_rfl
theorem tBytes49 : tBytes Tryz.prog 49 = some 24 := by kernel_rfl
theorem tZero49 : tZero Tryz.prog 49 = some [.sl none 0 (some 0)] := by kernel_rfl
theorem tElem49 : tElem Tryz.prog 49 = some 3 := by kernel_rfl
theorem tIsSlice49 : tIsSlice Tryz.prog 49 = true := by kernel_rfl
theorem tAgg50 : tAgg Tryz.prog 50 = some true := by kernel_rfl
theorem tSz50 : tSz Tryz.prog 50 = some 8 := by kernel_rfl
theorem tBytes50 : tBytes Tryz.prog 50 = some 96 := by kernel_rfl
theorem tZero50 : tZero Tryz.prog 50 = some [.int .i64 0, .int .i64 0, .int .i64 0, .int .i64 0, .int .i64 0, .int .i64 0, .sl none 0 (some 0), .sl none 0 (some 0)] := by kernel_rfl
theorem tPlaces50 : tPlaces Tryz.prog 50 = some [(0, 2), (2, 4), (6, 1), (7, 1)] := by kernel_rfl
theorem tFld50_0 : tFld Tryz.prog 50 0 = some (0, 46) := by kernel_rfl
theorem tFld50_1 : tFld Tryz.prog 50 1 = some (2, 48) := by kernel_rfl
theorem tFld50_2 : tFld Tryz.prog 50 2 = some (6, 49) := by kernel_rfl
theorem tFld50_3 : tFld Tryz.prog 50 3 = some (7, 49) := by kernel_rfl
theorem tGuard50 : Tryz.prog.eqGuardType Tryz.prog.depth 50 = false := by kernel_rfl
theorem tAgg51 : tAgg Tryz.prog 51 = some true := by kernel_rfl
theorem tSz51 : tSz Tryz.prog 51 = some 8 := by kernel_rfl
theorem tBytes51 : tBytes Tryz.prog 51 = some 96 := by kernel_rfl
theorem tZero51 : tZero Tryz.prog 51 = some [.int .i64 0, .int .i64 0, .int .i64 0, .int .i64 0, .int .i64 0, .int .i64 0, .sl none 0 (some 0), .sl none 0 (some 0)] := by kernel_rfl
theorem tPlaces51 : tPlaces Tryz.prog 51 = some [(0, 2), (2, 4), (6, 1), (7, 1)] := by kernel_rfl
theorem tFld51_0 : tFld Tryz.prog 51 0 = some (0, 46) := by kernel_rfl
theorem tFld51_1 : tFld Tryz.prog 51 1 = some (2, 48) := by kernel_rfl
theorem tFld51_2 : tFld Tryz.prog 51 2 = some (6, 49) := by kernel_rfl
theorem tFld51_3 : tFld Tryz.prog 51 3 = some (7, 49) := by kernel_rfl
theorem tGuard51 : Tryz.prog.eqGuardType Tryz.prog.depth 51 = false := by kernel_rfl
theorem tAgg57 : tAgg Tryz.prog 57 = some true := by kernel_rfl
theorem tSz57 : tSz Tryz.prog 57 = some 6 := by kernel_rfl
theorem tBytes57 : tBytes Tryz.prog 57 = some 48 := by kernel_rfl
theorem tZero57 : tZero Tryz.prog 57 = some [.int .i64 0, .int .i64 0, .int .i64 0, .int .i64 0, .int .i64 0, .int .i64 0] := by kernel_rfl
theorem tPlaces57 : tPlaces Tryz.prog 57 = some [(0, 1), (1, 1), (2, 1), (3, 1), (4, 1), (5, 1)] := by kernel_rfl
theorem tFld57_0 : tFld Tryz.prog 57 0 = some (0, 3) := by kernel_rfl
theorem tFld57_1 : tFld Tryz.prog 57 1 = some (1, 3) := by kernel_rfl
theorem tFld57_2 : tFld Tryz.prog 57 2 = some (2, 3) := by kernel_rfl
theorem tFld57_3 : tFld Tryz.prog 57 3 = some (3, 3) := by kernel_rfl
theorem tFld57_4 : tFld Tryz.prog 57 4 = some (4, 3) := by kernel_rfl
theorem tFld57_5 : tFld Tryz.prog 57 5 = some (5, 3) := by kernel_rfl
theorem tGuard57 : Tryz.prog.eqGuardType Tryz.prog.depth 57 = false := by kernel_rfl
theorem tEq57 (a0 a1 a2 a3 a4 a5 b0 b1 b2 b3 b4 b5 : Int) : aEq Tryz.prog 20 57 [.int .i64 a0, .int .i64 a1, .int .i64 a2, .int .i64 a3, .int .i64 a4, .int .i64 a5] [.int .i64 b0, .int .i64 b1, .int .i64 b2, .int .i64 b3, .int .i64 b4, .int .i64 b5] = some ((a0 == b0) && ((a1 == b1) && ((a2 == b2) && ((a3 == b3) && ((a4 == b4) && ((a5 == b5) && true)))))) := by kernel_rfl
theorem tAgg58 : tAgg Tryz.prog 58 = some true := by kernel_rfl
theorem tSz58 : tSz Tryz.prog 58 = some 6 := by kernel_rfl
theorem tBytes58 : tBytes Tryz.prog 58 = some 48 := by kernel_rfl
theorem tZero58 : tZero Tryz.prog 58 = some [.int .i64 0, .int .i64 0, .int .i64 0, .int .i64 0, .int .i64 0, .int .i64 0] := by kernel_rfl
theorem tPlaces58 : tPlaces Tryz.prog 58 = some [(0, 1), (1, 1), (2, 1), (3, 1), (4, 1), (5, 1)] := by kernel_rfl
theorem tFld58_0 : tFld Tryz.prog 58 0 = some (0, 3) := by kernel_rfl
theorem tFld58_1 : tFld Tryz.prog 58 1 = some (1, 3) := by kernel_rfl
theorem tFld58_2 : tFld Tryz.prog 58 2 = some (2, 3) := by kernel_rfl
theorem tFld58_3 : tFld Tryz.prog 58 3 = some (3, 3) := by kernel_rfl
theorem tFld58_4 : tFld Tryz.prog 58 4 = some (4, 3) := by kernel_rfl
theorem tFld58_5 : tFld Tryz.prog 58 5 = some (5, 3) := by kernel_rfl
theorem tGuard58 : Tryz.prog.eqGuardType Tryz.prog.depth 58 = false := by kernel_rfl
theorem tEq58 (a0 a1 a2 a3 a4 a5 b0 b1 b2 b3 b4 b5 : Int) : aEq Tryz.prog 20 58 [.int .i64 a0, .int .i64 a1, .int .i64 a2, .int .i64 a3, .int .i64 a4, .int .i64 a5] [.int .i64 b0, .int .i64 b1, .int .i64 b2, .int .i64 b3, .int .i64 b4, .int .i64 b5] = some ((a0 == b0) && ((a1 == b1) && ((a2 == b2) && ((a3 == b3) && ((a4 == b4) && ((a5 == b5) && true)))))) := by kernel_rfl
theorem tAgg62 : tAgg Tryz.prog 62 = some true := by kernel_rfl
theorem tSz62 : tSz Tryz.prog 62 = some 2 := by kernel_rfl
theorem tBytes62 : tBytes Tryz.prog 62 = some 16 := by kernel_rfl
theorem tZero62 : tZero Tryz.prog 62 = some [.int .i64 0, .int .i64 0] := by kernel_rfl
theorem tPlaces62 : tPlaces Tryz.prog 62 = some [(0, 1), (1, 1)] := by kernel_rfl
theorem tFld62_0 : tFld Tryz.prog 62 0 = some (0, 3) := by kernel_rfl
theorem tFld62_1 : tFld Tryz.prog 62 1 = some (1, 3) := by kernel_rfl
theorem tGuard62 : Tryz.prog.eqGuardType Tryz.prog.depth 62 = false := by kernel_rfl
theorem tEq62 (a0 a1 b0 b1 : Int) : aEq Tryz.prog 20 62 [.int .i64 a0, .int .i64 a1] [.int .i64 b0, .int .i64 b1] = some ((a0 == b0) && ((a1 == b1) && true)) := by kernel_rfl
theorem tAgg63 : tAgg Tryz.prog 63 = some true := by kernel_rfl
theorem tSz63 : tSz Tryz.prog 63 = some 2 := by kernel_rfl
theorem tBytes63 : tBytes Tryz.prog 63 = some 16 := by kernel_rfl
theorem tZero63 : tZero Tryz.prog 63 = some [.int .i64 0, .int .i64 0] := by kernel_rfl
theorem tPlaces63 : tPlaces Tryz.prog 63 = some [(0, 1), (1, 1)] := by kernel_rfl
theorem tFld63_0 : tFld Tryz.prog 63 0 = some (0, 3) := by kernel_rfl
theorem tFld63_1 : tFld Tryz.prog 63 1 = some (1, 3) := by kernel_rfl
theorem tGuard63 : Tryz.prog.eqGuardType Tryz.prog.depth 63 = false := by kernel_rfl
theorem tEq63 (a0 a1 b0 b1 : Int) : aEq Tryz.prog 20 63 [.int .i64 a0, .int .i64 a1] [.int .i64 b0, .int .i64 b1] = some ((a0 == b0) && ((a1 == b1) && true)) := by kernel_rfl
theorem tAgg68 : tAgg Tryz.prog 68 = some true := by kernel_rfl
theorem tSz68 : tSz Tryz.prog 68 = some 10 := by kernel_rfl
theorem tBytes68 : tBytes Tryz.prog 68 = some 144 := by kernel_rfl
theorem tZero68 : tZero Tryz.prog 68 = some [.int .i64 0, .int .i64 0, .sl none 0 (some 0), .int .i64 0, .int .i64 0, .int .i64 0, .sl none 0 (some 0), .sl none 0 (some 0), .sl none 0 (some 0), .int .i64 0] := by kernel_rfl
theorem tPlaces68 : tPlaces Tryz.prog 68 = some [(0, 3), (3, 3), (6, 1), (7, 1), (8, 1), (9, 1)] := by kernel_rfl
theorem tFld68_0 : tFld Tryz.prog 68 0 = some (0, 24) := by kernel_rfl
theorem tFld68_1 : tFld Tryz.prog 68 1 = some (3, 44) := by kernel_rfl
theorem tFld68_2 : tFld Tryz.prog 68 2 = some (6, 22) := by kernel_rfl
theorem tFld68_3 : tFld Tryz.prog 68 3 = some (7, 49) := by kernel_rfl
theorem tFld68_4 : tFld Tryz.prog 68 4 = some (8, 49) := by kernel_rfl
theorem tFld68_5 : tFld Tryz.prog 68 5 = some (9, 3) := by kernel_rfl
theorem tGuard68 : Tryz.prog.eqGuardType Tryz.prog.depth 68 = false := by kernel_rfl
theorem tAgg69 : tAgg Tryz.prog 69 = some true := by kernel_rfl
theorem tSz69 : tSz Tryz.prog 69 = some 10 := by kernel_rfl
theorem tBytes69 : tBytes Tryz.prog 69 = some 144 := by kernel_rfl
theorem tZero69 : tZero Tryz.prog 69 = some [.int .i64 0, .int .i64 0, .sl none 0 (some 0), .int .i64 0, .int .i64 0, .int .i64 0, .sl none 0 (some 0), .sl none 0 (some 0), .sl none 0 (some 0), .int .i64 0] := by kernel_rfl
theorem tPlaces69 : tPlaces Tryz.prog 69 = some [(0, 3), (3, 3), (6, 1), (7, 1), (8, 1), (9, 1)] := by kernel_rfl
theorem tFld69_0 : tFld Tryz.prog 69 0 = some (0, 24) := by kernel_rfl
theorem tFld69_1 : tFld Tryz.prog 69 1 = some (3, 44) := by kernel_rfl
theorem tFld69_2 : tFld Tryz.prog 69 2 = some (6, 22) := by kernel_rfl
theorem tFld69_3 : tFld Tryz.prog 69 3 = some (7, 49) := by kernel_rfl
theorem tFld69_4 : tFld Tryz.prog 69 4 = some (8, 49) := by kernel_rfl
theorem tFld69_5 : tFld Tryz.prog 69 5 = some (9, 3) := by kernel_rfl
theorem tGuard69 : Tryz.prog.eqGuardType Tryz.prog.depth 69 = false := by kernel_rfl
theorem tAgg78 : tAgg Tryz.prog 78 = some true := by kernel_rfl
theorem tSz78 : tSz Tryz.prog 78 = some 4 := by kernel_rfl
theorem tBytes78 : tBytes Tryz.prog 78 = some 32 := by kernel_rfl
theorem tZero78 : tZero Tryz.prog 78 = some [.int .i64 0, .int .i64 0, .int .i64 0, .int .i64 0] := by kernel_rfl
theorem tPlaces78 : tPlaces Tryz.prog 78 = some [(0, 1), (1, 1), (2, 1), (3, 1)] := by kernel_rfl
theorem tFld78_0 : tFld Tryz.prog 78 0 = some (0, 3) := by kernel_rfl
theorem tFld78_1 : tFld Tryz.prog 78 1 = some (1, 3) := by kernel_rfl
theorem tFld78_2 : tFld Tryz.prog 78 2 = some (2, 3) := by kernel_rfl
theorem tFld78_3 : tFld Tryz.prog 78 3 = some (3, 3) := by kernel_rfl
theorem tGuard78 : Tryz.prog.eqGuardType Tryz.prog.depth 78 = false := by kernel_rfl
theorem tEq78 (a0 a1 a2 a3 b0 b1 b2 b3 : Int) : aEq Tryz.prog 20 78 [.int .i64 a0, .int .i64 a1, .int .i64 a2, .int .i64 a3] [.int .i64 b0, .int .i64 b1, .int .i64 b2, .int .i64 b3] = some ((a0 == b0) && ((a1 == b1) && ((a2 == b2) && ((a3 == b3) && true)))) := by kernel_rfl
theorem tAgg79 : tAgg Tryz.prog 79 = some true := by kernel_rfl
theorem tSz79 : tSz Tryz.prog 79 = some 4 := by kernel_rfl
theorem tBytes79 : tBytes Tryz.prog 79 = some 32 := by kernel_rfl
theorem tZero79 : tZero Tryz.prog 79 = some [.int .i64 0, .int .i64 0, .int .i64 0, .int .i64 0] := by kernel_rfl
theorem tPlaces79 : tPlaces Tryz.prog 79 = some [(0, 1), (1, 1), (2, 1), (3, 1)] := by kernel_rfl
theorem tFld79_0 : tFld Tryz.prog 79 0 = some (0, 3) := by kernel_rfl
theorem tFld79_1 : tFld Tryz.prog 79 1 = some (1, 3) := by kernel_rfl
theorem tFld79_2 : tFld Tryz.prog 79 2 = some (2, 3) := by kernel_rfl
theorem tFld79_3 : tFld Tryz.prog 79 3 = some (3, 3) := by kernel_rfl
theorem tGuard79 : Tryz.prog.eqGuardType Tryz.prog.depth 79 = false := by kernel_rfl
theorem tEq79 (a0 a1 a2 a3 b0 b1 b2 b3 : Int) : aEq Tryz.prog 20 79 [.int .i64 a0, .int .i64 a1, .int .i64 a2, .int .i64 a3] [.int .i64 b0, .int .i64 b1, .int .i64 b2, .int .i64 b3] = some ((a0 == b0) && ((a1 == b1) && ((a2 == b2) && ((a3 == b3) && true)))) := by kernel_rfl
theorem tAgg80 : tAgg Tryz.prog 80 = some true := by kernel_rfl
theorem tSz80 : tSz Tryz.prog 80 = some 10 := by kernel_rfl
theorem tBytes80 : tBytes Tryz.prog 80 = some 96 := by kernel_rfl
theorem tZero80 : tZero Tryz.prog 80 = some [.int .i64 0, .int .i64 0, .sl none 0 (some 0), .int .i64 0, .int .i64 0, .int .i64 0, .int .i64 0, .int .i64 0, .int .i64 0, .int .i64 0] := by kernel_rfl
theorem tPlaces80 : tPlaces Tryz.prog 80 = some [(0, 3), (3, 4), (7, 3)] := by kernel_rfl
theorem tFld80_0 : tFld Tryz.prog 80 0 = some (0, 24) := by kernel_rfl
theorem tFld80_1 : tFld Tryz.prog 80 1 = some (3, 79) := by kernel_rfl
theorem tFld80_2 : tFld Tryz.prog 80 2 = some (7, 44) := by kernel_rfl
theorem tGuard80 : Tryz.prog.eqGuardType Tryz.prog.depth 80 = false := by kernel_rfl
theorem tAgg81 : tAgg Tryz.prog 81 = some true := by kernel_rfl
theorem tSz81 : tSz Tryz.prog 81 = some 10 := by kernel_rfl
theorem tBytes81 : tBytes Tryz.prog 81 = some 96 := by kernel_rfl
theorem tZero81 : tZero Tryz.prog 81 = some [.int .i64 0, .int .i64 0, .sl none 0 (some 0), .int .i64 0, .int .i64 0, .int .i64 0, .int .i64 0, .int .i64 0, .int .i64 0, .int .i64 0] := by kernel_rfl
theorem tPlaces81 : tPlaces Tryz.prog 81 = some [(0, 3), (3, 4), (7, 3)] := by kernel_rfl
theorem tFld81_0 : tFld Tryz.prog 81 0 = some (0, 24) := by kernel_rfl
theorem tFld81_1 : tFld Tryz.prog 81 1 = some (3, 79) := by kernel_rfl
theorem tFld81_2 : tFld Tryz.prog 81 2 = some (7, 44) := by kernel_rfl
theorem tGuard81 : Tryz.prog.eqGuardType Tryz.prog.depth 81 = false := by kernel_rfl
theorem tAgg82 : tAgg Tryz.prog 82 = some true := by kernel_rfl
theorem tSz82 : tSz Tryz.prog 82 = some 2 := by kernel_rfl
theorem tBytes82 : tBytes Tryz.prog 82 = some 48 := by kernel_rfl
theorem tZero82 : tZero Tryz.prog 82 = some [.sl none 0 (some 0), .sl none 0 (some 0)] := by kernel_rfl
theorem tPlaces82 : tPlaces Tryz.prog 82 = some [(0, 1), (1, 1)] := by kernel_rfl
theorem tFld82_0 : tFld Tryz.prog 82 0 = some (0, 25) := by kernel_rfl
theorem tFld82_1 : tFld Tryz.prog 82 1 = some (1, 22) := by kernel_rfl
theorem tGuard82 : Tryz.prog.eqGuardType Tryz.prog.depth 82 = false := by kernel_rfl
theorem tAgg83 : tAgg Tryz.prog 83 = some true := by kernel_rfl
theorem tSz83 : tSz Tryz.prog 83 = some 2 := by kernel_rfl
theorem tBytes83 : tBytes Tryz.prog 83 = some 48 := by kernel_rfl
theorem tZero83 : tZero Tryz.prog 83 = some [.sl none 0 (some 0), .sl none 0 (some 0)] := by kernel_rfl
theorem tPlaces83 : tPlaces Tryz.prog 83 = some [(0, 1), (1, 1)] := by kernel_rfl
theorem tFld83_0 : tFld Tryz.prog 83 0 = some (0, 25) := by kernel_rfl
theorem tFld83_1 : tFld Tryz.prog 83 1 = some (1, 22) := by kernel_rfl
theorem tGuard83 : Tryz.prog.eqGuardType Tryz.prog.depth 83 = false := by kernel_rfl
theorem tAgg86 : tAgg Tryz.prog 86 = some true := by kernel_rfl
theorem tSz86 : tSz Tryz.prog 86 = some 2 := by kernel_rfl
theorem tBytes86 : tBytes Tryz.prog 86 = some 16 := by kernel_rfl
theorem tZero86 : tZero Tryz.prog 86 = some [.int .i64 0, .int .i64 0] := by kernel_rfl
theorem tPlaces86 : tPlaces Tryz.prog 86 = some [(0, 1), (1, 1)] := by kernel_rfl
theorem tFld86_0 : tFld Tryz.prog 86 0 = some (0, 3) := by kernel_rfl
theorem tFld86_1 : tFld Tryz.prog 86 1 = some (1, 3) := by kernel_rfl
theorem tGuard86 : Tryz.prog.eqGuardType Tryz.prog.depth 86 = false := by kernel_rfl
theorem tEq86 (a0 a1 b0 b1 : Int) : aEq Tryz.prog 20 86 [.int .i64 a0, .int .i64 a1] [.int .i64 b0, .int .i64 b1] = some ((a0 == b0) && ((a1 == b1) && true)) := by kernel_rfl
theorem tAgg91 : tAgg Tryz.prog 91 = some false := by kernel_rfl
theorem tSz91 : tSz Tryz.prog 91 = some 1 := by kernel_rfl
theorem tBytes91 : tBytes Tryz.prog 91 = some 24 := by kernel_rfl
theorem tZero91 : tZero Tryz.prog 91 = some [.sl none 0 (some 0)] := by kernel_rfl
theorem tElem91 : tElem Tryz.prog 91 = some 46 := by kernel_rfl
theorem tIsSlice91 : tIsSlice Tryz.prog 91 = true := by kernel_rfl
theorem tAgg100 : tAgg Tryz.prog 100 = some false := by kernel_rfl
theorem tSz100 : tSz Tryz.prog 100 = some 1 := by kernel_rfl
theorem tBytes100 : tBytes Tryz.prog 100 = some 24 := by kernel_rfl
theorem tZero100 : tZero Tryz.prog 100 = some [.sl none 0 (some 0)] := by kernel_rfl
theorem tElem100 : tElem Tryz.prog 100 = some 107 := by kernel_rfl
theorem tIsSlice100 : tIsSlice Tryz.prog 100 = true := by kernel_rfl
theorem tAgg101 : tAgg Tryz.prog 101 = some false := by kernel_rfl
theorem tSz101 : tSz Tryz.prog 101 = some 1 := by kernel_rfl
theorem tBytes101 : tBytes Tryz.prog 101 = some 8 := by kernel_rfl
theorem tZero101 : tZero Tryz.prog 101 = some [.ptr none] := by kernel_rfl
theorem tAgg104 : tAgg Tryz.prog 104 = some true := by kernel_rfl
theorem tSz104 : tSz Tryz.prog 104 = some 5 := by kernel_rfl
theorem tBytes104 : tBytes Tryz.prog 104 = some 56 := by kernel_rfl
theorem tZero104 : tZero Tryz.prog 104 = some [.int .i64 0, .int .i64 0, .int .i64 0, .bool false, .sl none 0 (some 0)] := by kernel_rfl
theorem tPlaces104 : tPlaces Tryz.prog 104 = some [(0, 1), (1, 2), (3, 1), (4, 1)] := by kernel_rfl
theorem tFld104_0 : tFld Tryz.prog 104 0 = some (0, 3) := by kernel_rfl
theorem tFld104_1 : tFld Tryz.prog 104 1 = some (1, 46) := by kernel_rfl
theorem tFld104_2 : tFld Tryz.prog 104 2 = some (3, 4) := by kernel_rfl
theorem tFld104_3 : tFld Tryz.prog 104 3 = some (4, 26) := by kernel_rfl
theorem tGuard104 : Tryz.prog.eqGuardType Tryz.prog.depth 104 = false := by kernel_rfl
theorem tAgg105 : tAgg Tryz.prog 105 = some true := by kernel_rfl
theorem tSz105 : tSz Tryz.prog 105 = some 5 := by kernel_rfl
theorem tBytes105 : tBytes Tryz.prog 105 = some 56 := by kernel_rfl
theorem tZero105 : tZero Tryz.prog 105 = some [.int .i64 0, .int .i64 0, .int .i64 0, .bool false, .sl none 0 (some 0)] := by kernel_rfl
theorem tPlaces105 : tPlaces Tryz.prog 105 = some [(0, 1), (1, 2), (3, 1), (4, 1)] := by kernel_rfl
theorem tFld105_0 : tFld Tryz.prog 105 0 = some (0, 3) := by kernel_rfl
theorem tFld105_1 : tFld Tryz.prog 105 1 = some (1, 46) := by kernel_rfl
theorem tFld105_2 : tFld Tryz.prog 105 2 = some (3, 4) := by kernel_rfl
theorem tFld105_3 : tFld Tryz.prog 105 3 = some (4, 26) := by kernel_rfl
theorem tGuard105 : Tryz.prog.eqGuardType Tryz.prog.depth 105 = false := by kernel_rfl
theorem tAgg106 : tAgg Tryz.prog 106 = some true := by kernel_rfl
theorem tSz106 : tSz Tryz.prog 106 = some 8 := by kernel_rfl
theorem tBytes106 : tBytes Tryz.prog 106 = some 80 := by kernel_rfl
theorem tZero106 : tZero Tryz.prog 106 = some [.int .i64 0, .int .i64 0, .int .i64 0, .bool false, .sl none 0 (some 0), .int .i64 0, .int .i64 0, .int .i64 0] := by kernel_rfl
theorem tPlaces106 : tPlaces Tryz.prog 106 = some [(0, 5), (5, 3)] := by kernel_rfl
theorem tFld106_0 : tFld Tryz.prog 106 0 = some (0, 105) := by kernel_rfl
theorem tFld106_1 : tFld Tryz.prog 106 1 = some (5, 44) := by kernel_rfl
theorem tGuard106 : Tryz.prog.eqGuardType Tryz.prog.depth 106 = false := by kernel_rfl
theorem tAgg107 : tAgg Tryz.prog 107 = some true := by kernel_rfl
theorem tSz107 : tSz Tryz.prog 107 = some 8 := by kernel_rfl
theorem tBytes107 : tBytes Tryz.prog 107 = some 80 := by kernel_rfl
theorem tZero107 : tZero Tryz.prog 107 = some [.int .i64 0, .int .i64 0, .int .i64 0, .bool false, .sl none 0 (some 0), .int .i64 0, .int .i64 0, .int .i64 0] := by kernel_rfl
theorem tPlaces107 : tPlaces Tryz.prog 107 = some [(0, 5), (5, 3)] := by kernel_rfl
theorem tFld107_0 : tFld Tryz.prog 107 0 = some (0, 105) := by kernel_rfl
theorem tFld107_1 : tFld Tryz.prog 107 1 = some (5, 44) := by kernel_rfl
theorem tGuard107 : Tryz.prog.eqGuardType Tryz.prog.depth 107 = false := by kernel_rfl
theorem tAgg115 : tAgg Tryz.prog 115 = some false := by kernel_rfl
theorem tSz115 : tSz Tryz.prog 115 = some 1 := by kernel_rfl
theorem tBytes115 : tBytes Tryz.prog 115 = some 24 := by kernel_rfl
theorem tZero115 : tZero Tryz.prog 115 = some [.sl none 0 (some 0)] := by kernel_rfl
theorem tElem115 : tElem Tryz.prog 115 = some 51 := by kernel_rfl
theorem tIsSlice115 : tIsSlice Tryz.prog 115 = true := by kernel_rfl
theorem tAgg117 : tAgg Tryz.prog 117 = some false := by kernel_rfl
theorem tSz117 : tSz Tryz.prog 117 = some 1 := by kernel_rfl
theorem tBytes117 : tBytes Tryz.prog 117 = some 24 := by kernel_rfl
theorem tZero117 : tZero Tryz.prog 117 = some [.sl none 0 (some 0)] := by kernel_rfl
theorem tElem117 : tElem Tryz.prog 117 = some 105 := by kernel_rfl
theorem tIsSlice117 : tIsSlice Tryz.prog 117 = true := by kernel_rfl
theorem tAgg118 : tAgg Tryz.prog 118 = some false := by kernel_rfl
theorem tSz118 : tSz Tryz.prog 118 = some 1 := by kernel_rfl
theorem tBytes118 : tBytes Tryz.prog 118 = some 24 := by kernel_rfl
theorem tZero118 : tZero Tryz.prog 118 = some [.sl none 0 (some 0)] := by kernel_rfl
theorem tElem118 : tElem Tryz.prog 118 = some 44 := by kernel_rfl
theorem tIsSlice118 : tIsSlice Tryz.prog 118 = true := by kernel_rfl
theorem tAgg126 : tAgg Tryz.prog 126 = some true := by kernel_rfl
theorem tSz126 : tSz Tryz.prog 126 = some 4 := by kernel_rfl
theorem tBytes126 : tBytes Tryz.prog 126 = some 32 := by kernel_rfl
theorem tZero126 : tZero Tryz.prog 126 = some [.int .i64 0, .int .i64 0, .int .i64 0, .int .i64 0] := by kernel_rfl
theorem tPlaces126 : tPlaces Tryz.prog 126 = some [(0, 1), (1, 1), (2, 1), (3, 1)] := by kernel_rfl
theorem tFld126_0 : tFld Tryz.prog 126 0 = some (0, 3) := by kernel_rfl
theorem tFld126_1 : tFld Tryz.prog 126 1 = some (1, 3) := by kernel_rfl
theorem tFld126_2 : tFld Tryz.prog 126 2 = some (2, 3) := by kernel_rfl
theorem tFld126_3 : tFld Tryz.prog 126 3 = some (3, 3) := by kernel_rfl
theorem tGuard126 : Tryz.prog.eqGuardType Tryz.prog.depth 126 = false := by kernel_rfl
theorem tEq126 (a0 a1 a2 a3 b0 b1 b2 b3 : Int) : aEq Tryz.prog 20 126 [.int .i64 a0, .int .i64 a1, .int .i64 a2, .int .i64 a3] [.int .i64 b0, .int .i64 b1, .int .i64 b2, .int .i64 b3] = some ((a0 == b0) && ((a1 == b1) && ((a2 == b2) && ((a3 == b3) && true)))) := by kernel_rfl
theorem tAgg127 : tAgg Tryz.prog 127 = some true := by kernel_rfl
theorem tSz127 : tSz Tryz.prog 127 = some 4 := by kernel_rfl
theorem tBytes127 : tBytes Tryz.prog 127 = some 32 := by kernel_rfl
theorem tZero127 : tZero Tryz.prog 127 = some [.int .i64 0, .int .i64 0, .int .i64 0, .int .i64 0] := by kernel_rfl
theorem tPlaces127 : tPlaces Tryz.prog 127 = some [(0, 1), (1, 1), (2, 1), (3, 1)] := by kernel_rfl
theorem tFld127_0 : tFld Tryz.prog 127 0 = some (0, 3) := by kernel_rfl
theorem tFld127_1 : tFld Tryz.prog 127 1 = some (1, 3) := by kernel_rfl
theorem tFld127_2 : tFld Tryz.prog 127 2 = some (2, 3) := by kernel_rfl
theorem tFld127_3 : tFld Tryz.prog 127 3 = some (3, 3) := by kernel_rfl
theorem tGuard127 : Tryz.prog.eqGuardType Tryz.prog.depth 127 = false := by kernel_rfl
theorem tEq127 (a0 a1 a2 a3 b0 b1 b2 b3 : Int) : aEq Tryz.prog 20 127 [.int .i64 a0, .int .i64 a1, .int .i64 a2, .int .i64 a3] [.int .i64 b0, .int .i64 b1, .int .i64 b2, .int .i64 b3] = some ((a0 == b0) && ((a1 == b1) && ((a2 == b2) && ((a3 == b3) && true)))) := by kernel_rfl
theorem tAgg129 : tAgg Tryz.prog 129 = some true := by kernel_rfl
theorem tSz129 : tSz Tryz.prog 129 = some 3 := by kernel_rfl
theorem tBytes129 : tBytes Tryz.prog 129 = some 24 := by kernel_rfl
theorem tZero129 : tZero Tryz.prog 129 = some [.int .i64 0, .int .i64 0, .int .i64 0] := by kernel_rfl
theorem tPlaces129 : tPlaces Tryz.prog 129 = some [(0, 1), (1, 1), (2, 1)] := by kernel_rfl
theorem tFld129_0 : tFld Tryz.prog 129 0 = some (0, 3) := by kernel_rfl
theorem tFld129_1 : tFld Tryz.prog 129 1 = some (1, 3) := by kernel_rfl
theorem tFld129_2 : tFld Tryz.prog 129 2 = some (2, 3) := by kernel_rfl
theorem tGuard129 : Tryz.prog.eqGuardType Tryz.prog.depth 129 = false := by kernel_rfl
theorem tEq129 (a0 a1 a2 b0 b1 b2 : Int) : aEq Tryz.prog 20 129 [.int .i64 a0, .int .i64 a1, .int .i64 a2] [.int .i64 b0, .int .i64 b1, .int .i64 b2] = some ((a0 == b0) && ((a1 == b1) && ((a2 == b2) && true))) := by kernel_rfl
theorem tAgg130 : tAgg Tryz.prog 130 = some true := by kernel_rfl
theorem tSz130 : tSz Tryz.prog 130 = some 3 := by kernel_rfl
theorem tBytes130 : tBytes Tryz.prog 130 = some 24 := by kernel_rfl
theorem tZero130 : tZero Tryz.prog 130 = some [.int .i64 0, .int .i64 0, .int .i64 0] := by kernel_rfl
theorem tPlaces130 : tPlaces Tryz.prog 130 = some [(0, 1), (1, 1), (2, 1)] := by kernel_rfl
theorem tFld130_0 : tFld Tryz.prog 130 0 = some (0, 3) := by kernel_rfl
theorem tFld130_1 : tFld Tryz.prog 130 1 = some (1, 3) := by kernel_rfl
theorem tFld130_2 : tFld Tryz.prog 130 2 = some (2, 3) := by kernel_rfl
theorem tGuard130 : Tryz.prog.eqGuardType Tryz.prog.depth 130 = false := by kernel_rfl
theorem tEq130 (a0 a1 a2 b0 b1 b2 : Int) : aEq Tryz.prog 20 130 [.int .i64 a0, .int .i64 a1, .int .i64 a2] [.int .i64 b0, .int .i64 b1, .int .i64 b2] = some ((a0 == b0) && ((a1 == b1) && ((a2 == b2) && true))) := by kernel_rfl
theorem tAgg134 : tAgg Tryz.prog 134 = some false := by kernel_rfl
theorem tSz134 : tSz Tryz.prog 134 = some 1 := by kernel_rfl
theorem tBytes134 : tBytes Tryz.prog 134 = some 8 := by kernel_rfl
theorem tZero134 : tZero Tryz.prog 134 = some [.ptr none] := by kernel_rfl
theorem tAgg145 : tAgg Tryz.prog 145 = some true := by kernel_rfl
theorem tSz145 : tSz Tryz.prog 145 = some 2 := by kernel_rfl
theorem tBytes145 : tBytes Tryz.prog 145 = some 16 := by kernel_rfl
theorem tZero145 : tZero Tryz.prog 145 = some [.int .i64 0, .int .i64 0] := by kernel_rfl
theorem tPlaces145 : tPlaces Tryz.prog 145 = some [(0, 1), (1, 1)] := by kernel_rfl
theorem tFld145_0 : tFld Tryz.prog 145 0 = some (0, 3) := by kernel_rfl
theorem tFld145_1 : tFld Tryz.prog 145 1 = some (1, 3) := by kernel_rfl
theorem tGuard145 : Tryz.prog.eqGuardType Tryz.prog.depth 145 = false := by kernel_rfl
theorem tEq145 (a0 a1 b0 b1 : Int) : aEq Tryz.prog 20 145 [.int .i64 a0, .int .i64 a1] [.int .i64 b0, .int .i64 b1] = some ((a0 == b0) && ((a1 == b1) && true)) := by kernel_rfl
theorem tAgg146 : tAgg Tryz.prog 146 = some true := by kernel_rfl
theorem tSz146 : tSz Tryz.prog 146 = some 2 := by kernel_rfl
theorem tBytes146 : tBytes Tryz.prog 146 = some 16 := by kernel_rfl
theorem tZero146 : tZero Tryz.prog 146 = some [.int .i64 0, .int .i64 0] := by kernel_rfl
theorem tPlaces146 : tPlaces Tryz.prog 146 = some [(0, 1), (1, 1)] := by kernel_rfl
theorem tFld146_0 : tFld Tryz.prog 146 0 = some (0, 3) := by kernel_rfl
theorem tFld146_1 : tFld Tryz.prog 146 1 = some (1, 3) := by kernel_rfl
theorem tGuard146 : Tryz.prog.eqGuardType Tryz.prog.depth 146 = false := by kernel_rfl
theorem tEq146 (a0 a1 b0 b1 : Int) : aEq Tryz.prog 20 146 [.int .i64 a0, .int .i64 a1] [.int .i64 b0, .int .i64 b1] = some ((a0 == b0) && ((a1 == b1) && true)) := by kernel_rfl
theorem tAgg183 : tAgg Tryz.prog 183 = some true := by kernel_rfl
theorem tSz183 : tSz Tryz.prog 183 = some 9 := by kernel_rfl
theorem tBytes183 : tBytes Tryz.prog 183 = some 104 := by kernel_rfl
theorem tZero183 : tZero Tryz.prog 183 = some [.int .i64 0, .int .i64 0, .sl none 0 (some 0), .sl none 0 (some 0), .int .i64 0, .int .i64 0, .int .i64 0, .int .i64 0, .bool false] := by kernel_rfl
theorem tPlaces183 : tPlaces Tryz.prog 183 = some [(0, 3), (3, 1), (4, 4), (8, 1)] := by kernel_rfl
theorem tFld183_0 : tFld Tryz.prog 183 0 = some (0, 24) := by kernel_rfl
theorem tFld183_1 : tFld Tryz.prog 183 1 = some (3, 25) := by kernel_rfl
theorem tFld183_2 : tFld Tryz.prog 183 2 = some (4, 79) := by kernel_rfl
theorem tFld183_3 : tFld Tryz.prog 183 3 = some (8, 4) := by kernel_rfl
theorem tGuard183 : Tryz.prog.eqGuardType Tryz.prog.depth 183 = false := by kernel_rfl
theorem tAgg184 : tAgg Tryz.prog 184 = some true := by kernel_rfl
theorem tSz184 : tSz Tryz.prog 184 = some 9 := by kernel_rfl
theorem tBytes184 : tBytes Tryz.prog 184 = some 104 := by kernel_rfl
theorem tZero184 : tZero Tryz.prog 184 = some [.int .i64 0, .int .i64 0, .sl none 0 (some 0), .sl none 0 (some 0), .int .i64 0, .int .i64 0, .int .i64 0, .int .i64 0, .bool false] := by kernel_rfl
theorem tPlaces184 : tPlaces Tryz.prog 184 = some [(0, 3), (3, 1), (4, 4), (8, 1)] := by kernel_rfl
theorem tFld184_0 : tFld Tryz.prog 184 0 = some (0, 24) := by kernel_rfl
theorem tFld184_1 : tFld Tryz.prog 184 1 = some (3, 25) := by kernel_rfl
theorem tFld184_2 : tFld Tryz.prog 184 2 = some (4, 79) := by kernel_rfl
theorem tFld184_3 : tFld Tryz.prog 184 3 = some (8, 4) := by kernel_rfl
theorem tGuard184 : Tryz.prog.eqGuardType Tryz.prog.depth 184 = false := by kernel_rfl
theorem tAgg188 : tAgg Tryz.prog 188 = some false := by kernel_rfl
theorem tSz188 : tSz Tryz.prog 188 = some 1 := by kernel_rfl
theorem tBytes188 : tBytes Tryz.prog 188 = some 8 := by kernel_rfl
theorem tZero188 : tZero Tryz.prog 188 = some [.ptr none] := by kernel_rfl
theorem tAgg201 : tAgg Tryz.prog 201 = some false := by kernel_rfl
theorem tSz201 : tSz Tryz.prog 201 = some 1 := by kernel_rfl
theorem tBytes201 : tBytes Tryz.prog 201 = some 24 := by kernel_rfl
theorem tZero201 : tZero Tryz.prog 201 = some [.sl none 0 (some 0)] := by kernel_rfl
theorem tElem201 : tElem Tryz.prog 201 = some 204 := by kernel_rfl
theorem tIsSlice201 : tIsSlice Tryz.prog 201 = true := by kernel_rfl
theorem tAgg203 : tAgg Tryz.prog 203 = some true := by kernel_rfl
theorem tSz203 : tSz Tryz.prog 203 = some 9 := by kernel_rfl
theorem tBytes203 : tBytes Tryz.prog 203 = some 72 := by kernel_rfl
theorem tZero203 : tZero Tryz.prog 203 = some [.int .i64 0, .int .i64 0, .int .i64 0, .int .i64 0, .int .i64 0, .int .i64 0, .int .i64 0, .int .i64 0, .int .i64 0] := by kernel_rfl
theorem tPlaces203 : tPlaces Tryz.prog 203 = some [(0, 6), (6, 3)] := by kernel_rfl
theorem tFld203_0 : tFld Tryz.prog 203 0 = some (0, 58) := by kernel_rfl
theorem tFld203_1 : tFld Tryz.prog 203 1 = some (6, 130) := by kernel_rfl
theorem tGuard203 : Tryz.prog.eqGuardType Tryz.prog.depth 203 = false := by kernel_rfl
theorem tEq203 (a0 a1 a2 a3 a4 a5 a6 a7 a8 b0 b1 b2 b3 b4 b5 b6 b7 b8 : Int) : aEq Tryz.prog 20 203 [.int .i64 a0, .int .i64 a1, .int .i64 a2, .int .i64 a3, .int .i64 a4, .int .i64 a5, .int .i64 a6, .int .i64 a7, .int .i64 a8] [.int .i64 b0, .int .i64 b1, .int .i64 b2, .int .i64 b3, .int .i64 b4, .int .i64 b5, .int .i64 b6, .int .i64 b7, .int .i64 b8] = some (((a0 == b0) && ((a1 == b1) && ((a2 == b2) && ((a3 == b3) && ((a4 == b4) && ((a5 == b5) && true)))))) && (((a6 == b6) && ((a7 == b7) && ((a8 == b8) && true))) && true)) := by kernel_rfl
theorem tAgg204 : tAgg Tryz.prog 204 = some true := by kernel_rfl
theorem tSz204 : tSz Tryz.prog 204 = some 9 := by kernel_rfl
theorem tBytes204 : tBytes Tryz.prog 204 = some 72 := by kernel_rfl
theorem tZero204 : tZero Tryz.prog 204 = some [.int .i64 0, .int .i64 0, .int .i64 0, .int .i64 0, .int .i64 0, .int .i64 0, .int .i64 0, .int .i64 0, .int .i64 0] := by kernel_rfl
theorem tPlaces204 : tPlaces Tryz.prog 204 = some [(0, 6), (6, 3)] := by kernel_rfl
theorem tFld204_0 : tFld Tryz.prog 204 0 = some (0, 58) := by kernel_rfl
theorem tFld204_1 : tFld Tryz.prog 204 1 = some (6, 130) := by kernel_rfl
theorem tGuard204 : Tryz.prog.eqGuardType Tryz.prog.depth 204 = false := by kernel_rfl
theorem tEq204 (a0 a1 a2 a3 a4 a5 a6 a7 a8 b0 b1 b2 b3 b4 b5 b6 b7 b8 : Int) : aEq Tryz.prog 20 204 [.int .i64 a0, .int .i64 a1, .int .i64 a2, .int .i64 a3, .int .i64 a4, .int .i64 a5, .int .i64 a6, .int .i64 a7, .int .i64 a8] [.int .i64 b0, .int .i64 b1, .int .i64 b2, .int .i64 b3, .int .i64 b4, .int .i64 b5, .int .i64 b6, .int .i64 b7, .int .i64 b8] = some (((a0 == b0) && ((a1 == b1) && ((a2 == b2) && ((a3 == b3) && ((a4 == b4) && ((a5 == b5) && true)))))) && (((a6 == b6) && ((a7 == b7) && ((a8 == b8) && true))) && true)) := by kernel_rfl
theorem tAgg215 : tAgg Tryz.prog 215 = some true := by kernel_rfl
theorem tSz215 : tSz Tryz.prog 215 = some 2 := by kernel_rfl
theorem tBytes215 : tBytes Tryz.prog 215 = some 16 := by kernel_rfl
theorem tZero215 : tZero Tryz.prog 215 = some [.int .i64 0, .int .i64 0] := by kernel_rfl
theorem tPlaces215 : tPlaces Tryz.prog 215 = some [(0, 1), (1, 1)] := by kernel_rfl
theorem tFld215_0 : tFld Tryz.prog 215 0 = some (0, 3) := by kernel_rfl
theorem tFld215_1 : tFld Tryz.prog 215 1 = some (1, 3) := by kernel_rfl
theorem tGuard215 : Tryz.prog.eqGuardType Tryz.prog.depth 215 = false := by kernel_rfl
theorem tEq215 (a0 a1 b0 b1 : Int) : aEq Tryz.prog 20 215 [.int .i64 a0, .int .i64 a1] [.int .i64 b0, .int .i64 b1] = some ((a0 == b0) && ((a1 == b1) && true)) := by kernel_rfl
theorem tAgg216 : tAgg Tryz.prog 216 = some true := by kernel_rfl
theorem tSz216 : tSz Tryz.prog 216 = some 2 := by kernel_rfl
theorem tBytes216 : tBytes Tryz.prog 216 = some 16 := by kernel_rfl
theorem tZero216 : tZero Tryz.prog 216 = some [.int .i64 0, .int .i64 0] := by kernel_rfl
theorem tPlaces216 : tPlaces Tryz.prog 216 = some [(0, 1), (1, 1)] := by kernel_rfl
theorem tFld216_0 : tFld Tryz.prog 216 0 = some (0, 3) := by kernel_rfl
theorem tFld216_1 : tFld Tryz.prog 216 1 = some (1, 3) := by kernel_rfl
theorem tGuard216 : Tryz.prog.eqGuardType Tryz.prog.depth 216 = false := by kernel_rfl
theorem tEq216 (a0 a1 b0 b1 : Int) : aEq Tryz.prog 20 216 [.int .i64 a0, .int .i64 a1] [.int .i64 b0, .int .i64 b1] = some ((a0 == b0) && ((a1 == b1) && true)) := by kernel_rfl
theorem tAgg231 : tAgg Tryz.prog 231 = some false := by kernel_rfl
theorem tSz231 : tSz Tryz.prog 231 = some 1 := by kernel_rfl
theorem tBytes231 : tBytes Tryz.prog 231 = some 24 := by kernel_rfl
theorem tZero231 : tZero Tryz.prog 231 = some [.sl none 0 (some 0)] := by kernel_rfl
theorem tElem231 : tElem Tryz.prog 231 = some 86 := by kernel_rfl
theorem tIsSlice231 : tIsSlice Tryz.prog 231 = true := by kernel_rfl
theorem tAgg232 : tAgg Tryz.prog 232 = some true := by kernel_rfl
theorem tSz232 : tSz Tryz.prog 232 = some 3 := by kernel_rfl
theorem tBytes232 : tBytes Tryz.prog 232 = some 40 := by kernel_rfl
theorem tZero232 : tZero Tryz.prog 232 = some [.int .i64 0, .int .i64 0, .sl none 0 (some 0)] := by kernel_rfl
theorem tPlaces232 : tPlaces Tryz.prog 232 = some [(0, 1), (1, 1), (2, 1)] := by kernel_rfl
theorem tFld232_0 : tFld Tryz.prog 232 0 = some (0, 3) := by kernel_rfl
theorem tFld232_1 : tFld Tryz.prog 232 1 = some (1, 3) := by kernel_rfl
theorem tFld232_2 : tFld Tryz.prog 232 2 = some (2, 231) := by kernel_rfl
theorem tGuard232 : Tryz.prog.eqGuardType Tryz.prog.depth 232 = false := by kernel_rfl
theorem tAgg233 : tAgg Tryz.prog 233 = some true := by kernel_rfl
theorem tSz233 : tSz Tryz.prog 233 = some 3 := by kernel_rfl
theorem tBytes233 : tBytes Tryz.prog 233 = some 40 := by kernel_rfl
theorem tZero233 : tZero Tryz.prog 233 = some [.int .i64 0, .int .i64 0, .sl none 0 (some 0)] := by kernel_rfl
theorem tPlaces233 : tPlaces Tryz.prog 233 = some [(0, 1), (1, 1), (2, 1)] := by kernel_rfl
theorem tFld233_0 : tFld Tryz.prog 233 0 = some (0, 3) := by kernel_rfl
theorem tFld233_1 : tFld Tryz.prog 233 1 = some (1, 3) := by kernel_rfl
theorem tFld233_2 : tFld Tryz.prog 233 2 = some (2, 231) := by kernel_rfl
theorem tGuard233 : Tryz.prog.eqGuardType Tryz.prog.depth 233 = false := by kernel_rfl
theorem tAgg241 : tAgg Tryz.prog 241 = some false := by kernel_rfl
theorem tSz241 : tSz Tryz.prog 241 = some 1 := by kernel_rfl
theorem tBytes241 : tBytes Tryz.prog 241 = some 8 := by kernel_rfl
theorem tZero241 : tZero Tryz.prog 241 = some [.int .u64 0] := by kernel_rfl
theorem tInt241 : tInt Tryz.prog 241 = some .u64 := by kernel_rfl
theorem tUnd241 : Tryz.prog.underlying 241 = some (.int .u64) := by kernel_rfl
theorem tAgg245 : tAgg Tryz.prog 245 = some true := by kernel_rfl
theorem tSz245 : tSz Tryz.prog 245 = some 12 := by kernel_rfl
theorem tBytes245 : tBytes Tryz.prog 245 = some 112 := by kernel_rfl
theorem tZero245 : tZero Tryz.prog 245 = some [.int .i64 0, .int .i64 0, .sl none 0 (some 0), .int .i64 0, .int .i64 0, .int .i64 0, .int .i64 0, .int .i64 0, .int .i64 0, .int .i64 0, .int .i64 0, .int .i64 0] := by kernel_rfl
theorem tPlaces245 : tPlaces Tryz.prog 245 = some [(0, 3), (3, 4), (7, 3), (10, 1), (11, 1)] := by kernel_rfl
theorem tFld245_0 : tFld Tryz.prog 245 0 = some (0, 24) := by kernel_rfl
theorem tFld245_1 : tFld Tryz.prog 245 1 = some (3, 79) := by kernel_rfl
theorem tFld245_2 : tFld Tryz.prog 245 2 = some (7, 44) := by kernel_rfl
theorem tFld245_3 : tFld Tryz.prog 245 3 = some (10, 3) := by kernel_rfl
theorem tFld245_4 : tFld Tryz.prog 245 4 = some (11, 3) := by kernel_rfl
theorem tGuard245 : Tryz.prog.eqGuardType Tryz.prog.depth 245 = false := by kernel_rfl
theorem tAgg246 : tAgg Tryz.prog 246 = some true := by kernel_rfl
theorem tSz246 : tSz Tryz.prog 246 = some 12 := by kernel_rfl
theorem tBytes246 : tBytes Tryz.prog 246 = some 112 := by kernel_rfl
theorem tZero246 : tZero Tryz.prog 246 = some [.int .i64 0, .int .i64 0, .sl none 0 (some 0), .int .i64 0, .int .i64 0, .int .i64 0, .int .i64 0, .int .i64 0, .int .i64 0, .int .i64 0, .int .i64 0, .int .i64 0] := by kernel_rfl
theorem tPlaces246 : tPlaces Tryz.prog 246 = some [(0, 3), (3, 4), (7, 3), (10, 1), (11, 1)] := by kernel_rfl
theorem tFld246_0 : tFld Tryz.prog 246 0 = some (0, 24) := by kernel_rfl
theorem tFld246_1 : tFld Tryz.prog 246 1 = some (3, 79) := by kernel_rfl
theorem tFld246_2 : tFld Tryz.prog 246 2 = some (7, 44) := by kernel_rfl
theorem tFld246_3 : tFld Tryz.prog 246 3 = some (10, 3) := by kernel_rfl
theorem tFld246_4 : tFld Tryz.prog 246 4 = some (11, 3) := by kernel_rfl
theorem tGuard246 : Tryz.prog.eqGuardType Tryz.prog.depth 246 = false := by kernel_rfl
theorem tAgg274 : tAgg Tryz.prog 274 = some true := by kernel_rfl
theorem tSz274 : tSz Tryz.prog 274 = some 8 := by kernel_rfl
theorem tBytes274 : tBytes Tryz.prog 274 = some 64 := by kernel_rfl
theorem tZero274 : tZero Tryz.prog 274 = some [.int .i64 0, .int .i64 0, .int .i64 0, .int .i64 0, .int .i64 0, .int .i64 0, .int .i64 0, .int .i64 0] := by kernel_rfl
theorem tIdx274 : tIdx Tryz.prog 274 = some (some 4, 86) := by kernel_rfl
theorem tPlaces274 : tPlaces Tryz.prog 274 = some [(0, 2), (2, 2), (4, 2), (6, 2)] := by kernel_rfl
theorem tAgg284 : tAgg Tryz.prog 284 = some false := by kernel_rfl
theorem tSz284 : tSz Tryz.prog 284 = some 1 := by kernel_rfl
theorem tBytes284 : tBytes Tryz.prog 284 = some 8 := by kernel_rfl
theorem tZero284 : tZero Tryz.prog 284 = some [.int .i64 0] := by kernel_rfl
theorem tInt284 : tInt Tryz.prog 284 = some .i64 := by kernel_rfl
theorem tUnd284 : Tryz.prog.underlying 284 = some (.int .i64) := by kernel_rfl
theorem tAgg292 : tAgg Tryz.prog 292 = some false := by kernel_rfl
theorem tSz292 : tSz Tryz.prog 292 = some 1 := by kernel_rfl
theorem tBytes292 : tBytes Tryz.prog 292 = some 4 := by kernel_rfl
theorem tZero292 : tZero Tryz.prog 292 = some [.int .u32 0] := by kernel_rfl
theorem tInt292 : tInt Tryz.prog 292 = some .u32 := by kernel_rfl
theorem tUnd292 : Tryz.prog.underlying 292 = some (.int .u32) := by kernel_rfl
theorem tAgg294 : tAgg Tryz.prog 294 = some false := by kernel_rfl
theorem tSz294 : tSz Tryz.prog 294 = some 1 := by kernel_rfl
theorem tBytes294 : tBytes Tryz.prog 294 = some 8 := by kernel_rfl
theorem tZero294 : tZero Tryz.prog 294 = some [.int .u64 0] := by kernel_rfl
theorem tInt294 : tInt Tryz.prog 294 = some .u64 := by kernel_rfl
theorem tUnd294 : Tryz.prog.underlying 294 = some (.int .u64) := by kernel_rfl
theorem tAgg296 : tAgg Tryz.prog 296 = some true := by kernel_rfl
theorem tSz296 : tSz Tryz.prog 296 = some 6 := by kernel_rfl
theorem tBytes296 : tBytes Tryz.prog 296 = some 40 := by kernel_rfl
theorem tZero296 : tZero Tryz.prog 296 = some [.int .i64 0, .int .i64 0, .int .i64 0, .int .i64 0, .bool false, .bool false] := by kernel_rfl
theorem tPlaces296 : tPlaces Tryz.prog 296 = some [(0, 1), (1, 1), (2, 1), (3, 1), (4, 1), (5, 1)] := by kernel_rfl
theorem tFld296_0 : tFld Tryz.prog 296 0 = some (0, 3) := by kernel_rfl
theorem tFld296_1 : tFld Tryz.prog 296 1 = some (1, 3) := by kernel_rfl
theorem tFld296_2 : tFld Tryz.prog 296 2 = some (2, 3) := by kernel_rfl
theorem tFld296_3 : tFld Tryz.prog 296 3 = some (3, 3) := by kernel_rfl
theorem tFld296_4 : tFld Tryz.prog 296 4 = some (4, 4) := by kernel_rfl
theorem tFld296_5 : tFld Tryz.prog 296 5 = some (5, 4) := by kernel_rfl
theorem tGuard296 : Tryz.prog.eqGuardType Tryz.prog.depth 296 = false := by kernel_rfl
theorem tAgg297 : tAgg Tryz.prog 297 = some true := by kernel_rfl
theorem tSz297 : tSz Tryz.prog 297 = some 6 := by kernel_rfl
theorem tBytes297 : tBytes Tryz.prog 297 = some 40 := by kernel_rfl
theorem tZero297 : tZero Tryz.prog 297 = some [.int .i64 0, .int .i64 0, .int .i64 0, .int .i64 0, .bool false, .bool false] := by kernel_rfl
theorem tPlaces297 : tPlaces Tryz.prog 297 = some [(0, 1), (1, 1), (2, 1), (3, 1), (4, 1), (5, 1)] := by kernel_rfl
theorem tFld297_0 : tFld Tryz.prog 297 0 = some (0, 3) := by kernel_rfl
theorem tFld297_1 : tFld Tryz.prog 297 1 = some (1, 3) := by kernel_rfl
theorem tFld297_2 : tFld Tryz.prog 297 2 = some (2, 3) := by kernel_rfl
theorem tFld297_3 : tFld Tryz.prog 297 3 = some (3, 3) := by kernel_rfl
theorem tFld297_4 : tFld Tryz.prog 297 4 = some (4, 4) := by kernel_rfl
theorem tFld297_5 : tFld Tryz.prog 297 5 = some (5, 4) := by kernel_rfl
theorem tGuard297 : Tryz.prog.eqGuardType Tryz.prog.depth 297 = false := by kernel_rfl
theorem tAgg303 : tAgg Tryz.prog 303 = some true := by kernel_rfl
theorem tSz303 : tSz Tryz.prog 303 = some 4 := by kernel_rfl
theorem tBytes303 : tBytes Tryz.prog 303 = some 32 := by kernel_rfl
theorem tZero303 : tZero Tryz.prog 303 = some [.int .i64 0, .int .i64 0, .int .i64 0, .int .i64 0] := by kernel_rfl
theorem tIdx303 : tIdx Tryz.prog 303 = some (some 4, 3) := by kernel_rfl
theorem tPlaces303 : tPlaces Tryz.prog 303 = some [(0, 1), (1, 1), (2, 1), (3, 1)] := by kernel_rfl
theorem tAgg306 : tAgg Tryz.prog 306 = some true := by kernel_rfl
theorem tSz306 : tSz Tryz.prog 306 = some 2 := by kernel_rfl
theorem tBytes306 : tBytes Tryz.prog 306 = some 16 := by kernel_rfl
theorem tZero306 : tZero Tryz.prog 306 = some [.int .i64 0, .int .i64 0] := by kernel_rfl
theorem tIdx306 : tIdx Tryz.prog 306 = some (some 2, 3) := by kernel_rfl
theorem tPlaces306 : tPlaces Tryz.prog 306 = some [(0, 1), (1, 1)] := by kernel_rfl
theorem tAgg320 : tAgg Tryz.prog 320 = some true := by kernel_rfl
theorem tSz320 : tSz Tryz.prog 320 = some 4 := by kernel_rfl
theorem tBytes320 : tBytes Tryz.prog 320 = some 32 := by kernel_rfl
theorem tZero320 : tZero Tryz.prog 320 = some [.int .i64 0, .int .i64 0, .int .i64 0, .int .i64 0] := by kernel_rfl
theorem tPlaces320 : tPlaces Tryz.prog 320 = some [(0, 2), (2, 2)] := by kernel_rfl
theorem tFld320_0 : tFld Tryz.prog 320 0 = some (0, 216) := by kernel_rfl
theorem tFld320_1 : tFld Tryz.prog 320 1 = some (2, 216) := by kernel_rfl
theorem tGuard320 : Tryz.prog.eqGuardType Tryz.prog.depth 320 = false := by kernel_rfl
theorem tEq320 (a0 a1 a2 a3 b0 b1 b2 b3 : Int) : aEq Tryz.prog 20 320 [.int .i64 a0, .int .i64 a1, .int .i64 a2, .int .i64 a3] [.int .i64 b0, .int .i64 b1, .int .i64 b2, .int .i64 b3] = some (((a0 == b0) && ((a1 == b1) && true)) && (((a2 == b2) && ((a3 == b3) && true)) && true)) := by kernel_rfl
theorem tAgg321 : tAgg Tryz.prog 321 = some true := by kernel_rfl
theorem tSz321 : tSz Tryz.prog 321 = some 4 := by kernel_rfl
theorem tBytes321 : tBytes Tryz.prog 321 = some 32 := by kernel_rfl
theorem tZero321 : tZero Tryz.prog 321 = some [.int .i64 0, .int .i64 0, .int .i64 0, .int .i64 0] := by kernel_rfl
theorem tPlaces321 : tPlaces Tryz.prog 321 = some [(0, 2), (2, 2)] := by kernel_rfl
theorem tFld321_0 : tFld Tryz.prog 321 0 = some (0, 216) := by kernel_rfl
theorem tFld321_1 : tFld Tryz.prog 321 1 = some (2, 216) := by kernel_rfl
theorem tGuard321 : Tryz.prog.eqGuardType Tryz.prog.depth 321 = false := by kernel_rfl
theorem tEq321 (a0 a1 a2 a3 b0 b1 b2 b3 : Int) : aEq Tryz.prog 20 321 [.int .i64 a0, .int .i64 a1, .int .i64 a2, .int .i64 a3] [.int .i64 b0, .int .i64 b1, .int .i64 b2, .int .i64 b3] = some (((a0 == b0) && ((a1 == b1) && true)) && (((a2 == b2) && ((a3 == b3) && true)) && true)) := by kernel_rfl
theorem tAgg324 : tAgg Tryz.prog 324 = some false := by kernel_rfl
theorem tSz324 : tSz Tryz.prog 324 = some 1 := by kernel_rfl
theorem tBytes324 : tBytes Tryz.prog 324 = some 8 := by kernel_rfl
theorem tZero324 : tZero Tryz.prog 324 = some [.int .u64 0] := by kernel_rfl
theorem tInt324 : tInt Tryz.prog 324 = some .u64 := by kernel_rfl
theorem tUnd324 : Tryz.prog.underlying 324 = some (.int .u64) := by kernel_rfl
theorem tAgg328 : tAgg Tryz.prog 328 = some false := by kernel_rfl
theorem tSz328 : tSz Tryz.prog 328 = some 1 := by kernel_rfl
theorem tBytes328 : tBytes Tryz.prog 328 = some 8 := by kernel_rfl
theorem tZero328 : tZero Tryz.prog 328 = some [.ptr none] := by kernel_rfl
theorem tAgg333 : tAgg Tryz.prog 333 = some false := by kernel_rfl
theorem tSz333 : tSz Tryz.prog 333 = some 1 := by kernel_rfl
theorem tBytes333 : tBytes Tryz.prog 333 = some 24 := by kernel_rfl
theorem tZero333 : tZero Tryz.prog 333 = some [.sl none 0 (some 0)] := by kernel_rfl
theorem tElem333 : tElem Tryz.prog 333 = some 231 := by kernel_rfl
theorem tIsSlice333 : tIsSlice Tryz.prog 333 = true := by kernel_rfl
theorem tAgg339 : tAgg Tryz.prog 339 = some false := by kernel_rfl
theorem tSz339 : tSz Tryz.prog 339 = some 1 := by kernel_rfl
theorem tBytes339 : tBytes Tryz.prog 339 = some 8 := by kernel_rfl
theorem tZero339 : tZero Tryz.prog 339 = some [.ptr none] := by kernel_rfl
theorem tAgg343 : tAgg Tryz.prog 343 = some false := by kernel_rfl
theorem tSz343 : tSz Tryz.prog 343 = some 1 := by kernel_rfl
theorem tBytes343 : tBytes Tryz.prog 343 = some 8 := by kernel_rfl
theorem tZero343 : tZero Tryz.prog 343 = some [.ptr none] := by kernel_rfl
theorem tAgg353 : tAgg Tryz.prog 353 = some true := by kernel_rfl
theorem tSz353 : tSz Tryz.prog 353 = some 4 := by kernel_rfl
theorem tBytes353 : tBytes Tryz.prog 353 = some 40 := by kernel_rfl
theorem tZero353 : tZero Tryz.prog 353 = some [.ptr none, .ptr none, .ptr none, .str []] := by kernel_rfl
theorem tPlaces353 : tPlaces Tryz.prog 353 = some [(0, 1), (1, 1), (2, 1), (3, 1)] := by kernel_rfl
theorem tFld353_0 : tFld Tryz.prog 353 0 = some (0, 17) := by kernel_rfl
theorem tFld353_1 : tFld Tryz.prog 353 1 = some (1, 17) := by kernel_rfl
theorem tFld353_2 : tFld Tryz.prog 353 2 = some (2, 17) := by kernel_rfl
theorem tFld353_3 : tFld Tryz.prog 353 3 = some (3, 9) := by kernel_rfl
theorem tGuard353 : Tryz.prog.eqGuardType Tryz.prog.depth 353 = false := by kernel_rfl
theorem tAgg363 : tAgg Tryz.prog 363 = some true := by kernel_rfl
theorem tSz363 : tSz Tryz.prog 363 = some 11 := by kernel_rfl
theorem tBytes363 : tBytes Tryz.prog 363 = some 48 := by kernel_rfl
theorem tZero363 : tZero Tryz.prog 363 = some [.int .u64 0, .int .u64 0, .int .u32 0, .int .u8 0, .int .u8 0, .int .u8 0, .int .u8 0, .nilfn, .ptr none, .int .i32 0, .int .i32 0] := by kernel_rfl
theorem tPlaces363 : tPlaces Tryz.prog 363 = some [(0, 1), (1, 1), (2, 1), (3, 1), (4, 1), (5, 1), (6, 1), (7, 1), (8, 1), (9, 1), (10, 1)] := by kernel_rfl
theorem tFld363_0 : tFld Tryz.prog 363 0 = some (0, 12) := by kernel_rfl
theorem tFld363_1 : tFld Tryz.prog 363 1 = some (1, 12) := by kernel_rfl
theorem tFld363_2 : tFld Tryz.prog 363 2 = some (2, 292) := by kernel_rfl
theorem tFld363_3 : tFld Tryz.prog 363 3 = some (3, 358) := by kernel_rfl
theorem tFld363_4 : tFld Tryz.prog 363 4 = some (4, 5) := by kernel_rfl
theorem tFld363_5 : tFld Tryz.prog 363 5 = some (5, 5) := by kernel_rfl
theorem tFld363_6 : tFld Tryz.prog 363 6 = some (6, 359) := by kernel_rfl
theorem tFld363_7 : tFld Tryz.prog 363 7 = some (7, 360) := by kernel_rfl
theorem tFld363_8 : tFld Tryz.prog 363 8 = some (8, 134) := by kernel_rfl
theorem tFld363_9 : tFld Tryz.prog 363 9 = some (9, 361) := by kernel_rfl
theorem tFld363_10 : tFld Tryz.prog 363 10 = some (10, 362) := by kernel_rfl
theorem tGuard363 : Tryz.prog.eqGuardType Tryz.prog.depth 363 = false := by kernel_rfl
theorem tyset0 : type_of% (And.intro (@tAgg2) <| And.intro (@tSz2) <| And.intro (@tBytes2) <| And.intro (@tZero2) <| And.intro (@tInt2) <| And.intro (@tUnd2) <| And.intro (@tAgg3) <| And.intro (@tSz3) <| And.intro (@tBytes3) <| And.intro (@tZero3) <| And.intro (@tInt3) <| And.intro (@tUnd3) <| And.intro (@tAgg4) <| And.intro (@tSz4) <| And.intro (@tBytes4) <| And.intro (@tZero4) <| And.intro (@tIsBool4) <| And.intro (@tAgg5) <| And.intro (@tSz5) <| And.intro (@tBytes5) <| And.intro (@tZero5) <| And.intro (@tInt5) <| And.intro (@tUnd5) <| (@tAgg7)) :=
  And.intro (@tAgg2) <| And.intro (@tSz2) <| And.intro (@tBytes2) <| And.intro (@tZero2) <| And.intro (@tInt2) <| And.intro (@tUnd2) <| And.intro (@tAgg3) <| And.intro (@tSz3) <| And.intro (@tBytes3) <| And.intro (@tZero3) <| And.intro (@tInt3) <| And.intro (@tUnd3) <| And.intro (@tAgg4) <| And.intro (@tSz4) <| And.intro (@tBytes4) <| And.intro (@tZero4) <| And.intro (@tIsBool4) <| And.intro (@tAgg5) <| And.intro (@tSz5) <| And.intro (@tBytes5) <| And.intro (@tZero5) <| And.intro (@tInt5) <| And.intro (@tUnd5) <| (@tAgg7)
theorem tyset1 : type_of% (And.intro (@tSz7) <| And.intro (@tBytes7) <| And.intro (@tZero7) <| And.intro (@tPlaces7) <| And.intro (@tFld7_0) <| And.intro (@tFld7_1) <| And.intro (@tFld7_2) <| And.intro (@tFld7_3) <| And.intro (@tGuard7) <| And.intro (@tAgg9) <| And.intro (@tSz9) <| And.intro (@tBytes9) <| And.intro (@tZero9) <| And.intro (@tAgg12) <| And.intro (@tSz12) <| And.intro (@tBytes12) <| And.intro (@tZero12) <| And.intro (@tInt12) <| And.intro (@tUnd12) <| And.intro (@tAgg13) <| And.intro (@tSz13) <| And.intro (@tBytes13) <| And.intro (@tZero13) <| (@tPlaces13)) :=
  And.intro (@tSz7) <| And.intro (@tBytes7) <| And.intro (@tZero7) <| And.intro (@tPlaces7) <| And.intro (@tFld7_0) <| And.intro (@tFld7_1) <| And.intro (@tFld7_2) <| And.intro (@tFld7_3) <| And.intro (@tGuard7) <| And.intro (@tAgg9) <| And.intro (@tSz9) <| And.intro (@tBytes9) <| And.intro (@tZero9) <| And.intro (@tAgg12) <| And.intro (@tSz12) <| And.intro (@tBytes12) <| And.intro (@tZero12) <| And.intro (@tInt12) <| And.intro (@tUnd12) <| And.intro (@tAgg13) <| And.intro (@tSz13) <| And.intro (@tBytes13) <| And.intro (@tZero13) <| (@tPlaces13)
theorem tyset2 : type_of% (And.intro (@tFld13_0) <| And.intro (@tFld13_1) <| And.intro (@tGuard13) <| And.intro (@tAgg17) <| And.intro (@tSz17) <| And.intro (@tBytes17) <| And.intro (@tZero17) <| And.intro (@tAgg18) <| And.intro (@tSz18) <| And.intro (@tBytes18) <| And.intro (@tZero18) <| And.intro (@tPlaces18) <| And.intro (@tFld18_0) <| And.intro (@tGuard18) <| And.intro (@tAgg21) <| And.intro (@tSz21) <| And.intro (@tBytes21) <| And.intro (@tZero21) <| And.intro (@tInt21) <| And.intro (@tUnd21) <| And.intro (@tAgg22) <| And.intro (@tSz22) <| And.intro (@tBytes22) <| (@tZero22)) :=
  And.intro (@tFld13_0) <| And.intro (@tFld13_1) <| And.intro (@tGuard13) <| And.intro (@tAgg17) <| And.intro (@tSz17) <| And.intro (@tBytes17) <| And.intro (@tZero17) <| And.intro (@tAgg18) <| And.intro (@tSz18) <| And.intro (@tBytes18) <| And.intro (@tZero18) <| And.intro (@tPlaces18) <| And.intro (@tFld18_0) <| And.intro (@tGuard18) <| And.intro (@tAgg21) <| And.intro (@tSz21) <| And.intro (@tBytes21) <| And.intro (@tZero21) <| And.intro (@tInt21) <| And.intro (@tUnd21) <| And.intro (@tAgg22) <| And.intro (@tSz22) <| And.intro (@tBytes22) <| (@tZero22)
theorem tyset3 : type_of% (And.intro (@tElem22) <| And.intro (@tIsSlice22) <| And.intro (@tAgg23) <| And.intro (@tSz23) <| And.intro (@tBytes23) <| And.intro (@tZero23) <| And.intro (@tPlaces23) <| And.intro (@tFld23_0) <| And.intro (@tFld23_1) <| And.intro (@tFld23_2) <| And.intro (@tGuard23) <| And.intro (@tAgg24) <| And.intro (@tSz24) <| And.intro (@tBytes24) <| And.intro (@tZero24) <| And.intro (@tPlaces24) <| And.intro (@tFld24_0) <| And.intro (@tFld24_1) <| And.intro (@tFld24_2) <| And.intro (@tGuard24) <| And.intro (@tAgg25) <| And.intro (@tSz25) <| And.intro (@tBytes25) <| (@tZero25)) :=
  And.intro (@tElem22) <| And.intro (@tIsSlice22) <| And.intro (@tAgg23) <| And.intro (@tSz23) <| And.intro (@tBytes23) <| And.intro (@tZero23) <| And.intro (@tPlaces23) <| And.intro (@tFld23_0) <| And.intro (@tFld23_1) <| And.intro (@tFld23_2) <| And.intro (@tGuard23) <| And.intro (@tAgg24) <| And.intro (@tSz24) <| And.intro (@tBytes24) <| And.intro (@tZero24) <| And.intro (@tPlaces24) <| And.intro (@tFld24_0) <| And.intro (@tFld24_1) <| And.intro (@tFld24_2) <| And.intro (@tGuard24) <| And.intro (@tAgg25) <| And.intro (@tSz25) <| And.intro (@tBytes25) <| (@tZero25)
theorem tyset4 : type_of% (And.intro (@tElem25) <| And.intro (@tIsSlice25) <| And.intro (@tAgg26) <| And.intro (@tSz26) <| And.intro (@tBytes26) <| And.intro (@tZero26) <| And.intro (@tElem26) <| And.intro (@tIsSlice26) <| And.intro (@tAgg29) <| And.intro (@tSz29) <| And.intro (@tBytes29) <| And.intro (@tZero29) <| And.intro (@tElem29) <| And.intro (@tIsSlice29) <| And.intro (@tAgg30) <| And.intro (@tSz30) <| And.intro (@tBytes30) <| And.intro (@tZero30) <| And.intro (@tInt30) <| And.intro (@tUnd30) <| And.intro (@tAgg36) <| And.intro (@tSz36) <| And.intro (@tBytes36) <| (@tZero36)) :=
  And.intro (@tElem25) <| And.intro (@tIsSlice25) <| And.intro (@tAgg26) <| And.intro (@tSz26) <| And.intro (@tBytes26) <| And.intro (@tZero26) <| And.intro (@tElem26) <| And.intro (@tIsSlice26) <| And.intro (@tAgg29) <| And.intro (@tSz29) <| And.intro (@tBytes29) <| And.intro (@tZero29) <| And.intro (@tElem29) <| And.intro (@tIsSlice29) <| And.intro (@tAgg30) <| And.intro (@tSz30) <| And.intro (@tBytes30) <| And.intro (@tZero30) <| And.intro (@tInt30) <| And.intro (@tUnd30) <| And.intro (@tAgg36) <| And.intro (@tSz36) <| And.intro (@tBytes36) <| (@tZero36)
theorem tyset5 : type_of% (And.intro (@tPlaces36) <| And.intro (@tFld36_0) <| And.intro (@tFld36_1) <| And.intro (@tGuard36) <| And.intro (@tEq36) <| And.intro (@tAgg37) <| And.intro (@tSz37) <| And.intro (@tBytes37) <| And.intro (@tZero37) <| And.intro (@tPlaces37) <| And.intro (@tFld37_0) <| And.intro (@tFld37_1) <| And.intro (@tGuard37) <| And.intro (@tEq37) <| And.intro (@tAgg43) <| And.intro (@tSz43) <| And.intro (@tBytes43) <| And.intro (@tZero43) <| And.intro (@tPlaces43) <| And.intro (@tFld43_0) <| And.intro (@tFld43_1) <| And.intro (@tFld43_2) <| And.intro (@tGuard43) <| (@tEq43)) :=
  And.intro (@tPlaces36) <| And.intro (@tFld36_0) <| And.intro (@tFld36_1) <| And.intro (@tGuard36) <| And.intro (@tEq36) <| And.intro (@tAgg37) <| And.intro (@tSz37) <| And.intro (@tBytes37) <| And.intro (@tZero37) <| And.intro (@tPlaces37) <| And.intro (@tFld37_0) <| And.intro (@tFld37_1) <| And.intro (@tGuard37) <| And.intro (@tEq37) <| And.intro (@tAgg43) <| And.intro (@tSz43) <| And.intro (@tBytes43) <| And.intro (@tZero43) <| And.intro (@tPlaces43) <| And.intro (@tFld43_0) <| And.intro (@tFld43_1) <| And.intro (@tFld43_2) <| And.intro (@tGuard43) <| (@tEq43)
theorem tyset6 : type_of% (And.intro (@tAgg44) <| And.intro (@tSz44) <| And.intro (@tBytes44) <| And.intro (@tZero44) <| And.intro (@tPlaces44) <| And.intro (@tFld44_0) <| And.intro (@tFld44_1) <| And.intro (@tFld44_2) <| And.intro (@tGuard44) <| And.intro (@tEq44) <| And.intro (@tAgg45) <| And.intro (@tSz45) <| And.intro (@tBytes45) <| And.intro (@tZero45) <| And.intro (@tPlaces45) <| And.intro (@tFld45_0) <| And.intro (@tFld45_1) <| And.intro (@tGuard45) <| And.intro (@tEq45) <| And.intro (@tAgg46) <| And.intro (@tSz46) <| And.intro (@tBytes46) <| And.intro (@tZero46) <| (@tPlaces46)) :=
  And.intro (@tAgg44) <| And.intro (@tSz44) <| And.intro (@tBytes44) <| And.intro (@tZero44) <| And.intro (@tPlaces44) <| And.intro (@tFld44_0) <| And.intro (@tFld44_1) <| And.intro (@tFld44_2) <| And.intro (@tGuard44) <| And.intro (@tEq44) <| And.intro (@tAgg45) <| And.intro (@tSz45) <| And.intro (@tBytes45) <| And.intro (@tZero45) <| And.intro (@tPlaces45) <| And.intro (@tFld45_0) <| And.intro (@tFld45_1) <| And.intro (@tGuard45) <| And.intro (@tEq45) <| And.intro (@tAgg46) <| And.intro (@tSz46) <| And.intro (@tBytes46) <| And.intro (@tZero46) <| (@tPlaces46)
theorem tyset7 : type_of% (And.intro (@tFld46_0) <| And.intro (@tFld46_1) <| And.intro (@tGuard46) <| And.intro (@tEq46) <| And.intro (@tAgg47) <| And.intro (@tSz47) <| And.intro (@tBytes47) <| And.intro (@tZero47) <| And.intro (@tPlaces47) <| And.intro (@tFld47_0) <| And.intro (@tFld47_1) <| And.intro (@tFld47_2) <| And.intro (@tFld47_3) <| And.intro (@tGuard47) <| And.intro (@tEq47) <| And.intro (@tAgg48) <| And.intro (@tSz48) <| And.intro (@tBytes48) <| And.intro (@tZero48) <| And.intro (@tPlaces48) <| And.intro (@tFld48_0) <| And.intro (@tFld48_1) <| And.intro (@tFld48_2) <| (@tFld48_3)) :=
  And.intro (@tFld46_0) <| And.intro (@tFld46_1) <| And.intro (@tGuard46) <| And.intro (@tEq46) <| And.intro (@tAgg47) <| And.intro (@tSz47) <| And.intro (@tBytes47) <| And.intro (@tZero47) <| And.intro (@tPlaces47) <| And.intro (@tFld47_0) <| And.intro (@tFld47_1) <| And.intro (@tFld47_2) <| And.intro (@tFld47_3) <| And.intro (@tGuard47) <| And.intro (@tEq47) <| And.intro (@tAgg48) <| And.intro (@tSz48) <| And.intro (@tBytes48) <| And.intro (@tZero48) <| And.intro (@tPlaces48) <| And.intro (@tFld48_0) <| And.intro (@tFld48_1) <| And.intro (@tFld48_2) <| (@tFld48_3)
theorem tyset8 : type_of% (And.intro (@tGuard48) <| And.intro (@tEq48) <| And.intro (@tAgg49) <| And.intro (@tSz49) <| And.intro (@tBytes49) <| And.intro (@tZero49) <| And.intro (@tElem49) <| And.intro (@tIsSlice49) <| And.intro (@tAgg50) <| And.intro (@tSz50) <| And.intro (@tBytes50) <| And.intro (@tZero50) <| And.intro (@tPlaces50) <| And.intro (@tFld50_0) <| And.intro (@tFld50_1) <| And.intro (@tFld50_2) <| And.intro (@tFld50_3) <| And.intro (@tGuard50) <| And.intro (@tAgg51) <| And.intro (@tSz51) <| And.intro (@tBytes51) <| And.intro (@tZero51) <| And.intro (@tPlaces51) <| (@tFld51_0)) :=
  And.intro (@tGuard48) <| And.intro (@tEq48) <| And.intro (@tAgg49) <| And.intro (@tSz49) <| And.intro (@tBytes49) <| And.intro (@tZero49) <| And.intro (@tElem49) <| And.intro (@tIsSlice49) <| And.intro (@tAgg50) <| And.intro (@tSz50) <| And.intro (@tBytes50) <| And.intro (@tZero50) <| And.intro (@tPlaces50) <| And.intro (@tFld50_0) <| And.intro (@tFld50_1) <| And.intro (@tFld50_2) <| And.intro (@tFld50_3) <| And.intro (@tGuard50) <| And.intro (@tAgg51) <| And.intro (@tSz51) <| And.intro (@tBytes51) <| And.intro (@tZero51) <| And.intro (@tPlaces51) <| (@tFld51_0)
theorem tyset9 : type_of% (And.intro (@tFld51_1) <| And.intro (@tFld51_2) <| And.intro (@tFld51_3) <| And.intro (@tGuard51) <| And.intro (@tAgg57) <| And.intro (@tSz57) <| And.intro (@tBytes57) <| And.intro (@tZero57) <| And.intro (@tPlaces57) <| And.intro (@tFld57_0) <| And.intro (@tFld57_1) <| And.intro (@tFld57_2) <| And.intro (@tFld57_3) <| And.intro (@tFld57_4) <| And.intro (@tFld57_5) <| And.intro (@tGuard57) <| And.intro (@tEq57) <| And.intro (@tAgg58) <| And.intro (@tSz58) <| And.intro (@tBytes58) <| And.intro (@tZero58) <| And.intro (@tPlaces58) <| And.intro (@tFld58_0) <| (@tFld58_1)) :=
  And.intro (@tFld51_1) <| And.intro (@tFld51_2) <| And.intro (@tFld51_3) <| And.intro (@tGuard51) <| And.intro (@tAgg57) <| And.intro (@tSz57) <| And.intro (@tBytes57) <| And.intro (@tZero57) <| And.intro (@tPlaces57) <| And.intro (@tFld57_0) <| And.intro (@tFld57_1) <| And.intro (@tFld57_2) <| And.intro (@tFld57_3) <| And.intro (@tFld57_4) <| And.intro (@tFld57_5) <| And.intro (@tGuard57) <| And.intro (@tEq57) <| And.intro (@tAgg58) <| And.intro (@tSz58) <| And.intro (@tBytes58) <| And.intro (@tZero58) <| And.intro (@tPlaces58) <| And.intro (@tFld58_0) <| (@tFld58_1)
theorem tyset10 : type_of% (And.intro (@tFld58_2) <| And.intro (@tFld58_3) <| And.intro (@tFld58_4) <| And.intro (@tFld58_5) <| And.intro (@tGuard58) <| And.intro (@tEq58) <| And.intro (@tAgg62) <| And.intro (@tSz62) <| And.intro (@tBytes62) <| And.intro (@tZero62) <| And.intro (@tPlaces62) <| And.intro (@tFld62_0) <| And.intro (@tFld62_1) <| And.intro (@tGuard62) <| And.intro (@tEq62) <| And.intro (@tAgg63) <| And.intro (@tSz63) <| And.intro (@tBytes63) <| And.intro (@tZero63) <| And.intro (@tPlaces63) <| And.intro (@tFld63_0) <| And.intro (@tFld63_1) <| And.intro (@tGuard63) <| (@tEq63)) :=
  And.intro (@tFld58_2) <| And.intro (@tFld58_3) <| And.intro (@tFld58_4) <| And.intro (@tFld58_5) <| And.intro (@tGuard58) <| And.intro (@tEq58) <| And.intro (@tAgg62) <| And.intro (@tSz62) <| And.intro (@tBytes62) <| And.intro (@tZero62) <| And.intro (@tPlaces62) <| And.intro (@tFld62_0) <| And.intro (@tFld62_1) <| And.intro (@tGuard62) <| And.intro (@tEq62) <| And.intro (@tAgg63) <| And.intro (@tSz63) <| And.intro (@tBytes63) <| And.intro (@tZero63) <| And.intro (@tPlaces63) <| And.intro (@tFld63_0) <| And.intro (@tFld63_1) <| And.intro (@tGuard63) <| (@tEq63)
theorem tyset11 : type_of% (And.intro (@tAgg68) <| And.intro (@tSz68) <| And.intro (@tBytes68) <| And.intro (@tZero68) <| And.intro (@tPlaces68) <| And.intro (@tFld68_0) <| And.intro (@tFld68_1) <| And.intro (@tFld68_2) <| And.intro (@tFld68_3) <| And.intro (@tFld68_4) <| And.intro (@tFld68_5) <| And.intro (@tGuard68) <| And.intro (@tAgg69) <| And.intro (@tSz69) <| And.intro (@tBytes69) <| And.intro (@tZero69) <| And.intro (@tPlaces69) <| And.intro (@tFld69_0) <| And.intro (@tFld69_1) <| And.intro (@tFld69_2) <| And.intro (@tFld69_3) <| And.intro (@tFld69_4) <| And.intro (@tFld69_5) <| (@tGuard69)) :=
  And.intro (@tAgg68) <| And.intro (@tSz68) <| And.intro (@tBytes68) <| And.intro (@tZero68) <| And.intro (@tPlaces68) <| And.intro (@tFld68_0) <| And.intro (@tFld68_1) <| And.intro (@tFld68_2) <| And.intro (@tFld68_3) <| And.intro (@tFld68_4) <| And.intro (@tFld68_5) <| And.intro (@tGuard68) <| And.intro (@tAgg69) <| And.intro (@tSz69) <| And.intro (@tBytes69) <| And.intro (@tZero69) <| And.intro (@tPlaces69) <| And.intro (@tFld69_0) <| And.intro (@tFld69_1) <| And.intro (@tFld69_2) <| And.intro (@tFld69_3) <| And.intro (@tFld69_4) <| And.intro (@tFld69_5) <| (@tGuard69)
theorem tyset12 : type_of% (And.intro (@tAgg78) <| And.intro (@tSz78) <| And.intro (@tBytes78) <| And.intro (@tZero78) <| And.intro (@tPlaces78) <| And.intro (@tFld78_0) <| And.intro (@tFld78_1) <| And.intro (@tFld78_2) <| And.intro (@tFld78_3) <| And.intro (@tGuard78) <| And.intro (@tEq78) <| And.intro (@tAgg79) <| And.intro (@tSz79) <| And.intro (@tBytes79) <| And.intro (@tZero79) <| And.intro (@tPlaces79) <| And.intro (@tFld79_0) <| And.intro (@tFld79_1) <| And.intro (@tFld79_2) <| And.intro (@tFld79_3) <| And.intro (@tGuard79) <| And.intro (@tEq79) <| And.intro (@tAgg80) <| (@tSz80)) :=
  And.intro (@tAgg78) <| And.intro (@tSz78) <| And.intro (@tBytes78) <| And.intro (@tZero78) <| And.intro (@tPlaces78) <| And.intro (@tFld78_0) <| And.intro (@tFld78_1) <| And.intro (@tFld78_2) <| And.intro (@tFld78_3) <| And.intro (@tGuard78) <| And.intro (@tEq78) <| And.intro (@tAgg79) <| And.intro (@tSz79) <| And.intro (@tBytes79) <| And.intro (@tZero79) <| And.intro (@tPlaces79) <| And.intro (@tFld79_0) <| And.intro (@tFld79_1) <| And.intro (@tFld79_2) <| And.intro (@tFld79_3) <| And.intro (@tGuard79) <| And.intro (@tEq79) <| And.intro (@tAgg80) <| (@tSz80)
theorem tyset13 : type_of% (And.intro (@tBytes80) <| And.intro (@tZero80) <| And.intro (@tPlaces80) <| And.intro (@tFld80_0) <| And.intro (@tFld80_1) <| And.intro (@tFld80_2) <| And.intro (@tGuard80) <| And.intro (@tAgg81) <| And.intro (@tSz81) <| And.intro (@tBytes81) <| And.intro (@tZero81) <| And.intro (@tPlaces81) <| And.intro (@tFld81_0) <| And.intro (@tFld81_1) <| And.intro (@tFld81_2) <| And.intro (@tGuard81) <| And.intro (@tAgg82) <| And.intro (@tSz82) <| And.intro (@tBytes82) <| And.intro (@tZero82) <| And.intro (@tPlaces82) <| And.intro (@tFld82_0) <| And.intro (@tFld82_1) <| (@tGuard82)) :=
  And.intro (@tBytes80) <| And.intro (@tZero80) <| And.intro (@tPlaces80) <| And.intro (@tFld80_0) <| And.intro (@tFld80_1) <| And.intro (@tFld80_2) <| And.intro (@tGuard80) <| And.intro (@tAgg81) <| And.intro (@tSz81) <| And.intro (@tBytes81) <| And.intro (@tZero81) <| And.intro (@tPlaces81) <| And.intro (@tFld81_0) <| And.intro (@tFld81_1) <| And.intro (@tFld81_2) <| And.intro (@tGuard81) <| And.intro (@tAgg82) <| And.intro (@tSz82) <| And.intro (@tBytes82) <| And.intro (@tZero82) <| And.intro (@tPlaces82) <| And.intro (@tFld82_0) <| And.intro (@tFld82_1) <| (@tGuard82)
theorem tyset14 : type_of% (And.intro (@tAgg83) <| And.intro (@tSz83) <| And.intro (@tBytes83) <| And.intro (@tZero83) <| And.intro (@tPlaces83) <| And.intro (@tFld83_0) <| And.intro (@tFld83_1) <| And.intro (@tGuard83) <| And.intro (@tAgg86) <| And.intro (@tSz86) <| And.intro (@tBytes86) <| And.intro (@tZero86) <| And.intro (@tPlaces86) <| And.intro (@tFld86_0) <| And.intro (@tFld86_1) <| And.intro (@tGuard86) <| And.intro (@tEq86) <| And.intro (@tAgg91) <| And.intro (@tSz91) <| And.intro (@tBytes91) <| And.intro (@tZero91) <| And.intro (@tElem91) <| And.intro (@tIsSlice91) <| (@tAgg100)) :=
  And.intro (@tAgg83) <| And.intro (@tSz83) <| And.intro (@tBytes83) <| And.intro (@tZero83) <| And.intro (@tPlaces83) <| And.intro (@tFld83_0) <| And.intro (@tFld83_1) <| And.intro (@tGuard83) <| And.intro (@tAgg86) <| And.intro (@tSz86) <| And.intro (@tBytes86) <| And.intro (@tZero86) <| And.intro (@tPlaces86) <| And.intro (@tFld86_0) <| And.intro (@tFld86_1) <| And.intro (@tGuard86) <| And.intro (@tEq86) <| And.intro (@tAgg91) <| And.intro (@tSz91) <| And.intro (@tBytes91) <| And.intro (@tZero91) <| And.intro (@tElem91) <| And.intro (@tIsSlice91) <| (@tAgg100)
theorem tyset15 : type_of% (And.intro (@tSz100) <| And.intro (@tBytes100) <| And.intro (@tZero100) <| And.intro (@tElem100) <| And.intro (@tIsSlice100) <| And.intro (@tAgg101) <| And.intro (@tSz101) <| And.intro (@tBytes101) <| And.intro (@tZero101) <| And.intro (@tAgg104) <| And.intro (@tSz104) <| And.intro (@tBytes104) <| And.intro (@tZero104) <| And.intro (@tPlaces104) <| And.intro (@tFld104_0) <| And.intro (@tFld104_1) <| And.intro (@tFld104_2) <| And.intro (@tFld104_3) <| And.intro (@tGuard104) <| And.intro (@tAgg105) <| And.intro (@tSz105) <| And.intro (@tBytes105) <| And.intro (@tZero105) <| (@tPlaces105)) :=
  And.intro (@tSz100) <| And.intro (@tBytes100) <| And.intro (@tZero100) <| And.intro (@tElem100) <| And.intro (@tIsSlice100) <| And.intro (@tAgg101) <| And.intro (@tSz101) <| And.intro (@tBytes101) <| And.intro (@tZero101) <| And.intro (@tAgg104) <| And.intro (@tSz104) <| And.intro (@tBytes104) <| And.intro (@tZero104) <| And.intro (@tPlaces104) <| And.intro (@tFld104_0) <| And.intro (@tFld104_1) <| And.intro (@tFld104_2) <| And.intro (@tFld104_3) <| And.intro (@tGuard104) <| And.intro (@tAgg105) <| And.intro (@tSz105) <| And.intro (@tBytes105) <| And.intro (@tZero105) <| (@tPlaces105)
theorem tyset16 : type_of% (And.intro (@tFld105_0) <| And.intro (@tFld105_1) <| And.intro (@tFld105_2) <| And.intro (@tFld105_3) <| And.intro (@tGuard105) <| And.intro (@tAgg106) <| And.intro (@tSz106) <| And.intro (@tBytes106) <| And.intro (@tZero106) <| And.intro (@tPlaces106) <| And.intro (@tFld106_0) <| And.intro (@tFld106_1) <| And.intro (@tGuard106) <| And.intro (@tAgg107) <| And.intro (@tSz107) <| And.intro (@tBytes107) <| And.intro (@tZero107) <| And.intro (@tPlaces107) <| And.intro (@tFld107_0) <| And.intro (@tFld107_1) <| And.intro (@tGuard107) <| And.intro (@tAgg115) <| And.intro (@tSz115) <| (@tBytes115)) :=
  And.intro (@tFld105_0) <| And.intro (@tFld105_1) <| And.intro (@tFld105_2) <| And.intro (@tFld105_3) <| And.intro (@tGuard105) <| And.intro (@tAgg106) <| And.intro (@tSz106) <| And.intro (@tBytes106) <| And.intro (@tZero106) <| And.intro (@tPlaces106) <| And.intro (@tFld106_0) <| And.intro (@tFld106_1) <| And.intro (@tGuard106) <| And.intro (@tAgg107) <| And.intro (@tSz107) <| And.intro (@tBytes107) <| And.intro (@tZero107) <| And.intro (@tPlaces107) <| And.intro (@tFld107_0) <| And.intro (@tFld107_1) <| And.intro (@tGuard107) <| And.intro (@tAgg115) <| And.intro (@tSz115) <| (@tBytes115)
theorem tyset17 : type_of% (And.intro (@tZero115) <| And.intro (@tElem115) <| And.intro (@tIsSlice115) <| And.intro (@tAgg117) <| And.intro (@tSz117) <| And.intro (@tBytes117) <| And.intro (@tZero117) <| And.intro (@tElem117) <| And.intro (@tIsSlice117) <| And.intro (@tAgg118) <| And.intro (@tSz118) <| And.intro (@tBytes118) <| And.intro (@tZero118) <| And.intro (@tElem118) <| And.intro (@tIsSlice118) <| And.intro (@tAgg126) <| And.intro (@tSz126) <| And.intro (@tBytes126) <| And.intro (@tZero126) <| And.intro (@tPlaces126) <| And.intro (@tFld126_0) <| And.intro (@tFld126_1) <| And.intro (@tFld126_2) <| (@tFld126_3)) :=
  And.intro (@tZero115) <| And.intro (@tElem115) <| And.intro (@tIsSlice115) <| And.intro (@tAgg117) <| And.intro (@tSz117) <| And.intro (@tBytes117) <| And.intro (@tZero117) <| And.intro (@tElem117) <| And.intro (@tIsSlice117) <| And.intro (@tAgg118) <| And.intro (@tSz118) <| And.intro (@tBytes118) <| And.intro (@tZero118) <| And.intro (@tElem118) <| And.intro (@tIsSlice118) <| And.intro (@tAgg126) <| And.intro (@tSz126) <| And.intro (@tBytes126) <| And.intro (@tZero126) <| And.intro (@tPlaces126) <| And.intro (@tFld126_0) <| And.intro (@tFld126_1) <| And.intro (@tFld126_2) <| (@tFld126_3)
theorem tyset18 : type_of% (And.intro (@tGuard126) <| And.intro (@tEq126) <| And.intro (@tAgg127) <| And.intro (@tSz127) <| And.intro (@tBytes127) <| And.intro (@tZero127) <| And.intro (@tPlaces127) <| And.intro (@tFld127_0) <| And.intro (@tFld127_1) <| And.intro (@tFld127_2) <| And.intro (@tFld127_3) <| And.intro (@tGuard127) <| And.intro (@tEq127) <| And.intro (@tAgg129) <| And.intro (@tSz129) <| And.intro (@tBytes129) <| And.intro (@tZero129) <| And.intro (@tPlaces129) <| And.intro (@tFld129_0) <| And.intro (@tFld129_1) <| And.intro (@tFld129_2) <| And.intro (@tGuard129) <| And.intro (@tEq129) <| (@tAgg130)) :=
  And.intro (@tGuard126) <| And.intro (@tEq126) <| And.intro (@tAgg127) <| And.intro (@tSz127) <| And.intro (@tBytes127) <| And.intro (@tZero127) <| And.intro (@tPlaces127) <| And.intro (@tFld127_0) <| And.intro (@tFld127_1) <| And.intro (@tFld127_2) <| And.intro (@tFld127_3) <| And.intro (@tGuard127) <| And.intro (@tEq127) <| And.intro (@tAgg129) <| And.intro (@tSz129) <| And.intro (@tBytes129) <| And.intro (@tZero129) <| And.intro (@tPlaces129) <| And.intro (@tFld129_0) <| And.intro (@tFld129_1) <| And.intro (@tFld129_2) <| And.intro (@tGuard129) <| And.intro (@tEq129) <| (@tAgg130)
theorem tyset19 : type_of% (And.intro (@tSz130) <| And.intro (@tBytes130) <| And.intro (@tZero130) <| And.intro (@tPlaces130) <| And.intro (@tFld130_0) <| And.intro (@tFld130_1) <| And.intro (@tFld130_2) <| And.intro (@tGuard130) <| And.intro (@tEq130) <| And.intro (@tAgg134) <| And.intro (@tSz134) <| And.intro (@tBytes134) <| And.intro (@tZero134) <| And.intro (@tAgg145) <| And.intro (@tSz145) <| And.intro (@tBytes145) <| And.intro (@tZero145) <| And.intro (@tPlaces145) <| And.intro (@tFld145_0) <| And.intro (@tFld145_1) <| And.intro (@tGuard145) <| And.intro (@tEq145) <| And.intro (@tAgg146) <| (@tSz146)) :=
  And.intro (@tSz130) <| And.intro (@tBytes130) <| And.intro (@tZero130) <| And.intro (@tPlaces130) <| And.intro (@tFld130_0) <| And.intro (@tFld130_1) <| And.intro (@tFld130_2) <| And.intro (@tGuard130) <| And.intro (@tEq130) <| And.intro (@tAgg134) <| And.intro (@tSz134) <| And.intro (@tBytes134) <| And.intro (@tZero134) <| And.intro (@tAgg145) <| And.intro (@tSz145) <| And.intro (@tBytes145) <| And.intro (@tZero145) <| And.intro (@tPlaces145) <| And.intro (@tFld145_0) <| And.intro (@tFld145_1) <| And.intro (@tGuard145) <| And.intro (@tEq145) <| And.intro (@tAgg146) <| (@tSz146)
theorem tyset20 : type_of% (And.intro (@tBytes146) <| And.intro (@tZero146) <| And.intro (@tPlaces146) <| And.intro (@tFld146_0) <| And.intro (@tFld146_1) <| And.intro (@tGuard146) <| And.intro (@tEq146) <| And.intro (@tAgg183) <| And.intro (@tSz183) <| And.intro (@tBytes183) <| And.intro (@tZero183) <| And.intro (@tPlaces183) <| And.intro (@tFld183_0) <| And.intro (@tFld183_1) <| And.intro (@tFld183_2) <| And.intro (@tFld183_3) <| And.intro (@tGuard183) <| And.intro (@tAgg184) <| And.intro (@tSz184) <| And.intro (@tBytes184) <| And.intro (@tZero184) <| And.intro (@tPlaces184) <| And.intro (@tFld184_0) <| (@tFld184_1)) :=
  And.intro (@tBytes146) <| And.intro (@tZero146) <| And.intro (@tPlaces146) <| And.intro (@tFld146_0) <| And.intro (@tFld146_1) <| And.intro (@tGuard146) <| And.intro (@tEq146) <| And.intro (@tAgg183) <| And.intro (@tSz183) <| And.intro (@tBytes183) <| And.intro (@tZero183) <| And.intro (@tPlaces183) <| And.intro (@tFld183_0) <| And.intro (@tFld183_1) <| And.intro (@tFld183_2) <| And.intro (@tFld183_3) <| And.intro (@tGuard183) <| And.intro (@tAgg184) <| And.intro (@tSz184) <| And.intro (@tBytes184) <| And.intro (@tZero184) <| And.intro (@tPlaces184) <| And.intro (@tFld184_0) <| (@tFld184_1)
theorem tyset21 : type_of% (And.intro (@tFld184_2) <| And.intro (@tFld184_3) <| And.intro (@tGuard184) <| And.intro (@tAgg188) <| And.intro (@tSz188) <| And.intro (@tBytes188) <| And.intro (@tZero188) <| And.intro (@tAgg201) <| And.intro (@tSz201) <| And.intro (@tBytes201) <| And.intro (@tZero201) <| And.intro (@tElem201) <| And.intro (@tIsSlice201) <| And.intro (@tAgg203) <| And.intro (@tSz203) <| And.intro (@tBytes203) <| And.intro (@tZero203) <| And.intro (@tPlaces203) <| And.intro (@tFld203_0) <| And.intro (@tFld203_1) <| And.intro (@tGuard203) <| And.intro (@tEq203) <| And.intro (@tAgg204) <| (@tSz204)) :=
  And.intro (@tFld184_2) <| And.intro (@tFld184_3) <| And.intro (@tGuard184) <| And.intro (@tAgg188) <| And.intro (@tSz188) <| And.intro (@tBytes188) <| And.intro (@tZero188) <| And.intro (@tAgg201) <| And.intro (@tSz201) <| And.intro (@tBytes201) <| And.intro (@tZero201) <| And.intro (@tElem201) <| And.intro (@tIsSlice201) <| And.intro (@tAgg203) <| And.intro (@tSz203) <| And.intro (@tBytes203) <| And.intro (@tZero203) <| And.intro (@tPlaces203) <| And.intro (@tFld203_0) <| And.intro (@tFld203_1) <| And.intro (@tGuard203) <| And.intro (@tEq203) <| And.intro (@tAgg204) <| (@tSz204)
theorem tyset22 : type_of% (And.intro (@tBytes204) <| And.intro (@tZero204) <| And.intro (@tPlaces204) <| And.intro (@tFld204_0) <| And.intro (@tFld204_1) <| And.intro (@tGuard204) <| And.intro (@tEq204) <| And.intro (@tAgg215) <| And.intro (@tSz215) <| And.intro (@tBytes215) <| And.intro (@tZero215) <| And.intro (@tPlaces215) <| And.intro (@tFld215_0) <| And.intro (@tFld215_1) <| And.intro (@tGuard215) <| And.intro (@tEq215) <| And.intro (@tAgg216) <| And.intro (@tSz216) <| And.intro (@tBytes216) <| And.intro (@tZero216) <| And.intro (@tPlaces216) <| And.intro (@tFld216_0) <| And.intro (@tFld216_1) <| (@tGuard216)) :=
  And.intro (@tBytes204) <| And.intro (@tZero204) <| And.intro (@tPlaces204) <| And.intro (@tFld204_0) <| And.intro (@tFld204_1) <| And.intro (@tGuard204) <| And.intro (@tEq204) <| And.intro (@tAgg215) <| And.intro (@tSz215) <| And.intro (@tBytes215) <| And.intro (@tZero215) <| And.intro (@tPlaces215) <| And.intro (@tFld215_0) <| And.intro (@tFld215_1) <| And.intro (@tGuard215) <| And.intro (@tEq215) <| And.intro (@tAgg216) <| And.intro (@tSz216) <| And.intro (@tBytes216) <| And.intro (@tZero216) <| And.intro (@tPlaces216) <| And.intro (@tFld216_0) <| And.intro (@tFld216_1) <| (@tGuard216)
theorem tyset23 : type_of% (And.intro (@tEq216) <| And.intro (@tAgg231) <| And.intro (@tSz231) <| And.intro (@tBytes231) <| And.intro (@tZero231) <| And.intro (@tElem231) <| And.intro (@tIsSlice231) <| And.intro (@tAgg232) <| And.intro (@tSz232) <| And.intro (@tBytes232) <| And.intro (@tZero232) <| And.intro (@tPlaces232) <| And.intro (@tFld232_0) <| And.intro (@tFld232_1) <| And.intro (@tFld232_2) <| And.intro (@tGuard232) <| And.intro (@tAgg233) <| And.intro (@tSz233) <| And.intro (@tBytes233) <| And.intro (@tZero233) <| And.intro (@tPlaces233) <| And.intro (@tFld233_0) <| And.intro (@tFld233_1) <| (@tFld233_2)) :=
  And.intro (@tEq216) <| And.intro (@tAgg231) <| And.intro (@tSz231) <| And.intro (@tBytes231) <| And.intro (@tZero231) <| And.intro (@tElem231) <| And.intro (@tIsSlice231) <| And.intro (@tAgg232) <| And.intro (@tSz232) <| And.intro (@tBytes232) <| And.intro (@tZero232) <| And.intro (@tPlaces232) <| And.intro (@tFld232_0) <| And.intro (@tFld232_1) <| And.intro (@tFld232_2) <| And.intro (@tGuard232) <| And.intro (@tAgg233) <| And.intro (@tSz233) <| And.intro (@tBytes233) <| And.intro (@tZero233) <| And.intro (@tPlaces233) <| And.intro (@tFld233_0) <| And.intro (@tFld233_1) <| (@tFld233_2)
theorem tyset24 : type_of% (And.intro (@tGuard233) <| And.intro (@tAgg241) <| And.intro (@tSz241) <| And.intro (@tBytes241) <| And.intro (@tZero241) <| And.intro (@tInt241) <| And.intro (@tUnd241) <| And.intro (@tAgg245) <| And.intro (@tSz245) <| And.intro (@tBytes245) <| And.intro (@tZero245) <| And.intro (@tPlaces245) <| And.intro (@tFld245_0) <| And.intro (@tFld245_1) <| And.intro (@tFld245_2) <| And.intro (@tFld245_3) <| And.intro (@tFld245_4) <| And.intro (@tGuard245) <| And.intro (@tAgg246) <| And.intro (@tSz246) <| And.intro (@tBytes246) <| And.intro (@tZero246) <| And.intro (@tPlaces246) <| (@tFld246_0)) :=
  And.intro (@tGuard233) <| And.intro (@tAgg241) <| And.intro (@tSz241) <| And.intro (@tBytes241) <| And.intro (@tZero241) <| And.intro (@tInt241) <| And.intro (@tUnd241) <| And.intro (@tAgg245) <| And.intro (@tSz245) <| And.intro (@tBytes245) <| And.intro (@tZero245) <| And.intro (@tPlaces245) <| And.intro (@tFld245_0) <| And.intro (@tFld245_1) <| And.intro (@tFld245_2) <| And.intro (@tFld245_3) <| And.intro (@tFld245_4) <| And.intro (@tGuard245) <| And.intro (@tAgg246) <| And.intro (@tSz246) <| And.intro (@tBytes246) <| And.intro (@tZero246) <| And.intro (@tPlaces246) <| (@tFld246_0)
theorem tyset25 : type_of% (And.intro (@tFld246_1) <| And.intro (@tFld246_2) <| And.intro (@tFld246_3) <| And.intro (@tFld246_4) <| And.intro (@tGuard246) <| And.intro (@tAgg274) <| And.intro (@tSz274) <| And.intro (@tBytes274) <| And.intro (@tZero274) <| And.intro (@tIdx274) <| And.intro (@tPlaces274) <| And.intro (@tAgg284) <| And.intro (@tSz284) <| And.intro (@tBytes284) <| And.intro (@tZero284) <| And.intro (@tInt284) <| And.intro (@tUnd284) <| And.intro (@tAgg292) <| And.intro (@tSz292) <| And.intro (@tBytes292) <| And.intro (@tZero292) <| And.intro (@tInt292) <| And.intro (@tUnd292) <| (@tAgg294)) :=
  And.intro (@tFld246_1) <| And.intro (@tFld246_2) <| And.intro (@tFld246_3) <| And.intro (@tFld246_4) <| And.intro (@tGuard246) <| And.intro (@tAgg274) <| And.intro (@tSz274) <| And.intro (@tBytes274) <| And.intro (@tZero274) <| And.intro (@tIdx274) <| And.intro (@tPlaces274) <| And.intro (@tAgg284) <| And.intro (@tSz284) <| And.intro (@tBytes284) <| And.intro (@tZero284) <| And.intro (@tInt284) <| And.intro (@tUnd284) <| And.intro (@tAgg292) <| And.intro (@tSz292) <| And.intro (@tBytes292) <| And.intro (@tZero292) <| And.intro (@tInt292) <| And.intro (@tUnd292) <| (@tAgg294)
theorem tyset26 : type_of% (And.intro (@tSz294) <| And.intro (@tBytes294) <| And.intro (@tZero294) <| And.intro (@tInt294) <| And.intro (@tUnd294) <| And.intro (@tAgg296) <| And.intro (@tSz296) <| And.intro (@tBytes296) <| And.intro (@tZero296) <| And.intro (@tPlaces296) <| And.intro (@tFld296_0) <| And.intro (@tFld296_1) <| And.intro (@tFld296_2) <| And.intro (@tFld296_3) <| And.intro (@tFld296_4) <| And.intro (@tFld296_5) <| And.intro (@tGuard296) <| And.intro (@tAgg297) <| And.intro (@tSz297) <| And.intro (@tBytes297) <| And.intro (@tZero297) <| And.intro (@tPlaces297) <| And.intro (@tFld297_0) <| (@tFld297_1)) :=
  And.intro (@tSz294) <| And.intro (@tBytes294) <| And.intro (@tZero294) <| And.intro (@tInt294) <| And.intro (@tUnd294) <| And.intro (@tAgg296) <| And.intro (@tSz296) <| And.intro (@tBytes296) <| And.intro (@tZero296) <| And.intro (@tPlaces296) <| And.intro (@tFld296_0) <| And.intro (@tFld296_1) <| And.intro (@tFld296_2) <| And.intro (@tFld296_3) <| And.intro (@tFld296_4) <| And.intro (@tFld296_5) <| And.intro (@tGuard296) <| And.intro (@tAgg297) <| And.intro (@tSz297) <| And.intro (@tBytes297) <| And.intro (@tZero297) <| And.intro (@tPlaces297) <| And.intro (@tFld297_0) <| (@tFld297_1)
theorem tyset27 : type_of% (And.intro (@tFld297_2) <| And.intro (@tFld297_3) <| And.intro (@tFld297_4) <| And.intro (@tFld297_5) <| And.intro (@tGuard297) <| And.intro (@tAgg303) <| And.intro (@tSz303) <| And.intro (@tBytes303) <| And.intro (@tZero303) <| And.intro (@tIdx303) <| And.intro (@tPlaces303) <| And.intro (@tAgg306) <| And.intro (@tSz306) <| And.intro (@tBytes306) <| And.intro (@tZero306) <| And.intro (@tIdx306) <| And.intro (@tPlaces306) <| And.intro (@tAgg320) <| And.intro (@tSz320) <| And.intro (@tBytes320) <| And.intro (@tZero320) <| And.intro (@tPlaces320) <| And.intro (@tFld320_0) <| (@tFld320_1)) :=
  And.intro (@tFld297_2) <| And.intro (@tFld297_3) <| And.intro (@tFld297_4) <| And.intro (@tFld297_5) <| And.intro (@tGuard297) <| And.intro (@tAgg303) <| And.intro (@tSz303) <| And.intro (@tBytes303) <| And.intro (@tZero303) <| And.intro (@tIdx303) <| And.intro (@tPlaces303) <| And.intro (@tAgg306) <| And.intro (@tSz306) <| And.intro (@tBytes306) <| And.intro (@tZero306) <| And.intro (@tIdx306) <| And.intro (@tPlaces306) <| And.intro (@tAgg320) <| And.intro (@tSz320) <| And.intro (@tBytes320) <| And.intro (@tZero320) <| And.intro (@tPlaces320) <| And.intro (@tFld320_0) <| (@tFld320_1)
theorem tyset28 : type_of% (And.intro (@tGuard320) <| And.intro (@tEq320) <| And.intro (@tAgg321) <| And.intro (@tSz321) <| And.intro (@tBytes321) <| And.intro (@tZero321) <| And.intro (@tPlaces321) <| And.intro (@tFld321_0) <| And.intro (@tFld321_1) <| And.intro (@tGuard321) <| And.intro (@tEq321) <| And.intro (@tAgg324) <| And.intro (@tSz324) <| And.intro (@tBytes324) <| And.intro (@tZero324) <| And.intro (@tInt324) <| And.intro (@tUnd324) <| And.intro (@tAgg328) <| And.intro (@tSz328) <| And.intro (@tBytes328) <| And.intro (@tZero328) <| And.intro (@tAgg333) <| And.intro (@tSz333) <| (@tBytes333)) :=
  And.intro (@tGuard320) <| And.intro (@tEq320) <| And.intro (@tAgg321) <| And.intro (@tSz321) <| And.intro (@tBytes321) <| And.intro (@tZero321) <| And.intro (@tPlaces321) <| And.intro (@tFld321_0) <| And.intro (@tFld321_1) <| And.intro (@tGuard321) <| And.intro (@tEq321) <| And.intro (@tAgg324) <| And.intro (@tSz324) <| And.intro (@tBytes324) <| And.intro (@tZero324) <| And.intro (@tInt324) <| And.intro (@tUnd324) <| And.intro (@tAgg328) <| And.intro (@tSz328) <| And.intro (@tBytes328) <| And.intro (@tZero328) <| And.intro (@tAgg333) <| And.intro (@tSz333) <| (@tBytes333)
theorem tyset29 : type_of% (And.intro (@tZero333) <| And.intro (@tElem333) <| And.intro (@tIsSlice333) <| And.intro (@tAgg339) <| And.intro (@tSz339) <| And.intro (@tBytes339) <| And.intro (@tZero339) <| And.intro (@tAgg343) <| And.intro (@tSz343) <| And.intro (@tBytes343) <| And.intro (@tZero343) <| And.intro (@tAgg353) <| And.intro (@tSz353) <| And.intro (@tBytes353) <| And.intro (@tZero353) <| And.intro (@tPlaces353) <| And.intro (@tFld353_0) <| And.intro (@tFld353_1) <| And.intro (@tFld353_2) <| And.intro (@tFld353_3) <| And.intro (@tGuard353) <| And.intro (@tAgg363) <| And.intro (@tSz363) <| (@tBytes363)) :=
  And.intro (@tZero333) <| And.intro (@tElem333) <| And.intro (@tIsSlice333) <| And.intro (@tAgg339) <| And.intro (@tSz339) <| And.intro (@tBytes339) <| And.intro (@tZero339) <| And.intro (@tAgg343) <| And.intro (@tSz343) <| And.intro (@tBytes343) <| And.intro (@tZero343) <| And.intro (@tAgg353) <| And.intro (@tSz353) <| And.intro (@tBytes353) <| And.intro (@tZero353) <| And.intro (@tPlaces353) <| And.intro (@tFld353_0) <| And.intro (@tFld353_1) <| And.intro (@tFld353_2) <| And.intro (@tFld353_3) <| And.intro (@tGuard353) <| And.intro (@tAgg363) <| And.intro (@tSz363) <| (@tBytes363)
theorem tyset30 : type_of% (And.intro (@tZero363) <| And.intro (@tPlaces363) <| And.intro (@tFld363_0) <| And.intro (@tFld363_1) <| And.intro (@tFld363_2) <| And.intro (@tFld363_3) <| And.intro (@tFld363_4) <| And.intro (@tFld363_5) <| And.intro (@tFld363_6) <| And.intro (@tFld363_7) <| And.intro (@tFld363_8) <| And.intro (@tFld363_9) <| And.intro (@tFld363_10) <| (@tGuard363)) :=
  And.intro (@tZero363) <| And.intro (@tPlaces363) <| And.intro (@tFld363_0) <| And.intro (@tFld363_1) <| And.intro (@tFld363_2) <| And.intro (@tFld363_3) <| And.intro (@tFld363_4) <| And.intro (@tFld363_5) <| And.intro (@tFld363_6) <| And.intro (@tFld363_7) <| And.intro (@tFld363_8) <| And.intro (@tFld363_9) <| And.intro (@tFld363_10) <| (@tGuard363)
theorem tyset : type_of% (And.intro (@tyset0) <| And.intro (@tyset1) <| And.intro (@tyset2) <| And.intro (@tyset3) <| And.intro (@tyset4) <| And.intro (@tyset5) <| And.intro (@tyset6) <| And.intro (@tyset7) <| And.intro (@tyset8) <| And.intro (@tyset9) <| And.intro (@tyset10) <| And.intro (@tyset11) <| And.intro (@tyset12) <| And.intro (@tyset13) <| And.intro (@tyset14) <| And.intro (@tyset15) <| And.intro (@tyset16) <| And.intro (@tyset17) <| And.intro (@tyset18) <| And.intro (@tyset19) <| And.intro (@tyset20) <| And.intro (@tyset21) <| And.intro (@tyset22) <| And.intro (@tyset23) <| And.intro (@tyset24) <| And.intro (@tyset25) <| And.intro (@tyset26) <| And.intro (@tyset27) <| And.intro (@tyset28) <| And.intro (@tyset29) <| (@tyset30)) :=
  And.intro (@tyset0) <| And.intro (@tyset1) <| And.intro (@tyset2) <| And.intro (@tyset3) <| And.intro (@tyset4) <| And.intro (@tyset5) <| And.intro (@tyset6) <| And.intro (@tyset7) <| And.intro (@tyset8) <| And.intro (@tyset9) <| And.intro (@tyset10) <| And.intro (@tyset11) <| And.intro (@tyset12) <| And.intro (@tyset13) <| And.intro (@tyset14) <| And.intro (@tyset15) <| And.intro (@tyset16) <| And.intro (@tyset17) <| And.intro (@tyset18) <| And.intro (@tyset19) <| And.intro (@tyset20) <| And.intro (@tyset21) <| And.intro (@tyset22) <| And.intro (@tyset23) <| And.intro (@tyset24) <| And.intro (@tyset25) <| And.intro (@tyset26) <| And.intro (@tyset27) <| And.intro (@tyset28) <| And.intro (@tyset29) <| (@tyset30)

set_option linter.unusedSimpArgs false
set_option linter.unusedVariables false
open Go.RowKit
theorem own : ownKnob Tryz.prog.godebug = none := by kernel_rfl
theorem laidOut : laidOutB Tryz.prog = true := by kernel_rfl
open Go.RowKit
/-- A slice of n elements that are the whole of a block, or an empty one. -/
def Sl (H : AHeap) (sz : Nat) (s : AV) (n : Nat) (xs : List AV) : Prop := ∃ b own cap, s = .sl (some (b, 0)) n cap ∧ H[b]? = some (.cells own sz xs)
theorem Sl.app {H : AHeap} {sz n : Nat} {s : AV} {xs : List AV} (h : Sl H sz s n xs) (l : AHeap) : Sl (H ++ l) sz s n xs := by
  obtain ⟨b, own, cap, h1, h2⟩ := h
  exact ⟨b, own, cap, h1, get_app h2⟩
abbrev SlI (H : AHeap) (k : IntKind) (s : AV) (l : List Int) : Prop := Sl H 1 s l.length (ints k l)
/-- A row that began as nil and has grown: its capacity, and whether its block is the function's own. -/
def capG (n : Nat) : Option Nat := match n with | 0 => some 0 | _ + 1 => none
def ownG (n : Nat) : Bool := match n with | 0 => false | _ + 1 => true
theorem capG_0 : capG 0 = some 0 := rfl
theorem ownG_0 : ownG 0 = false := rfl
theorem capG_s {n : Nat} : capG (n + 1) = none := rfl
theorem ownG_s {n : Nat} : ownG (n + 1) = true := rfl
theorem capG_p {n : Nat} (h : 0 < n) : capG n = none := by cases n <;> first | rfl | omega
theorem ownG_p {n : Nat} (h : 0 < n) : ownG n = true := by cases n <;> first | rfl | omega
theorem aApp_nil {P : Program} {t : TypeId} {n : Nat} {c : Option Nat} {x : AV} {H : AHeap} : aAppend P t (.sl none n c) x H = (tElem P t).bind fun e => (tSz P e).bind fun sz => (tBytes P e).bind fun by_ => (tZero P e).bind fun z => (aElems sz x H).bind fun mx =>
    (need (z.length = sz ∧ 0 < sz ∧ 0 < by_)).bind fun _ => (need (n = 0)).bind fun _ => bif mx.1 == 0 then some (.sl none 0 (some 0), H) else (need (mx.1 * by_ ≤ 140737488355328)).map fun _ => (.sl (some (H.length, 0)) mx.1 none, H ++ [.cells true sz mx.2]) := rfl
theorem aApp_none {P : Program} {t : TypeId} {b o n : Nat} {x : AV} {H : AHeap} : aAppend P t (.sl (some (b, o)) n none) x H = (tElem P t).bind fun e => (tSz P e).bind fun sz => (tBytes P e).bind fun by_ => (tZero P e).bind fun z => (aElems sz x H).bind fun mx =>
    (need (z.length = sz ∧ 0 < sz ∧ 0 < by_)).bind fun _ => (ards H b o (n * sz)).bind fun olds => (need ((n + mx.1) * by_ ≤ 140737488355328)).bind fun _ =>
      bif n + mx.1 == 0 then some (.sl (some (b, o)) 0 none, H)
      else match H[b]? with
        | some (.cells true es _) => (need (es = sz)).map fun _ => (.sl (some (H.length, 0)) (n + mx.1) none, H.set b .dead ++ [.cells true sz (olds ++ mx.2)])
        | _ => none := rfl
theorem aApp_some {P : Program} {t : TypeId} {b o n c : Nat} {x : AV} {H : AHeap} : aAppend P t (.sl (some (b, o)) n (some c)) x H = (tElem P t).bind fun e => (tSz P e).bind fun sz => (tBytes P e).bind fun by_ => (tZero P e).bind fun z => (aElems sz x H).bind fun mx =>
    (need (z.length = sz ∧ 0 < sz ∧ 0 < by_)).bind fun _ => (ards H b o (n * sz)).bind fun olds => (need ((n + mx.1) * by_ ≤ 140737488355328)).bind fun _ =>
      bif n + mx.1 == 0 then some (.sl (some (b, o)) 0 (some c), H)
      else bif decide (c < n + mx.1) then some (.sl (some (H.length, 0)) (n + mx.1) none, H ++ [.cells true sz (olds ++ mx.2)])
      else match H[b]? with
        | some (.cells true es _) => (need (es = sz)).map fun _ => (.sl (some (H.length, 0)) (n + mx.1) none, H.set b .dead ++ [.cells true sz (olds ++ mx.2)])
        | _ => none := rfl
/-- What is left of the elder block. -/
def killG (n : Nat) (X : ABlk) : ABlk := match n with | 0 => X | _ + 1 => .dead
/-- More is appended to a row that grows. -/
theorem aApp_grown {P : Program} {t : TypeId} {b n : Nat} {x : AV} {H : AHeap} : aAppend P t (.sl (some (b, 0)) n (capG n)) x H = (tElem P t).bind fun e => (tSz P e).bind fun sz => (tBytes P e).bind fun by_ => (tZero P e).bind fun z => (aElems sz x H).bind fun mx =>
    (need (z.length = sz ∧ 0 < sz ∧ 0 < by_)).bind fun _ => match H[b]? with
      | some (.cells own es xs) => bif (own == ownG n) && (decide (es = sz) && (decide (xs.length = n * sz) && (decide (0 < mx.1) && xs.all AV.one))) then
          (need ((n + mx.1) * by_ ≤ 140737488355328)).map fun _ => (.sl (some (H.length, 0)) (n + mx.1) none, H.set b (killG n (.cells own es xs)) ++ [.cells true sz (xs ++ mx.2)])
        else aAppend P t (.sl (some (b, 0)) n (capG n)) x H
      | _ => aAppend P t (.sl (some (b, 0)) n (capG n)) x H := by
  cases h1 : tElem P t with
  | none => simp [aAppend, h1]
  | some e =>
  cases h2 : tSz P e with
  | none => simp [aAppend, h1, h2]
  | some sz =>
  cases h3 : tBytes P e with
  | none => simp [aAppend, h1, h2, h3]
  | some by_ =>
  cases h4 : tZero P e with
  | none => simp [aAppend, h1, h2, h3, h4]
  | some z =>
  cases h5 : aElems sz x H with
  | none => simp [aAppend, h1, h2, h3, h4, h5]
  | some mx =>
  simp only [Option.bind_some, h2, h3, h4, h5]
  by_cases hz : z.length = sz ∧ 0 < sz ∧ 0 < by_
  · have hn : need (z.length = sz ∧ 0 < sz ∧ 0 < by_) = some () := if_pos hz
    rw [hn, Option.bind_some]
    split
    · rename_i own es xs hb
      cases hc : (own == ownG n) && (decide (es = sz) && (decide (xs.length = n * sz) && (decide (0 < mx.1) && xs.all AV.one))) with
      | false => rfl
      | true =>
        rw [cond_true]
        simp only [Bool.and_eq_true, beq_iff_eq, decide_eq_true_eq] at hc
        obtain ⟨rfl, rfl, hl, hm, ho⟩ := hc
        have hard : ards H b 0 (n * es) = some xs := by
          unfold ards
          rw [hb]
          simp only
          rw [List.drop_zero, List.take_of_length_le (by omega)]
          simp [hl, ho]
        cases n with
        | zero =>
          simp only [aAppend, h1, h2, h3, h4, h5, Option.bind_some, hn, hard, capG, killG]
          have e0 : (0 + mx.1 == 0) = false := beq_eq_false_iff_ne.2 (by omega)
          rw [e0, cond_false, decide_eq_true (by omega : (0 : Nat) < 0 + mx.1), cond_true]
          have hs : H.set b (.cells (ownG 0) es xs) = H := by
            refine List.ext_getElem? fun i => ?_
            rw [List.getElem?_set]
            split
            · rename_i e; subst e
              split
              · rw [hb]
              · rename_i hh; exact absurd (getElem?_lt hb) hh
            · rfl
          rw [hs]
          unfold need
          split <;> rfl
        | succ n =>
          simp only [aAppend, h1, h2, h3, h4, h5, Option.bind_some, hn, hard, capG, killG, hb, ownG]
          have e0 : (n + 1 + mx.1 == 0) = false := beq_eq_false_iff_ne.2 (by omega)
          rw [e0, cond_false, cond_false]
          have e1 : need True = some () := if_pos trivial
          rw [e1]
          unfold need
          split <;> rfl
    · rfl
  · have hn : need (z.length = sz ∧ 0 < sz ∧ 0 < by_) = none := if_neg hz
    simp only [aAppend, h1, h2, h3, h4, h5, Option.bind_some, hn, Option.bind_none]
theorem prs_one {l : List (Int × Int)} : (prs l).all AV.one = true := by
  induction l with
  | nil => rfl
  | cons p l ih => rw [prs_cons]; simp [AV.one, ih]
theorem ints_ones {k : IntKind} {l : List Int} : (ints k l).all AV.one = true := by simp [ints, AV.one]
section
variable {P : Program} {f : FuncId} {args : List AV} {H l1 : AHeap} {x : AV}
end
section
variable {P : Program} {f : FuncId} {H : AHeap}
end
theorem Abs.byN {H0 l1 : AHeap} {F1 F2 : Fr} (hsc : HBel H0.length H0) (h : absF (H0.length + l1.length) (sig H0.length l1.length []) F1 F2) : Abs H0.length (sig H0.length l1.length []) F1 (H0 ++ l1) F2 H0 := by
  have := Abs.by (l1 := l1) (l2 := []) (F1 := F1) (F2 := F2) hsc [] (by simp) ⟨h, trivial⟩
  simpa using this
theorem end_byE {P : Program} {fn : Func} {H l2 : AHeap} {R : AV → AHeap → Prop} {F : Fr} {e : Exit} (he : e = .ret ∨ e = .normal) (hbel : HBel H.length H) {x1 : AV} (x2 : AV) (hx : aResult P fn F H = some x1) (G : AHeap) (hG : G.all phant = true) (sel : List Nat) (hnd : sel.Nodup) (hR : R x2 (H ++ l2))
    (h : W (H.length + G.length) x1 (x2.mv (sig H.length G.length sel)) ∧ absH (H.length + G.length) (sig H.length G.length sel) G sel l2) : AEnd P fn H.length R e F H := by
  have h1 := end_byG (P := P) (fn := fn) (l1 := []) (l2 := l2) (R := R) (F := F) he hbel x2 (by simpa using hx) G hG sel hnd hR h
  simpa using h1
theorem ints_app {k : IntKind} {l m : List Int} : ints k (l ++ m) = ints k l ++ ints k m := by simp [ints]
theorem ints_cons {k : IntKind} {x : Int} {l : List Int} : ints k (x :: l) = .int k x :: ints k l := rfl
theorem ints_nil {k : IntKind} : ints k [] = [] := rfl
theorem bools_app {l m : List Bool} : bools (l ++ m) = bools l ++ bools m := by simp [bools]
theorem bools_cons {x : Bool} {l : List Bool} : bools (x :: l) = .bool x :: bools l := rfl
theorem bools_nil : bools [] = [] := rfl
set_option linter.unusedSimpArgs false
set_option linter.unusedVariables false
open Go.RowKit
/-- append, where nothing more is said of it. -/
def aAppendX (P : Program) (t : TypeId) (s x : AV) (H : AHeap) : Option (AV × AHeap) := aAppend P t s x H
/-- More is appended to a row that grows. -/
theorem aApp_grw {P : Program} {t : TypeId} {b n : Nat} {x : AV} {H : AHeap} : aAppend P t (.sl (some (b, 0)) n (capG n)) x H = (tElem P t).bind fun e => (tSz P e).bind fun sz => (tBytes P e).bind fun by_ => (tZero P e).bind fun z => (aElems sz x H).bind fun mx =>
    (need (z.length = sz ∧ 0 < sz ∧ 0 < by_)).bind fun _ => match H[b]? with
      | some (.cells own es xs) => bif (own == ownG n) && (decide (es = sz) && (decide (xs.length = n * sz) && (decide (0 < mx.1) && xs.all AV.one))) then
          (need ((n + mx.1) * by_ ≤ 140737488355328)).map fun _ => (.sl (some (H.length, 0)) (n + mx.1) none, H.set b (killG n (.cells own es xs)) ++ [.cells true sz (xs ++ mx.2)])
        else aAppendX P t (.sl (some (b, 0)) n (capG n)) x H
      | _ => aAppendX P t (.sl (some (b, 0)) n (capG n)) x H := aApp_grown
theorem W_nil0 {m b : Nat} (h : b < m) : W m (.sl none 0 (some 0)) (.sl (some (b, 0)) 0 none) = True := eq_true (W_nils h (.inl rfl))
theorem W_nil1 {m b : Nat} (h : b < m) : W m (.sl none 0 (some 0)) (.sl (some (b, 0)) 0 (some 0)) = True := eq_true (W_nils h (.inr rfl))
theorem W_cap' {m n : Nat} {p : Nat × Nat} {c : Option Nat} : W m (.sl (some p) n c) (.sl (some p) n none) = True := eq_true W_cap
theorem Wc_nil0 {m b : Nat} (h : b < m) : Wc m (.sl none 0 (some 0)) (.sl (some (b, 0)) 0 none) = True := eq_true (Wc_nils h (.inl rfl))
theorem Wc_nil1 {m b : Nat} (h : b < m) : Wc m (.sl none 0 (some 0)) (.sl (some (b, 0)) 0 (some 0)) = True := eq_true (Wc_nils h (.inr rfl))
theorem Wc_cap' {m n : Nat} {p : Nat × Nat} {c : Option Nat} : Wc m (.sl (some p) n c) (.sl (some p) n none) = True := eq_true Wc_cap
theorem int_beq (a b : Int) : (a == b) = decide (a = b) := rfl
theorem int_bne (a b : Int) : (a != b) = !decide (a = b) := rfl
theorem rem_nat (a b : Nat) : Int.tmod (a : Int) (b : Int) = ((a % b : Nat) : Int) := rfl
section
variable {P : Program} {H : AHeap} {n : Nat}
theorem LTy.intsU {t e : TypeId} {k : IntKind} {x : AV} (ht : P.underlying t = some (.slice e)) (he : P.underlying e = some (.int k)) (hl : leafs P (n + 1) e = some [e]) (h : LTy P H (n + 2) t x) : ∃ l : List Int, SlI H k x l ∧ l.length ≤ maxLen ∧ ∀ z ∈ l, (Lit.int k z).wf = true := by
  obtain ⟨b, rows, rfl, h1, h2, h3⟩ := h.slice ht hl
  obtain ⟨l, k1, k2, k3⟩ := rows_ints he rows h3
  exact ⟨l, ⟨b, false, none, by rw [k1], by rw [← k2]; exact h2⟩, by omega, k3⟩
end
/-- The machine steps on by its rules; what must hold is small arithmetic. -/
theorem runT {p q : Prop} (hq : q) (h : q → p := by
  intro hq
  simp -implicitDefEqProofs (disch := omega) only [aApp_nil, aApp_none, aApp_some, aApp_grw, simprocAttr, amset, tyset, Function.comp_apply, one1, lenV, calleeOf, lateOk, belowV, aop, AV.ofValue, AV.ofCell, AV.cells, AV.flat, AV.one, arep, aBin, aConv]
  repeat refine And.intro (by clear hq; omega) ?_
  exact hq) : p := h hq
theorem runTf {p q r : Prop} (f : r) (hq : q) (h : r → q → p := by
  intro hs hq
  simp -implicitDefEqProofs (disch := omega) only [hs, aApp_nil, aApp_none, aApp_some, aApp_grw, simprocAttr, amset, tyset, Function.comp_apply, one1, lenV, calleeOf, lateOk, belowV, aop, AV.ofValue, AV.ofCell, AV.cells, AV.flat, AV.one, arep, aBin, aConv]
  repeat refine And.intro (by clear hq; omega) ?_
  exact hq) : p := h f hq
theorem runDf {p q r : Prop} (f : r) (hq : q) (h : r → q → p := by
  intro hs hq
  simp -implicitDefEqProofs (disch := omega) only [hs, pickL, aApp_nil, aApp_none, aApp_some, aApp_grw, simprocAttr, amset, tyset, Function.comp_apply, one1, lenV, calleeOf, lateOk, belowV, aop, AV.ofValue, AV.ofCell, AV.cells, AV.flat, AV.one, arep, aBin, aConv]
  repeat refine And.intro (by clear hq; omega) ?_
  exact hq) : p := h f hq
/-- A known truth in plain words. -/
theorem bsT {p q : Prop} (h : p) (e : p → q := by
  intro h
  try simp only [boolset, beq_iff_eq, ne_eq] at h
  exact h) : q := e h
theorem bnT {p q : Prop} (h : p) (e : p → q := by
  intro h
  try simp only [int_bne, int_beq, Bool.not_eq_true', Bool.not_eq_false', Bool.not_not] at h
  exact h) : q := e h
set_option linter.unusedSimpArgs false
set_option linter.unusedVariables false
open Go.RowKit
abbrev T6 := Int × Int × Int × Int × Int × Int
def r6 (l : List T6) : List AV := l.flatMap fun p => [.int .i64 p.1, .int .i64 p.2.1, .int .i64 p.2.2.1, .int .i64 p.2.2.2.1, .int .i64 p.2.2.2.2.1, .int .i64 p.2.2.2.2.2]
def g6 (l : List T6) (j : Nat) : T6 := l.getD j (0, 0, 0, 0, 0, 0)
def g61 (l : List T6) (j : Nat) : Int := (g6 l j).1
def g62 (l : List T6) (j : Nat) : Int := (g6 l j).2.1
def g63 (l : List T6) (j : Nat) : Int := (g6 l j).2.2.1
def g64 (l : List T6) (j : Nat) : Int := (g6 l j).2.2.2.1
def g65 (l : List T6) (j : Nat) : Int := (g6 l j).2.2.2.2.1
def g66 (l : List T6) (j : Nat) : Int := (g6 l j).2.2.2.2.2
theorem g6_eq {l : List T6} {j : Nat} (h : j < l.length) : (g61 l j, g62 l j, g63 l j, g64 l j, g65 l j, g66 l j) = l[j] := by
  simp [g61, g62, g63, g64, g65, g66, g6, h, List.getD_eq_getElem?_getD]
theorem r6_cons {p : T6} {l : List T6} : r6 (p :: l) = .int .i64 p.1 :: .int .i64 p.2.1 :: .int .i64 p.2.2.1 :: .int .i64 p.2.2.2.1 :: .int .i64 p.2.2.2.2.1 :: .int .i64 p.2.2.2.2.2 :: r6 l := rfl
theorem r6_len : ∀ {l : List T6}, (r6 l).length = l.length * 6
  | [] => rfl
  | p :: l => by rw [r6_cons]; simp only [List.length_cons, r6_len (l := l)]; omega
theorem r6_at : ∀ {l : List T6} {j : Nat} (_h : j < l.length), (r6 l).drop (j * 6) = .int .i64 (g61 l j) :: .int .i64 (g62 l j) :: .int .i64 (g63 l j) :: .int .i64 (g64 l j) :: .int .i64 (g65 l j) :: .int .i64 (g66 l j) :: (r6 l).drop ((j + 1) * 6)
  | [], j, h => by simp at h
  | p :: l, 0, _ => by rw [r6_cons]; simp [g61, g62, g63, g64, g65, g66, g6]
  | p :: l, j + 1, h => by
    rw [r6_cons, show (j + 1) * 6 = j * 6 + 1 + 1 + 1 + 1 + 1 + 1 by omega, List.drop_succ_cons, List.drop_succ_cons, List.drop_succ_cons, List.drop_succ_cons, List.drop_succ_cons, List.drop_succ_cons, r6_at (l := l) (by simpa using h), show (j + 1 + 1) * 6 = (j + 1) * 6 + 1 + 1 + 1 + 1 + 1 + 1 by omega, List.drop_succ_cons, List.drop_succ_cons, List.drop_succ_cons, List.drop_succ_cons, List.drop_succ_cons, List.drop_succ_cons]
    rfl
theorem r6_load {l : List T6} {j : Nat} (h : j < l.length) : ((r6 l).drop (j * 6)).take 6 = [.int .i64 (g61 l j), .int .i64 (g62 l j), .int .i64 (g63 l j), .int .i64 (g64 l j), .int .i64 (g65 l j), .int .i64 (g66 l j)] := by rw [r6_at h]; rfl
theorem r6_one {l : List T6} : (r6 l).all AV.one = true := by
  induction l with
  | nil => rfl
  | cons p l ih => rw [r6_cons]; simp [AV.one, ih]
section
variable {P : Program} {H : AHeap} {n : Nat}
end
set_option linter.unusedSimpArgs false
set_option linter.unusedVariables false
open Go.RowKit
abbrev Pt := Int × Int
def crs (a b : Pt) : Int := a.1 * b.2 - a.2 * b.1
/-- In the upper half plane (or on its right border), and not zero. -/
def up (p : Pt) : Prop := 0 < p.2 ∨ (p.2 = 0 ∧ 0 < p.1)
instance (p : Pt) : Decidable (up p) := inferInstanceAs (Decidable (_ ∨ _))
theorem crs_self (a : Pt) : crs a a = 0 := by unfold crs; rw [Int.mul_comm]; omega
theorem crs_anti (a b : Pt) : crs b a = -crs a b := by unfold crs; rw [Int.mul_comm b.1, Int.mul_comm b.2]; omega
def padd (a b : Pt) : Pt := (a.1 + b.1, a.2 + b.2)
theorem padd_assoc (a b c : Pt) : padd (padd a b) c = padd a (padd b c) := by simp [padd, Int.add_assoc]
theorem padd_zero (a : Pt) : padd a (0, 0) = a := by simp [padd]
theorem zero_padd (a : Pt) : padd (0, 0) a = a := by simp [padd]
/-- The sum of those that are parallel to g. -/
def dsum : List Pt → Pt → Pt
  | [], _ => (0, 0)
  | h :: l, g => if crs h g = 0 then padd h (dsum l g) else dsum l g
theorem dsum_append (g : Pt) : ∀ l m : List Pt, dsum (l ++ m) g = padd (dsum l g) (dsum m g)
  | [], m => by rw [List.nil_append]; exact (zero_padd _).symm
  | h :: l, m => by
    simp only [List.cons_append, dsum, dsum_append g l m]
    split
    · rw [padd_assoc]
    · rfl
theorem dsum_none {l : List Pt} {g : Pt} (h : ∀ e ∈ l, crs e g ≠ 0) : dsum l g = (0, 0) := by
  induction l with
  | nil => rfl
  | cons x l ih =>
    simp only [dsum]
    rw [if_neg (h x (by simp)), ih fun e he => h e (by simp [he])]
/-- C is the canonical form of the directions in S. -/
structure Can (C S : List Pt) : Prop where
  sorted : C.Pairwise fun a b => 0 < crs a b
  ups : ∀ e ∈ C, up e
  sums : ∀ g, up g → dsum C g = dsum S g
theorem Can.own {C S : List Pt} (h : Can C S) {e : Pt} (he : e ∈ C) : dsum C e = e := by
  obtain ⟨A, B, rfl⟩ := List.append_of_mem he
  have hs := h.sorted
  rw [List.pairwise_append] at hs
  obtain ⟨h1, h2, h3⟩ := hs
  rw [List.pairwise_cons] at h2
  rw [dsum_append]
  simp only [dsum, crs_self, if_true]
  rw [dsum_none (l := A) fun a ha => by have := h3 a ha e (by simp); omega, dsum_none (l := B) fun b hb => by have := h2.1 b hb; rw [crs_anti]; omega, padd_zero, zero_padd]
theorem eq_of_sorted {r : Pt → Pt → Prop} (has : ∀ a b, r a b → ¬ r b a) : ∀ (l m : List Pt), l.Pairwise r → m.Pairwise r → (∀ x, x ∈ l ↔ x ∈ m) → l = m
  | [], [], _, _, _ => rfl
  | [], b :: m, _, _, h => absurd ((h b).2 (by simp)) (by simp)
  | a :: l, [], _, _, h => absurd ((h a).1 (by simp)) (by simp)
  | a :: l, b :: m, h1, h2, h => by
    rw [List.pairwise_cons] at h1 h2
    have hirr : ∀ x, ¬ r x x := fun x hx => has x x hx hx
    have hab : a = b := by
      rcases List.mem_cons.1 ((h a).1 (by simp)) with e | hm
      · exact e
      · rcases List.mem_cons.1 ((h b).2 (by simp)) with e | hl
        · exact e.symm
        · exact absurd (h1.1 b hl) (has _ _ (h2.1 a hm))
    subst hab
    have : l = m := eq_of_sorted has l m h1.2 h2.2 fun x => by
      constructor
      · intro hx
        rcases List.mem_cons.1 ((h x).1 (by simp [hx])) with e | hm
        · subst e; exact absurd (h1.1 x hx) (hirr x)
        · exact hm
      · intro hx
        rcases List.mem_cons.1 ((h x).2 (by simp [hx])) with e | hm
        · subst e; exact absurd (h2.1 x hx) (hirr x)
        · exact hm
    rw [this]
open Go.RowKit
/-- The lower eight bits. -/
theorem and255 (a : Int) : (BitVec.ofInt 64 a &&& BitVec.ofInt 64 255).toNat = (a % 256).toNat := by
  rw [BitVec.toNat_and, BitVec.toNat_ofInt, BitVec.toNat_ofInt]
  have e : ((255 : Int) % ((2 ^ 64 : Nat) : Int)).toNat = 2 ^ 8 - 1 := by decide
  rw [e, Nat.and_two_pow_sub_one_eq_mod]
  have : (((a % ((2 ^ 64 : Nat) : Int)).toNat : Nat) : Int) = a % 18446744073709551616 := by
    rw [Int.toNat_of_nonneg (Int.emod_nonneg _ (by decide))]; rfl
  omega
/-- The greatest common divisor of three numbers. -/
def gcd3 (x y d : Int) : Nat := Nat.gcd (Nat.gcd d.natAbs x.natAbs) y.natAbs
abbrev Vec := Int × Int × Int
/-- A vector in lowest terms. -/
def lowV (x y d : Int) : Vec := (x.tdiv (gcd3 x y d), y.tdiv (gcd3 x y d), d.tdiv (gcd3 x y d))
theorem gcd3_comm (x y d : Int) : Nat.gcd (Nat.gcd x.natAbs y.natAbs) d.natAbs = gcd3 x y d := by
  unfold gcd3
  rw [Nat.gcd_comm d.natAbs, Nat.gcd_assoc, Nat.gcd_assoc, Nat.gcd_comm d.natAbs]
theorem gcd3_pos {x y d : Int} (h : d ≠ 0) : 0 < gcd3 x y d := by
  unfold gcd3
  exact Nat.gcd_pos_of_pos_left _ (Nat.gcd_pos_of_pos_left _ (Int.natAbs_pos.2 h))
theorem gcd3_dvd (x y d : Int) : ((gcd3 x y d : Nat) : Int) ∣ x ∧ ((gcd3 x y d : Nat) : Int) ∣ y ∧ ((gcd3 x y d : Nat) : Int) ∣ d := by
  unfold gcd3
  have h1 := Nat.gcd_dvd_left (Nat.gcd d.natAbs x.natAbs) y.natAbs
  have h2 := Nat.gcd_dvd_right (Nat.gcd d.natAbs x.natAbs) y.natAbs
  exact ⟨Int.ofNat_dvd_left.2 (Nat.dvd_trans h1 (Nat.gcd_dvd_right _ _)), Int.ofNat_dvd_left.2 h2, Int.ofNat_dvd_left.2 (Nat.dvd_trans h1 (Nat.gcd_dvd_left _ _))⟩
theorem lowV_mul {x y d : Int} (h : d ≠ 0) : ∃ g : Int, 0 < g ∧ x = (lowV x y d).1 * g ∧ y = (lowV x y d).2.1 * g ∧ d = (lowV x y d).2.2 * g := by
  obtain ⟨a, b, c⟩ := gcd3_dvd x y d
  have hp := gcd3_pos (x := x) (y := y) h
  refine ⟨gcd3 x y d, by omega, ?_, ?_, ?_⟩ <;> (unfold lowV; simp only; rw [Int.tdiv_mul_cancel (by assumption)])
/-- The direction of a mark of the first quarter. -/
def dir0 (k : Nat) : Vec := lowV (4096 - (k : Int) * k) (128 * k) (4096 + (k : Int) * k)
def rotN (v : Vec) : Nat → Vec
  | 0 => v
  | n + 1 => (-(rotN v n).2.1, (rotN v n).1, (rotN v n).2.2)
def dirN (h : Nat) : Vec := rotN (dir0 (h % 64)) (h / 64)
/-- The direction of a mark. -/
def dirV (h : Int) : Vec := dirN (h % 256).toNat
def vecOK (v : Vec) : Bool := decide (1 ≤ v.2.2) && decide (v.2.2 ≤ 8065) && decide (-v.2.2 ≤ v.1) && decide (v.1 ≤ v.2.2) && decide (-v.2.2 ≤ v.2.1) && decide (v.2.1 ≤ v.2.2) && decide (v.1 * v.1 + v.2.1 * v.2.1 = v.2.2 * v.2.2)
theorem dirs_ok : (List.range 256).all (fun h => vecOK (dirN h)) = true := by decide +kernel
theorem dirV_ok (h : Int) : vecOK (dirV h) = true := by
  have := List.all_eq_true.1 dirs_ok (h % 256).toNat (by simp; omega)
  exact this
theorem vecOK_iff {v : Vec} : vecOK v = true ↔ (1 ≤ v.2.2 ∧ v.2.2 ≤ 8065) ∧ (-v.2.2 ≤ v.1 ∧ v.1 ≤ v.2.2) ∧ (-v.2.2 ≤ v.2.1 ∧ v.2.1 ≤ v.2.2) ∧ v.1 * v.1 + v.2.1 * v.2.1 = v.2.2 * v.2.2 := by
  unfold vecOK
  simp only [Bool.and_eq_true, decide_eq_true_eq]
  constructor
  · rintro ⟨⟨⟨⟨⟨⟨a, b⟩, c⟩, d⟩, e⟩, f⟩, g⟩; exact ⟨⟨a, b⟩, ⟨c, d⟩, ⟨e, f⟩, g⟩
  · rintro ⟨⟨a, b⟩, ⟨c, d⟩, ⟨e, f⟩, g⟩; exact ⟨⟨⟨⟨⟨⟨a, b⟩, c⟩, d⟩, e⟩, f⟩, g⟩
/-- A quotient rounded down. -/
theorem floor_eq {a b : Int} (h : 0 < b) : (if a.tmod b < 0 then a.tdiv b - 1 else a.tdiv b) = a / b := by
  rw [Int.tdiv_eq_ediv, Int.tmod_eq_emod]
  have h1 := Int.emod_nonneg a (by omega : b ≠ 0)
  have h2 := Int.emod_lt_of_pos a h
  have hs : b.sign = 1 := Int.sign_eq_one_of_pos h
  have hn : (b.natAbs : Int) = b := by omega
  split
  · rw [if_neg (by omega)]; omega
  · rw [if_pos (by omega), hs]; omega
open Go.RowKit
/-- Whether an arc is valid. -/
def arcB (f c : Int) : Bool := decide (0 ≤ f) && (decide (f < 256) && (decide (1 ≤ c) && (decide (c ≤ 256) && (decide (f = 0) || decide (c < 256)))))
theorem arcB_iff {f c : Int} : arcB f c = true ↔ (0 ≤ f ∧ f < 256) ∧ (1 ≤ c ∧ c ≤ 256) ∧ (f = 0 ∨ c < 256) := by
  unfold arcB
  simp only [Bool.and_eq_true, Bool.or_eq_true, decide_eq_true_eq]
  omega
/-- The marks of an arc. -/
def mrkL (f : Int) (n : Nat) : List Int := (List.range n).map fun (i : Nat) => (f + (i : Int)) % 256
theorem mrkL_len (f : Int) (n : Nat) : (mrkL f n).length = n := by simp [mrkL]
theorem mrkL_succ (f : Int) (n : Nat) : mrkL f (n + 1) = mrkL f n ++ [(f + (n : Int)) % 256] := by
  unfold mrkL; rw [List.range_succ, List.map_append]; rfl
/-- A mark is in an arc. -/
def inArc (f c m : Int) : Prop := (m - f) % 256 < c
instance (f c m : Int) : Decidable (inArc f c m) := by unfold inArc; exact inferInstance
open Go.RowKit
def offB (n : Int) : Bool := decide (n < -1048576) || decide (1048576 < n)
def bxB (x0 y0 x1 y1 f c : Int) : Bool := decide (x0 ≤ x1) && (decide (y0 ≤ y1) && ((!([x0, y0, x1, y1].any offB)) && arcB f c))
theorem bxB_iff {x0 y0 x1 y1 f c : Int} : bxB x0 y0 x1 y1 f c = true ↔ (-1048576 ≤ x0 ∧ x0 ≤ x1 ∧ x1 ≤ 1048576) ∧ (-1048576 ≤ y0 ∧ y0 ≤ y1 ∧ y1 ≤ 1048576) ∧ arcB f c = true := by
  unfold bxB offB
  simp only [Bool.and_eq_true, decide_eq_true_eq, List.any_cons, List.any_nil, Bool.or_false, Bool.not_eq_true', Bool.or_eq_false_iff, decide_eq_false_iff_not]
  constructor
  · rintro ⟨a, b, c, d⟩; exact ⟨by omega, by omega, d⟩
  · rintro ⟨a, b, d⟩; exact ⟨by omega, by omega, by omega, d⟩
def boxB (b : T6) : Bool := bxB b.1 b.2.1 b.2.2.1 b.2.2.2.1 b.2.2.2.2.1 b.2.2.2.2.2
def setB (l : List T6) : Bool := decide (((l.length : Nat) : Int) ≤ 16) && !(l.any fun b => !boxB b)
theorem setB_iff {l : List T6} : setB l = true ↔ l.length ≤ 16 ∧ ∀ b ∈ l, boxB b = true := by
  unfold setB
  rw [Bool.and_eq_true, decide_eq_true_eq, Bool.not_eq_true', List.any_eq_false]
  constructor
  · rintro ⟨a, b⟩; exact ⟨by omega, fun x hx => by have := b x hx; simpa using this⟩
  · rintro ⟨a, b⟩; exact ⟨by omega, fun x hx => by simp [b x hx]⟩
theorem g6_mem {l : List T6} {j : Nat} (h : j < l.length) : g6 l j ∈ l := by
  unfold g6; rw [List.getD_eq_getElem?_getD]; simp [h]
open Go.RowKit
/-- The cells of a row that have a property, from the left. -/
def rowR (p : Int → Int → Bool) (x0 y : Int) : Nat → List Pt
  | 0 => []
  | n + 1 => rowR p x0 y n ++ (if p (x0 + n) y = true then [(x0 + n, y)] else [])
/-- The cells of some rows. -/
def gridR (p : Int → Int → Bool) (x0 : Int) (w : Nat) (y0 : Int) : Nat → List Pt
  | 0 => []
  | n + 1 => gridR p x0 w y0 n ++ rowR p x0 (y0 + n) w
/-- Before by (Y, X). -/
def befP (a b : Pt) : Prop := a.2 < b.2 ∨ (a.2 = b.2 ∧ a.1 < b.1)
theorem befP_anti (a b : Pt) (h : befP a b) : ¬ befP b a := by unfold befP at *; omega
theorem rowR_mem {p : Int → Int → Bool} {x0 y : Int} : ∀ {n : Nat} {c : Pt}, c ∈ rowR p x0 y n ↔ (x0 ≤ c.1 ∧ c.1 < x0 + n) ∧ c.2 = y ∧ p c.1 c.2 = true
  | 0, c => by simp only [rowR, List.not_mem_nil, false_iff]; omega
  | n + 1, c => by
    rw [rowR, List.mem_append, rowR_mem]
    constructor
    · rintro (h | h)
      · exact ⟨by omega, h.2⟩
      · split at h
        · rename_i hp
          simp only [List.mem_singleton] at h
          subst h
          exact ⟨by simp only; omega, rfl, hp⟩
        · cases h
    · rintro ⟨h1, h2, h3⟩
      rcases (by omega : c.1 < x0 + n ∨ x0 + n ≤ c.1) with h | h
      · exact .inl ⟨by omega, h2, h3⟩
      · right
        have e : c = (x0 + n, y) := Prod.ext (by simp only; omega) h2
        rw [e] at h3
        rw [if_pos h3, e]; simp
theorem gridR_mem {p : Int → Int → Bool} {x0 y0 : Int} {w : Nat} : ∀ {n : Nat} {c : Pt}, c ∈ gridR p x0 w y0 n ↔ (x0 ≤ c.1 ∧ c.1 < x0 + w) ∧ (y0 ≤ c.2 ∧ c.2 < y0 + n) ∧ p c.1 c.2 = true
  | 0, c => by simp only [gridR, List.not_mem_nil, false_iff]; omega
  | n + 1, c => by
    rw [gridR, List.mem_append, gridR_mem, rowR_mem]
    constructor
    · rintro (h | h)
      · exact ⟨h.1, by omega, h.2.2⟩
      · exact ⟨h.1, by omega, h.2.2⟩
    · rintro ⟨h1, h2, h3⟩
      rcases (by omega : c.2 < y0 + n ∨ y0 + n ≤ c.2) with h | h
      · exact .inl ⟨h1, by omega, h3⟩
      · exact .inr ⟨h1, by omega, h3⟩
/-- Sorted lists with the same elements are one. -/
theorem eq_sorted {l m : List Pt} (hl : l.Pairwise befP) (hm : m.Pairwise befP) (h : ∀ c, c ∈ l ↔ c ∈ m) : l = m := eq_of_sorted befP_anti l m hl hm h
theorem rowR_len {p : Int → Int → Bool} {x0 y : Int} : ∀ n : Nat, (rowR p x0 y n).length ≤ n
  | 0 => Nat.le_refl _
  | n + 1 => by
    have := rowR_len (p := p) (x0 := x0) (y := y) n
    rw [rowR, List.length_append]
    split
    · rw [List.length_singleton]; omega
    · rw [List.length_nil]; omega
theorem gridR_len {p : Int → Int → Bool} {x0 y0 : Int} {w : Nat} : ∀ n : Nat, (gridR p x0 w y0 n).length ≤ n * w
  | 0 => by simp [gridR]
  | n + 1 => by
    have := gridR_len (p := p) (x0 := x0) (y0 := y0) (w := w) n
    have := rowR_len (p := p) (x0 := x0) (y := y0 + n) w
    rw [gridR, List.length_append, Nat.succ_mul]; omega
end Go.Proofs.YteieacinbfimlaaGreat
namespace Go.Proofs
open Go.Shelf
def Tryz.lays128_ren : Go.Shelf.Ren := ⟨fun | 128 => 277 | n => n, fun | 51 => 292 | 3 => 3 | 4 => 4 | 46 => 241 | 5 => 5 | 9 => 9 | n => n, fun | n => n⟩
theorem Tryz.lays128 : Go.Proofs.Lays.n128 Tryz.prog Tryz.lays128_ren := {
  mixed := by kernel_rfl
  f128 := Tryz.func277.trans (congrArg some (by kernel_rfl))
  t3 := Tryz.underlying3
  a3 := Tryz.isAgg3
  z3 := Tryz.sizeOf3
  v3 := Tryz.zeroValue3
  t4 := Tryz.underlying4
  a4 := Tryz.isAgg4
  z4 := Tryz.sizeOf4
  v4 := Tryz.zeroValue4
  t5 := Tryz.underlying5
  a5 := Tryz.isAgg5
  z5 := Tryz.sizeOf5
  v5 := Tryz.zeroValue5
  t9 := Tryz.underlying9
  a9 := Tryz.isAgg9
  z9 := Tryz.sizeOf9
  v9 := Tryz.zeroValue9
  t46 := Tryz.underlying241
  a46 := Tryz.isAgg241
  z46 := Tryz.sizeOf241
  v46 := Tryz.zeroValue241
  t51 := Tryz.underlying292
  a51 := Tryz.isAgg292
  z51 := Tryz.sizeOf292
  v51 := Tryz.zeroValue292 }
theorem Tryz.bits_Len32 (x : Int) (w : World) (h0 : 0 ≤ x) (h1 : x ≤ 4294967295) :
    Calls Tryz.prog 277 #[.int .u32 x] w fun e w' => e = .returned (.int .i64 (Lib.bitLen x.toNat)) ∧ w' = w := Any.bits_Len32 Tryz.lays128 x w h0 h1
def Tryz.lays125_ren : Go.Shelf.Ren := ⟨fun | 125 => 223 | 128 => 277 | 129 => 278 | n => n, fun | 46 => 241 | 3 => 3 | 51 => 292 | 53 => 294 | 4 => 4 | 5 => 5 | 9 => 9 | n => n, fun | n => n⟩
theorem Tryz.lays125 : Go.Proofs.Lays.n125 Tryz.prog Tryz.lays125_ren := {
  mixed := by kernel_rfl
  f125 := Tryz.func223.trans (congrArg some (by kernel_rfl))
  f128 := Tryz.func277.trans (congrArg some (by kernel_rfl))
  f129 := Tryz.func278.trans (congrArg some (by kernel_rfl))
  t3 := Tryz.underlying3
  a3 := Tryz.isAgg3
  z3 := Tryz.sizeOf3
  v3 := Tryz.zeroValue3
  t4 := Tryz.underlying4
  a4 := Tryz.isAgg4
  z4 := Tryz.sizeOf4
  v4 := Tryz.zeroValue4
  t5 := Tryz.underlying5
  a5 := Tryz.isAgg5
  z5 := Tryz.sizeOf5
  v5 := Tryz.zeroValue5
  t9 := Tryz.underlying9
  a9 := Tryz.isAgg9
  z9 := Tryz.sizeOf9
  v9 := Tryz.zeroValue9
  t46 := Tryz.underlying241
  a46 := Tryz.isAgg241
  z46 := Tryz.sizeOf241
  v46 := Tryz.zeroValue241
  t51 := Tryz.underlying292
  a51 := Tryz.isAgg292
  z51 := Tryz.sizeOf292
  v51 := Tryz.zeroValue292
  t53 := Tryz.underlying294
  a53 := Tryz.isAgg294
  z53 := Tryz.sizeOf294
  v53 := Tryz.zeroValue294 }
theorem Tryz.bits_Len (x : Int) (w : World) (h0 : 0 ≤ x) (h1 : x ≤ 18446744073709551615) :
    Calls Tryz.prog 223 #[.int .u64 x] w fun e w' => e = .returned (.int .i64 (Lib.bitLen x.toNat)) ∧ w' = w := Any.bits_Len Tryz.lays125 x w h0 h1
def Tryz.lays129_ren : Go.Shelf.Ren := ⟨fun | 129 => 278 | n => n, fun | 53 => 294 | 3 => 3 | 4 => 4 | 46 => 241 | 5 => 5 | 9 => 9 | n => n, fun | n => n⟩
theorem Tryz.lays129 : Go.Proofs.Lays.n129 Tryz.prog Tryz.lays129_ren := {
  mixed := by kernel_rfl
  f129 := Tryz.func278.trans (congrArg some (by kernel_rfl))
  t3 := Tryz.underlying3
  a3 := Tryz.isAgg3
  z3 := Tryz.sizeOf3
  v3 := Tryz.zeroValue3
  t4 := Tryz.underlying4
  a4 := Tryz.isAgg4
  z4 := Tryz.sizeOf4
  v4 := Tryz.zeroValue4
  t5 := Tryz.underlying5
  a5 := Tryz.isAgg5
  z5 := Tryz.sizeOf5
  v5 := Tryz.zeroValue5
  t9 := Tryz.underlying9
  a9 := Tryz.isAgg9
  z9 := Tryz.sizeOf9
  v9 := Tryz.zeroValue9
  t46 := Tryz.underlying241
  a46 := Tryz.isAgg241
  z46 := Tryz.sizeOf241
  v46 := Tryz.zeroValue241
  t53 := Tryz.underlying294
  a53 := Tryz.isAgg294
  z53 := Tryz.sizeOf294
  v53 := Tryz.zeroValue294 }
theorem Tryz.bits_Len64 (x : Int) (w : World) (h0 : 0 ≤ x) (h1 : x ≤ 18446744073709551615) :
    Calls Tryz.prog 278 #[.int .u64 x] w fun e w' => e = .returned (.int .i64 (Lib.bitLen x.toNat)) ∧ w' = w := Any.bits_Len64 Tryz.lays129 x w h0 h1
def Tryz.lays224_ren : Go.Shelf.Ren := ⟨fun | 224 => 306 | n => n, fun | 3 => 3 | n => n, fun | n => n⟩
theorem Tryz.lays224 : Go.Proofs.Lays.n224 Tryz.prog Tryz.lays224_ren := {
  mixed := by kernel_rfl
  f224 := Tryz.func306.trans (congrArg some (by kernel_rfl))
  t3 := Tryz.underlying3
  a3 := Tryz.isAgg3
  z3 := Tryz.sizeOf3
  v3 := Tryz.zeroValue3 }
open Go.RowKit Go.Lib in
theorem Tryz.bytealg_Cutover (n : Int) (h0 : 0 ≤ n) (h1 : n < 4611686018427387904) (w : World) :
    Calls Tryz.prog 306 #[.int .i64 n] w fun e w' => e = .returned (.int .i64 ((n + 16) / 8)) ∧ w' = w := Any.bytealg_Cutover Tryz.lays224 n h0 h1 w
def Tryz.sort147_ren : Go.Shelf.Ren := ⟨fun | 6 => 147 | 15 => 223 | 14 => 222 | 28 => 277 | 29 => 278 | 20 => 269 | 21 => 270 | 22 => 271 | 23 => 272 | 24 => 273 | 25 => 274 | 26 => 275 | 27 => 276 | 46 => 316 | 47 => 317 | 48 => 318 | 49 => 319 | 50 => 320 | 57 => 337 | n => n, fun | 22 => 29 | 24 => 63 | 25 => 197 | 3 => 3 | 39 => 241 | 0 => 0 | 53 => 292 | 55 => 294 | 4 => 4 | 46 => 285 | 45 => 284 | 50 => 289 | 5 => 5 | 9 => 9 | 66 => 324 | 70 => 328 | 76 => 339 | 77 => 300 | n => n, fun | n => n⟩
theorem Tryz.sort147 : Go.Proofs.SlLaysF0.n6 Tryz.prog Tryz.sort147_ren := {
  mixed := by kernel_rfl
  f6 := ⟨Tryz.f147.name, by decide, Tryz.func147.trans (congrArg some (by kernel_rfl))⟩
  f14 := ⟨Tryz.f222.name, by decide, Tryz.func222.trans (congrArg some (by kernel_rfl))⟩
  f15 := Tryz.func223.trans (congrArg some (by kernel_rfl))
  f20 := ⟨Tryz.f269.name, by decide, Tryz.func269.trans (congrArg some (by kernel_rfl))⟩
  f21 := ⟨Tryz.f270.name, by decide, Tryz.func270.trans (congrArg some (by kernel_rfl))⟩
  f22 := ⟨Tryz.f271.name, by decide, Tryz.func271.trans (congrArg some (by kernel_rfl))⟩
  f23 := ⟨Tryz.f272.name, by decide, Tryz.func272.trans (congrArg some (by kernel_rfl))⟩
  f24 := ⟨Tryz.f273.name, by decide, Tryz.func273.trans (congrArg some (by kernel_rfl))⟩
  f25 := ⟨Tryz.f274.name, by decide, Tryz.func274.trans (congrArg some (by kernel_rfl))⟩
  f26 := ⟨Tryz.f275.name, by decide, Tryz.func275.trans (congrArg some (by kernel_rfl))⟩
  f27 := ⟨Tryz.f276.name, by decide, Tryz.func276.trans (congrArg some (by kernel_rfl))⟩
  f28 := Tryz.func277.trans (congrArg some (by kernel_rfl))
  f29 := Tryz.func278.trans (congrArg some (by kernel_rfl))
  f46 := ⟨Tryz.f316.name, by decide, Tryz.func316.trans (congrArg some (by kernel_rfl))⟩
  f47 := Tryz.func317.trans (congrArg some (by kernel_rfl))
  f48 := Tryz.func318.trans (congrArg some (by kernel_rfl))
  f49 := ⟨Tryz.f319.name, by decide, Tryz.func319.trans (congrArg some (by kernel_rfl))⟩
  f50 := ⟨Tryz.f320.name, by decide, Tryz.func320.trans (congrArg some (by kernel_rfl))⟩
  f57 := ⟨Tryz.f337.name, by decide, Tryz.func337.trans (congrArg some (by kernel_rfl))⟩
  t0 := Tryz.underlying0
  a0 := Tryz.isAgg0
  z0 := Tryz.sizeOf0
  v0 := Tryz.zeroValue0
  t3 := Tryz.underlying3
  a3 := Tryz.isAgg3
  z3 := Tryz.sizeOf3
  v3 := Tryz.zeroValue3
  t4 := Tryz.underlying4
  a4 := Tryz.isAgg4
  z4 := Tryz.sizeOf4
  v4 := Tryz.zeroValue4
  t5 := Tryz.underlying5
  a5 := Tryz.isAgg5
  z5 := Tryz.sizeOf5
  v5 := Tryz.zeroValue5
  t9 := Tryz.underlying9
  a9 := Tryz.isAgg9
  z9 := Tryz.sizeOf9
  v9 := Tryz.zeroValue9
  t22 := Tryz.underlying29
  a22 := Tryz.isAgg29
  z22 := Tryz.sizeOf29
  v22 := Tryz.zeroValue29
  t25 := Tryz.underlying197
  a25 := Tryz.isAgg197
  z25 := Tryz.sizeOf197
  v25 := Tryz.zeroValue197
  t39 := Tryz.underlying241
  a39 := Tryz.isAgg241
  z39 := Tryz.sizeOf241
  v39 := Tryz.zeroValue241
  t45 := Tryz.underlying284
  a45 := Tryz.isAgg284
  z45 := Tryz.sizeOf284
  v45 := Tryz.zeroValue284
  t46 := Tryz.underlying285
  a46 := Tryz.isAgg285
  z46 := Tryz.sizeOf285
  v46 := Tryz.zeroValue285
  t50 := Tryz.underlying289
  a50 := Tryz.isAgg289
  z50 := Tryz.sizeOf289
  v50 := Tryz.zeroValue289
  t53 := Tryz.underlying292
  a53 := Tryz.isAgg292
  z53 := Tryz.sizeOf292
  v53 := Tryz.zeroValue292
  t55 := Tryz.underlying294
  a55 := Tryz.isAgg294
  z55 := Tryz.sizeOf294
  v55 := Tryz.zeroValue294
  t66 := Tryz.underlying324
  a66 := Tryz.isAgg324
  z66 := Tryz.sizeOf324
  v66 := Tryz.zeroValue324
  t70 := Tryz.underlying328
  a70 := Tryz.isAgg328
  z70 := Tryz.sizeOf328
  v70 := Tryz.zeroValue328
  t76 := Tryz.underlying339
  a76 := Tryz.isAgg339
  z76 := Tryz.sizeOf339
  v76 := Tryz.zeroValue339
  t77 := Tryz.underlying300
  a77 := Tryz.isAgg300
  z77 := Tryz.sizeOf300
  v77 := Tryz.zeroValue300 }
def Tryz.sort326_ren : Go.Shelf.Ren := ⟨fun | 6 => 326 | 15 => 223 | 14 => 338 | 28 => 277 | 29 => 278 | 20 => 341 | 21 => 342 | 22 => 343 | 23 => 344 | 24 => 345 | 25 => 346 | 26 => 347 | 27 => 348 | 46 => 349 | 47 => 317 | 48 => 318 | 49 => 350 | 50 => 351 | 57 => 352 | n => n, fun | 22 => 231 | 24 => 86 | 25 => 317 | 3 => 3 | 39 => 241 | 0 => 0 | 53 => 292 | 55 => 294 | 4 => 4 | 46 => 285 | 45 => 284 | 50 => 289 | 5 => 5 | 9 => 9 | 66 => 324 | 70 => 328 | 76 => 339 | 77 => 300 | n => n, fun | n => n⟩
theorem Tryz.sort326 : Go.Proofs.SlLaysF0.n6 Tryz.prog Tryz.sort326_ren := {
  mixed := by kernel_rfl
  f6 := ⟨Tryz.f326.name, by decide, Tryz.func326.trans (congrArg some (by kernel_rfl))⟩
  f14 := ⟨Tryz.f338.name, by decide, Tryz.func338.trans (congrArg some (by kernel_rfl))⟩
  f15 := Tryz.func223.trans (congrArg some (by kernel_rfl))
  f20 := ⟨Tryz.f341.name, by decide, Tryz.func341.trans (congrArg some (by kernel_rfl))⟩
  f21 := ⟨Tryz.f342.name, by decide, Tryz.func342.trans (congrArg some (by kernel_rfl))⟩
  f22 := ⟨Tryz.f343.name, by decide, Tryz.func343.trans (congrArg some (by kernel_rfl))⟩
  f23 := ⟨Tryz.f344.name, by decide, Tryz.func344.trans (congrArg some (by kernel_rfl))⟩
  f24 := ⟨Tryz.f345.name, by decide, Tryz.func345.trans (congrArg some (by kernel_rfl))⟩
  f25 := ⟨Tryz.f346.name, by decide, Tryz.func346.trans (congrArg some (by kernel_rfl))⟩
  f26 := ⟨Tryz.f347.name, by decide, Tryz.func347.trans (congrArg some (by kernel_rfl))⟩
  f27 := ⟨Tryz.f348.name, by decide, Tryz.func348.trans (congrArg some (by kernel_rfl))⟩
  f28 := Tryz.func277.trans (congrArg some (by kernel_rfl))
  f29 := Tryz.func278.trans (congrArg some (by kernel_rfl))
  f46 := ⟨Tryz.f349.name, by decide, Tryz.func349.trans (congrArg some (by kernel_rfl))⟩
  f47 := Tryz.func317.trans (congrArg some (by kernel_rfl))
  f48 := Tryz.func318.trans (congrArg some (by kernel_rfl))
  f49 := ⟨Tryz.f350.name, by decide, Tryz.func350.trans (congrArg some (by kernel_rfl))⟩
  f50 := ⟨Tryz.f351.name, by decide, Tryz.func351.trans (congrArg some (by kernel_rfl))⟩
  f57 := ⟨Tryz.f352.name, by decide, Tryz.func352.trans (congrArg some (by kernel_rfl))⟩
  t0 := Tryz.underlying0
  a0 := Tryz.isAgg0
  z0 := Tryz.sizeOf0
  v0 := Tryz.zeroValue0
  t3 := Tryz.underlying3
  a3 := Tryz.isAgg3
  z3 := Tryz.sizeOf3
  v3 := Tryz.zeroValue3
  t4 := Tryz.underlying4
  a4 := Tryz.isAgg4
  z4 := Tryz.sizeOf4
  v4 := Tryz.zeroValue4
  t5 := Tryz.underlying5
  a5 := Tryz.isAgg5
  z5 := Tryz.sizeOf5
  v5 := Tryz.zeroValue5
  t9 := Tryz.underlying9
  a9 := Tryz.isAgg9
  z9 := Tryz.sizeOf9
  v9 := Tryz.zeroValue9
  t22 := Tryz.underlying231
  a22 := Tryz.isAgg231
  z22 := Tryz.sizeOf231
  v22 := Tryz.zeroValue231
  t25 := Tryz.underlying317
  a25 := Tryz.isAgg317
  z25 := Tryz.sizeOf317
  v25 := Tryz.zeroValue317
  t39 := Tryz.underlying241
  a39 := Tryz.isAgg241
  z39 := Tryz.sizeOf241
  v39 := Tryz.zeroValue241
  t45 := Tryz.underlying284
  a45 := Tryz.isAgg284
  z45 := Tryz.sizeOf284
  v45 := Tryz.zeroValue284
  t46 := Tryz.underlying285
  a46 := Tryz.isAgg285
  z46 := Tryz.sizeOf285
  v46 := Tryz.zeroValue285
  t50 := Tryz.underlying289
  a50 := Tryz.isAgg289
  z50 := Tryz.sizeOf289
  v50 := Tryz.zeroValue289
  t53 := Tryz.underlying292
  a53 := Tryz.isAgg292
  z53 := Tryz.sizeOf292
  v53 := Tryz.zeroValue292
  t55 := Tryz.underlying294
  a55 := Tryz.isAgg294
  z55 := Tryz.sizeOf294
  v55 := Tryz.zeroValue294
  t66 := Tryz.underlying324
  a66 := Tryz.isAgg324
  z66 := Tryz.sizeOf324
  v66 := Tryz.zeroValue324
  t70 := Tryz.underlying328
  a70 := Tryz.isAgg328
  z70 := Tryz.sizeOf328
  v70 := Tryz.zeroValue328
  t76 := Tryz.underlying339
  a76 := Tryz.isAgg339
  z76 := Tryz.sizeOf339
  v76 := Tryz.zeroValue339
  t77 := Tryz.underlying300
  a77 := Tryz.isAgg300
  z77 := Tryz.sizeOf300
  v77 := Tryz.zeroValue300 }
def Tryz.grow331_ren : Go.Shelf.Ren := ⟨fun | 4 => 331 | n => n, fun | 22 => 231 | 25 => 86 | 3 => 3 | 4 => 4 | 9 => 9 | 20 => 20 | 0 => 0 | 2 => 3 | n => n, fun | n => n⟩
theorem Tryz.grow331 : Go.Proofs.Lays8.n4 Tryz.prog Tryz.grow331_ren := {
  mixed := by kernel_rfl
  f4 := ⟨Tryz.f331.name, by decide, Tryz.func331.trans (congrArg some (by kernel_rfl))⟩
  t0 := Tryz.underlying0
  a0 := Tryz.isAgg0
  z0 := Tryz.sizeOf0
  v0 := Tryz.zeroValue0
  t3 := Tryz.underlying3
  a3 := Tryz.isAgg3
  z3 := Tryz.sizeOf3
  v3 := Tryz.zeroValue3
  t4 := Tryz.underlying4
  a4 := Tryz.isAgg4
  z4 := Tryz.sizeOf4
  v4 := Tryz.zeroValue4
  t9 := Tryz.underlying9
  a9 := Tryz.isAgg9
  z9 := Tryz.sizeOf9
  v9 := Tryz.zeroValue9
  t20 := Tryz.underlying20
  a20 := Tryz.isAgg20
  z20 := Tryz.sizeOf20
  v20 := Tryz.zeroValue20
  t22 := Tryz.underlying231
  a22 := Tryz.isAgg231
  z22 := Tryz.sizeOf231
  v22 := Tryz.zeroValue231 }
end Go.Proofs
namespace Go.Proofs.YteieacinbfimlaaGreat
set_option linter.unusedSimpArgs false
set_option linter.unusedVariables false
open Go.RowKit Go.Sort
theorem below_grow (w : World) (os : Array Obj) : Below w.heap.size w (Go.Sort.grow w os) := ⟨rfl, rfl, rfl, by simp [grow], fun k hk => heap_grow_old w os hk⟩
theorem splice_all {xs ys : List AV} (h : ys.length = xs.length) : splice xs 0 ys = ys := by
  have hl : 0 + ys.length ≤ xs.length := by omega
  refine List.ext_getElem? fun j => ?_
  rw [splice_get hl]
  by_cases hj : j < ys.length
  · rw [if_pos ⟨by omega, by omega⟩, Nat.sub_zero]
  · rw [if_neg (by omega), List.getElem?_eq_none (by omega), List.getElem?_eq_none (by omega)]
theorem rels_prs {E : Env} : ∀ (l : List (Int × Int)), RelL E (prs l) (enc2 l)
  | [] => .nil E
  | p :: l => .cons (.int _ _) (.cons (.int _ _) (rels_prs l))
theorem prs_onef : ∀ (l : List (Int × Int)), (prs l).all AV.one = true
  | [] => rfl
  | p :: l => by rw [prs_cons]; simp [AV.one, prs_onef l]
section
variable {E : Env} {H : AHeap} {w : World}
theorem Emb.putP (h : Emb E H w) {b q : Nat} {zs ys : List (Int × Int)} (hg : H[b]? = some (.cells true 2 (prs zs))) (hl : ys.length = zs.length) (os : Array Obj) :
    Emb E (H.set b (.cells true 2 (prs ys))) (Go.Sort.grow ((w.drewN q).setCells (E.loc b).blk ((E.loc b).off) (enc2 ys)) os) := by
  have h0 : Emb E H (w.drewN q) := h.up (below_drewN (Below.refl _ _) q)
  have hw : awrite H b 0 (prs ys) = some (H.set b (.cells true 2 (prs ys))) := by
    unfold awrite
    rw [hg]
    simp only
    rw [if_pos ⟨by simp [prs_len, hl], prs_onef ys⟩, splice_all (by simp [prs_len, hl])]
  exact ((h0.write (rels_prs ys) hw).2.2.2).up (below_grow _ os)
end
/-- Elements as their two cells. -/
def encP {α : Type} (val : α → Int × Int) (x : α) : List Value := [.int .i64 (val x).1, .int .i64 (val x).2]
theorem flat_list {α : Type} [Inhabited α] (val : α → Int × Int) (zs : List α) : flatK (encP val) 2 zs.toArray = (enc2 (zs.map val)).toArray := by
  refine ext_get! (by simp [enc2_len]) fun t ht => ?_
  have ht' : t < zs.length * 2 := by simpa using ht
  rw [get_flatK _ _ _ _ (by simpa using ht')]
  have hj : t / 2 < zs.length := by omega
  obtain ⟨e1, e2⟩ := enc2_at (zs.map val) (t / 2) (by simpa using hj)
  have hx : zs.toArray[t / 2]! = zs[t / 2] := by simp [hj]
  rw [hx]
  have hr : (enc2 (zs.map val)).toArray[t]! = ((enc2 (zs.map val))[t]?).getD default := by simp [List.getElem!_eq_getElem?_getD]
  rw [hr]
  rcases Nat.mod_two_eq_zero_or_one t with h | h
  · have : t = t / 2 * 2 := by omega
    rw [← this] at e1
    rw [h, e1]
    simp [encP]
  · have : t = t / 2 * 2 + 1 := by omega
    rw [← this] at e2
    rw [h, e2]
    simp [encP]
set_option linter.unusedSimpArgs false
set_option linter.unusedVariables false
open Go.RowKit
theorem Can.nil : Can [] [] := ⟨.nil, by simp, fun _ _ => rfl⟩
open Go.RowKit Go.Sort
/-- cmp.Compare -/
def cmpI (x y : Int) : Int := if x < y then -1 else if y < x then 1 else 0
/-- Coordinates of at most M. -/
def Bd (M : Int) (p : Pt) : Prop := -M ≤ p.1 ∧ p.1 ≤ M ∧ -M ≤ p.2 ∧ p.2 ≤ M
theorem mul_bd {a b A B : Int} (h1 : -A ≤ a ∧ a ≤ A) (h2 : -B ≤ b ∧ b ≤ B) : -(A * B) ≤ a * b ∧ a * b ≤ A * B := by
  have e1 := Int.mul_nonneg (a := A - a) (b := B + b) (by omega) (by omega)
  have e2 := Int.mul_nonneg (a := A + a) (b := B - b) (by omega) (by omega)
  have e3 := Int.mul_nonneg (a := A - a) (b := B - b) (by omega) (by omega)
  have e4 := Int.mul_nonneg (a := A + a) (b := B + b) (by omega) (by omega)
  simp only [Int.sub_mul, Int.add_mul, Int.mul_sub, Int.mul_add] at e1 e2 e3 e4
  omega
theorem isNaN_h (x : Int) (W : World) : Calls Tryz.prog 279 #[.int .i64 x] W fun e w' => e = .returned (.bool false) ∧ w' = W := by
  go_enter Tryz.func279, Tryz.ntmps279
  go_wp2
  go_ret
  exact ⟨by simp, rfl⟩
theorem compare_h (x y : Int) (W : World) : Calls Tryz.prog 225 #[.int .i64 x, .int .i64 y] W fun e w' => e = .returned (.int .i64 (cmpI x y)) ∧ w' = W := by
  have hcon := isNaN_h
  go_enter Tryz.func225, Tryz.ntmps225
  go_wp2_with (go_at_call 279; refine (hcon _ _).mono ?_; rintro e w' ⟨rfl, rfl⟩)
  · go_ret
    exact ⟨ret_int (by unfold cmpI; rw [if_pos (by assumption)]), rfl⟩
  · go_ret
    exact ⟨ret_int (by unfold cmpI; rw [if_neg (by omega), if_pos (by assumption)]), rfl⟩
  · go_ret
    exact ⟨ret_int (by unfold cmpI; rw [if_neg (by omega), if_neg (by omega)]), rfl⟩
/-- Generators in the upper half plane, of bounded coordinates. -/
structure Up where
  p : Pt
  up : up p
  bd : Bd 268435456 p
instance : Inhabited Up := ⟨⟨(1, 0), .inr ⟨rfl, by decide⟩, by unfold Bd; simp⟩⟩
open Go.RowKit

def vldB (W H : Int) (xs : List Int) : Bool := decide (1 ≤ W ∧ W ≤ 64 ∧ 1 ≤ H ∧ H ≤ 64 ∧ (xs.length : Int) = W * H ∧ ∀ v ∈ xs, v ≤ 2)
def inB (W H x y : Int) : Bool := decide (0 ≤ x ∧ x < W ∧ 0 ≤ y ∧ y < H)
def atI (W H : Int) (xs : List Int) (x y : Int) : Int := if inB W H x y then gi xs (y * W + x).toNat else 2
structure Vld (W H : Int) (xs : List Int) : Prop where
  w0 : 1 ≤ W
  w1 : W ≤ 64
  h0 : 1 ≤ H
  h1 : H ≤ 64
  len : (xs.length : Int) = W * H
  le : ∀ v ∈ xs, v ≤ 2
theorem vld_iff {W H : Int} {xs : List Int} : vldB W H xs = true ↔ Vld W H xs := by
  unfold vldB
  rw [decide_eq_true_iff]
  exact ⟨fun ⟨a, b, c, d, e, f⟩ => ⟨a, b, c, d, e, f⟩, fun ⟨a, b, c, d, e, f⟩ => ⟨a, b, c, d, e, f⟩⟩
theorem vld_false {W H : Int} {xs : List Int} : vldB W H xs = false ↔ ¬ Vld W H xs := by
  rw [← vld_iff]; simp
theorem inB_iff {W H x y : Int} : inB W H x y = true ↔ 0 ≤ x ∧ x < W ∧ 0 ≤ y ∧ y < H := by
  unfold inB; rw [decide_eq_true_iff]
theorem mul_le_64 {a b : Int} (h0 : 0 ≤ a) (h1 : a ≤ 64) (h2 : 0 ≤ b) (h3 : b ≤ 64) : 0 ≤ a * b ∧ a * b ≤ 4096 :=
  ⟨Int.mul_nonneg h0 h2, Int.le_trans (Int.mul_le_mul h1 h3 h2 (by omega)) (by omega)⟩
theorem Vld.pos {W H : Int} {xs : List Int} (h : Vld W H xs) : 1 ≤ W * H ∧ W * H ≤ 4096 ∧ 0 < xs.length ∧ xs.length ≤ 4096 := by
  have h1 : 1 * 1 ≤ W * H := Int.mul_le_mul h.w0 h.h0 (by omega) (by have := h.w0; omega)
  have h2 := mul_le_64 (a := W) (b := H) (by have := h.w0; omega) h.w1 (by have := h.h0; omega) h.h1
  have h3 := h.len
  omega
/-- The number of a cell. -/
theorem idx_bd {W H x y : Int} (h : inB W H x y = true) : 0 ≤ y * W ∧ 0 ≤ y * W + x ∧ y * W + x < W * H := by
  obtain ⟨a, b, c, d⟩ := inB_iff.1 h
  have h1 : 0 ≤ y * W := Int.mul_nonneg c (by omega)
  have h2 : (y + 1) * W ≤ H * W := Int.mul_le_mul_of_nonneg_right (by omega) (by omega)
  rw [Int.add_mul, Int.one_mul] at h2
  rw [Int.mul_comm W H]
  omega
theorem Vld.idx {W H x y : Int} {xs : List Int} (hv : Vld W H xs) (h : inB W H x y = true) : 0 ≤ y * W ∧ y * W ≤ 4096 ∧ 0 ≤ y * W + x ∧ y * W + x < W * H ∧ (y * W + x).toNat < xs.length ∧ 0 ≤ x ∧ x < 64 ∧ 0 ≤ y ∧ y < 64 := by
  have h1 := idx_bd h
  have h2 := hv.pos
  have h3 := hv.len
  obtain ⟨a, b, c, d⟩ := inB_iff.1 h
  have := hv.w1
  have := hv.h1
  omega
open Go.RowKit
open Go.RowKit

/-- The order of two operations matters. -/
def depI (q z : Bool) (ops : Array Oper) (i j : Nat) : Bool :=
  match ops[i]?, ops[j]? with
  | some a, some b =>
    let free := fun (i : Nat) (a b : Oper) => (match a.dst with | some t => b.dst != some t && !(b.looksAt ops).contains t | none => true) && (!kChg q a.op || kPure b.op || (!z && (kExt ops i a.op && kRead b.op)))
    !(free i a b && free j b a)
  | _, _ => false
/-- The operations in another order, with the edges that it needs. -/
def opsT (q z : Bool) (ops : Array Oper) (τ : List Nat) : Array Oper :=
  (τ.zipIdx.map fun p => { (ops[p.1]?.getD default) with after := (((List.range p.2).filter fun k => depI q z ops ((τ[k]?).getD 0) p.1).map fun k => (⟨k, .data⟩ : Edge)).toArray, guard := none }).toArray
/-- The operations that are run, in that order. -/
def pickL (l : List Oper) (τ : List Nat) : List LOp := τ.map fun i => ((l[i]?).map fun o => (⟨o.dst, o.op, none⟩ : LOp)).getD ⟨none, .move (.tmp 0), none⟩
def ordB (mk : List Nat) (i j : Nat) : Bool := (mk.getD j 0).testBit i
/-- The pairs whose order matters and that no edge orders. -/
def loose (q z : Bool) (ops : Array Oper) (mk : List Nat) : List (Nat × Nat) :=
  (List.range ops.size).flatMap fun j => ((List.range j).filter fun i => depI q z ops i j && !ordB mk i j && !ordB mk j i).map fun i => (i, j)
def orient : List (Nat × Nat) → List Bool → List (Nat × Nat)
  | p :: ps, b :: bs => (bif b then p else (p.2, p.1)) :: orient ps bs
  | _, _ => []
def allV : Nat → List (List Bool)
  | 0 => [[]]
  | n + 1 => (allV n).flatMap fun v => [true :: v, false :: v]
def linkB (mk : List Nat) (x y : Nat) : Bool := x == y || ordB mk x y
def refuted (mk : List Nat) (O : List (Nat × Nat)) : Bool :=
  (O.any fun a => O.any fun b => linkB mk a.2 b.1 && linkB mk b.2 a.1) || O.any fun a => O.any fun b => O.any fun c => linkB mk a.2 b.1 && linkB mk b.2 c.1 && linkB mk c.2 a.1
def okRep (q z : Bool) (ops : Array Oper) (mk : List Nat) (O : List (Nat × Nat)) (τ : List Nat) : Bool :=
  (List.range τ.length).all fun k => (List.range k).all fun k' => let i := (τ[k']?).getD 0; let j := (τ[k]?).getD 0; !depI q z ops i j || ordB mk i j || O.contains (i, j)
def coverB (q z : Bool) (ops : Array Oper) (reps : List (List Nat)) : Bool :=
  let mk := masks ops
  let U := loose q z ops mk
  (allV U.length).all fun v => let O := orient U v; refuted mk O || reps.any fun τ => okRep q z ops mk O τ
def permB (n : Nat) (τ : List Nat) : Bool := τ.length == n && ((List.range n).all fun i => τ.contains i) && (τ.all fun i => Nat.blt i n) && (List.range n).all fun k => τ.idxOf ((τ[k]?).getD 0) == k
def strictB (q : Bool) (ops : Array Oper) : Bool :=
  let m := masks ops; ops.toList.zipIdx.all fun p => ops.toList.zipIdx.all fun r => p.2 == r.2 || ((m.getD r.2 0).testBit p.2 || (m.getD p.2 0).testBit r.2 || !kChg q p.1.op || kPure r.1.op)
theorem strictB_spec {q : Bool} {ops : Array Oper} (h : strictB q ops = true) : Strict q ops := fun i j a b ha hb hij hc hp => by
  have zi : ∀ i o, ops[i]? = some o → (o, i) ∈ ops.toList.zipIdx := fun i o ho => List.mem_iff_getElem?.2 ⟨i, by simp [List.getElem?_zipIdx, ho]⟩
  have := List.all_eq_true.1 (List.all_eq_true.1 h _ (zi i a ha)) _ (zi j b hb)
  simp only [Bool.or_eq_true, beq_iff_eq] at this
  rcases this with h | ((h | h) | h) | h
  · exact absurd h hij
  · exact .inl (masks_spec h)
  · exact .inr (masks_spec h)
  · rw [hc] at h; cases h
  · rw [hp] at h; cases h
/-- All that is asked of a region and of the orders that stand for all. -/
def repsOk (q z : Bool) (N : Nat) (ops : Array Oper) (reps : List (List Nat)) : Bool :=
  (ops.toList.all fun o => o.guard.isNone) && (ops.toList.zipIdx.all fun p => p.1.after.all fun e => !Region.binds .any e || decide (e.on < p.2)) &&
  (reps.all fun τ => permB ops.size τ && drawOk q N (opsT q z ops τ) && (!z || strictB q (opsT q z ops τ))) && coverB q z ops reps
section
variable {P : Program} {N n m : Nat} {Q : Exit → Fr → AHeap → Prop} {q z : Bool} {ops : Array Oper}
theorem idx_ne {a b : Nat} {l : List Nat} (h : a ≠ b) : (a :: l).idxOf b = l.idxOf b + 1 := by
  rw [List.idxOf_cons]
  have : (a == b) = false := by simp [h]
  rw [this]; rfl
inductive ValidL (ops : Array Oper) : Array Bool → List Nat → Prop where
  | nil {listed : Array Bool} : Region.ready .any ops listed = [] → ValidL ops listed []
  | cons {listed : Array Bool} {i : Nat} {π : List Nat} : i ∈ Region.ready .any ops listed → ValidL ops (listed.setIfInBounds i true) π → ValidL ops listed (i :: π)
theorem go_valid : ∀ (fuel t : Nat) (listed : Array Bool), listed.size = ops.size → unl listed.toList ≤ fuel → ValidL ops listed (Region.linearise.go .any ops fuel t listed [])
  | 0, t, listed, hs, hu => by
    refine .nil ?_
    apply List.eq_nil_iff_forall_not_mem.2
    intro j hj
    obtain ⟨h0, o, ho, -⟩ := mem_ready.1 hj
    have hj' := (Array.getElem?_eq_some_iff.1 ho).1
    have hi' : j < listed.toList.length := by simp; omega
    have := List.countP_eq_zero.1 (Nat.le_zero.1 hu) listed.toList[j] (List.getElem_mem hi')
    simp at this
    simp [hs, hj', this] at h0
  | fuel + 1, t, listed, hs, hu => by
    simp only [Region.linearise.go]
    change ValidL ops listed (match (Region.ready .any ops listed)[t % (Region.ready .any ops listed).length]? with
      | some i => Region.linearise.go .any ops fuel (t / (Region.ready .any ops listed).length) (listed.setIfInBounds i true) [i]
      | none => [].reverse)
    cases hi : (Region.ready .any ops listed)[t % (Region.ready .any ops listed).length]? with
    | none =>
      refine .nil ?_
      cases hr : Region.ready .any ops listed with
      | nil => rfl
      | cons x xs =>
        rw [hr] at hi
        have hlt : t % (x :: xs).length < (x :: xs).length := Nat.mod_lt _ (by simp)
        simp at hi
        simp at hlt
        omega
    | some i =>
      simp only []
      rw [linearise_go_acc, List.reverse_singleton, List.singleton_append]
      have hmem := List.mem_of_getElem? hi
      refine .cons hmem (go_valid fuel _ _ (by simp [hs]) ?_)
      obtain ⟨h0, o, ho, -⟩ := mem_ready.1 hmem
      have hj' := (Array.getElem?_eq_some_iff.1 ho).1
      have := unl_set (l := listed.toList) (k := i) (by simp; omega) (by
        rw [Array.getElem?_toList]
        simp [hs, hj'] at h0
        rw [Array.getElem?_eq_getElem (by omega), h0])
      rw [Array.toList_setIfInBounds]
      omega
theorem any_valid {Q : Exit → Act → World → Prop} : ∀ (π : List Nat) (fuel : Nat) (listed : Array Bool) (a : Act) (w : World), π.length ≤ fuel → wpAny P .any ops Q fuel listed a w → ValidL ops listed π → wpOps P ops Q π a w
  | [], 0, _, _, _, _, h, _ => h.2
  | [], _ + 1, _, _, _, _, h, hv => by cases hv with | nil hr => exact h.1 hr
  | i :: π, 0, _, _, _, hl, _, _ => by simp at hl
  | i :: π, fuel + 1, listed, a, w, hl, h, hv => by
    cases hv with
    | cons hi hv =>
      rw [wpOps_cons]
      exact wpOp_mono (fun a w hh => any_valid π fuel _ a w (by simp at hl; omega) hh hv) (h.2 i hi)
/-- What is known of a full order. -/
theorem valid_all (hback : ∀ (i : Nat) (o : Oper) (e : Edge), ops[i]? = some o → e ∈ o.after → Region.binds .any e = true → e.on < i) : ∀ (π : List Nat) (listed : Array Bool), listed.size = ops.size → ValidL ops listed π →
    (∀ i, i < ops.size → listed.getD i false = false → i ∈ π) ∧ (∀ i ∈ π, i < ops.size ∧ listed.getD i false = false) ∧ π.Nodup ∧ ∀ (j : Nat) (o : Oper) (e : Edge), j ∈ π → ops[j]? = some o → e ∈ o.after → Region.binds .any e = true → listed.getD e.on false = true ∨ π.idxOf e.on < π.idxOf j
  | [], listed, hs, hv => by
    cases hv with
    | nil hr =>
      refine ⟨fun i hi hli => ?_, fun i h => by simp at h, List.nodup_nil, fun j o e h => by simp at h⟩
      exfalso
      have hall : ∀ i, i < ops.size → listed.getD i false = true := by
        intro i
        induction i using Nat.strongRecOn with
        | _ i ihi =>
          intro hi
          cases hli : listed.getD i false with
          | true => rfl
          | false =>
            exfalso
            have ho : ops[i]? = some ops[i] := Array.getElem?_eq_getElem hi
            have : i ∈ Region.ready .any ops listed := mem_ready.2 ⟨by simp [hs, hi] at hli ⊢; exact hli, _, ho, fun e he hb => by
              have hlt := hback i _ e ho he hb
              exact ihi e.on hlt (by omega)⟩
            rw [hr] at this; cases this
      rw [hall i hi] at hli; cases hli
  | i :: π, listed, hs, hv => by
    cases hv with
    | cons hi hv =>
      obtain ⟨h1, h2, h3, h4⟩ := valid_all hback π _ (by simp [hs]) hv
      obtain ⟨h0, o, ho, hed⟩ := mem_ready.1 hi
      have hin := (Array.getElem?_eq_some_iff.1 ho).1
      have hli : listed.getD i false = false := by simp [hs, hin] at h0 ⊢; exact h0
      have hget : ∀ j, (listed.setIfInBounds i true).getD j false = if j = i then true else listed.getD j false := fun j => by
        by_cases e : j = i
        · subst e; simp [hs, hin]
        · rw [if_neg e, getD_set_ne false (fun e' => e e'.symm)]
      have hni : i ∉ π := fun hm => by
        have := (h2 i hm).2
        rw [hget, if_pos rfl] at this; cases this
      refine ⟨fun j hj hjl => ?_, fun j hj => ?_, List.nodup_cons.2 ⟨hni, h3⟩, fun j o' e hj ho' he hb => ?_⟩
      · by_cases e : j = i
        · simp [e]
        · exact List.mem_cons_of_mem _ (h1 j hj (by rw [hget, if_neg e]; exact hjl))
      · rcases List.mem_cons.1 hj with rfl | hj
        · exact ⟨hin, hli⟩
        · have := h2 j hj
          rw [hget] at this
          by_cases e : j = i
          · rw [if_pos e] at this; cases this.2
          · rw [if_neg e] at this; exact this
      · by_cases eji : j = i
        · subst eji
          rw [ho] at ho'; simp at ho'; subst ho'
          exact .inl (hed e he hb)
        · have hj' : j ∈ π := (List.mem_cons.1 hj).resolve_left eji
          have hidx : (i :: π).idxOf j = π.idxOf j + 1 := by rw [idx_ne (fun e => eji e.symm)]
          rcases h4 j o' e hj' ho' he hb with h5 | h5
          · rw [hget] at h5
            by_cases e2 : e.on = i
            · right; rw [e2, List.idxOf_cons_self, hidx]; omega
            · rw [if_neg e2] at h5; exact .inl h5
          · by_cases e2 : e.on = i
            · right; rw [e2, List.idxOf_cons_self, hidx]; omega
            · right; rw [idx_ne (fun e' => e2 e'.symm), hidx]; omega
theorem mem_allV : ∀ (v : List Bool), v ∈ allV v.length
  | [] => by simp [allV]
  | b :: v => by
    simp only [List.length_cons, allV, List.mem_flatMap]
    refine ⟨v, mem_allV v, ?_⟩
    cases b <;> simp
theorem orient_lt {rk : Nat → Nat} : ∀ (U : List (Nat × Nat)), (∀ p ∈ U, rk p.1 ≠ rk p.2) → ∀ p ∈ orient U (U.map fun p => decide (rk p.1 < rk p.2)), rk p.1 < rk p.2
  | [], _, p, h => by simp [orient] at h
  | u :: U, hU, p, h => by
    simp only [List.map_cons, orient, List.mem_cons] at h
    rcases h with rfl | h
    · by_cases hd : rk u.1 < rk u.2
      · rw [decide_eq_true hd, cond_true]; exact hd
      · rw [decide_eq_false hd, cond_false]
        have := hU u (by simp)
        show rk u.2 < rk u.1
        omega
    · exact orient_lt U (fun p hp => hU p (by simp [hp])) p h
theorem cover_rep {reps : List (List Nat)} {rk : Nat → Nat} (hc : coverB q z ops reps = true) (hord : ∀ i j, ordB (masks ops) i j = true → rk i < rk j) (hU : ∀ p ∈ loose q z ops (masks ops), rk p.1 ≠ rk p.2) :
    ∃ τ ∈ reps, ∀ k k' : Nat, k < τ.length → k' < k → depI q z ops ((τ[k']?).getD 0) ((τ[k]?).getD 0) = true → rk ((τ[k']?).getD 0) < rk ((τ[k]?).getD 0) := by
  have hlt := orient_lt (rk := rk) _ hU
  have hv := List.all_eq_true.1 hc ((loose q z ops (masks ops)).map fun p => decide (rk p.1 < rk p.2)) (by
    have := mem_allV ((loose q z ops (masks ops)).map fun p => decide (rk p.1 < rk p.2))
    simpa using this)
  simp only [Bool.or_eq_true] at hv
  have hlink : ∀ x y, linkB (masks ops) x y = true → rk x ≤ rk y := fun x y h => by
    unfold linkB at h
    simp only [Bool.or_eq_true, beq_iff_eq] at h
    rcases h with rfl | h
    · exact Nat.le_refl _
    · exact Nat.le_of_lt (hord _ _ h)
  rcases hv with hv | hv
  · exfalso
    unfold refuted at hv
    simp only [Bool.or_eq_true, List.any_eq_true, Bool.and_eq_true] at hv
    rcases hv with ⟨a, ha, b, hb, h1, h2⟩ | ⟨a, ha, b, hb, c, hc', ⟨h1, h2⟩, h3⟩
    · have := hlt a ha; have := hlt b hb; have := hlink _ _ h1; have := hlink _ _ h2; omega
    · have := hlt a ha; have := hlt b hb; have := hlt c hc'; have := hlink _ _ h1; have := hlink _ _ h2; have := hlink _ _ h3; omega
  · obtain ⟨τ, hτ, hk⟩ := List.any_eq_true.1 hv
    refine ⟨τ, hτ, fun k k' h1 h2 hd => ?_⟩
    have := List.all_eq_true.1 (List.all_eq_true.1 hk k (List.mem_range.2 h1)) k' (List.mem_range.2 h2)
    simp only [hd, Bool.not_true, Bool.false_or, Bool.or_eq_true] at this
    rcases this with h | h
    · exact hord _ _ h
    · exact hlt _ (by simpa using h)
theorem opsT_get {τ : List Nat} {k i : Nat} (hk : τ[k]? = some i) : (opsT q z ops τ)[k]? = some { (ops[i]?.getD default) with after := (((List.range k).filter fun k' => depI q z ops ((τ[k']?).getD 0) i).map fun k' => (⟨k', .data⟩ : Edge)).toArray, guard := none } := by
  unfold opsT
  simp [List.getElem?_zipIdx, hk]
theorem opsT_size {τ : List Nat} : (opsT q z ops τ).size = τ.length := by simp [opsT]
theorem idx_lt_mem {A B : List Nat} {i : Nat} (h : (A ++ B).idxOf i < A.length) : i ∈ A := by
  by_cases hi : i ∈ A
  · exact hi
  · rw [List.idxOf_append, if_neg hi] at h; omega
theorem validT {τ π0 : List Nat} (hlen : τ.length = ops.size) (hmem : ∀ i, i < ops.size → i ∈ τ) (hpos : ∀ k, k < ops.size → τ.idxOf ((τ[k]?).getD 0) = k) (hin : ∀ i ∈ τ, i < ops.size)
    (hnd : π0.Nodup) (hall : ∀ i, i < ops.size → i ∈ π0) (hπ : ∀ i ∈ π0, i < ops.size)
    (hag : ∀ k k' : Nat, k < τ.length → k' < k → depI q z ops ((τ[k']?).getD 0) ((τ[k]?).getD 0) = true → π0.idxOf ((τ[k']?).getD 0) < π0.idxOf ((τ[k]?).getD 0)) :
    ∀ (π A : List Nat) (L : Array Bool), π0 = A ++ π → L.size = ops.size → (∀ k, k < ops.size → L.getD k false = decide ((τ[k]?).getD 0 ∈ A)) → ValidL (opsT q z ops τ) L (π.map fun i => τ.idxOf i)
  | [], A, L, e, hs, hL => by
    refine .nil ?_
    apply List.eq_nil_iff_forall_not_mem.2
    intro k hk
    obtain ⟨h0, o, ho, -⟩ := mem_ready.1 hk
    have hk' := (Array.getElem?_eq_some_iff.1 ho).1
    rw [opsT_size, hlen] at hk'
    have h1 := hL k hk'
    have hτ : τ[k]? = some τ[k] := List.getElem?_eq_getElem (by omega)
    rw [hτ] at h1
    have : τ[k] ∈ A := by
      rw [List.append_nil] at e
      rw [← e]; exact hall _ (hin _ (List.getElem_mem _))
    simp [this] at h1
    simp [hs, hk'] at h0 h1
    rw [h1] at h0; cases h0
  | j :: π, A, L, e, hs, hL => by
    have hj : j < ops.size := hπ j (by rw [e]; simp)
    have hjm := hmem j hj
    have hkl : τ.idxOf j < τ.length := List.idxOf_lt_length_of_mem hjm
    have hτk : τ[τ.idxOf j]? = some j := by rw [List.getElem?_eq_getElem hkl, List.getElem_idxOf]
    have hjA : j ∉ A := fun h => by
      rw [e] at hnd
      exact (List.nodup_append.1 hnd).2.2 j h j (by simp) rfl
    have hget := opsT_get (q := q) (z := z) (ops := ops) hτk
    refine .cons (mem_ready.2 ⟨?_, _, hget, fun ed he _ => ?_⟩) (validT hlen hmem hpos hin hnd hall hπ hag π (A ++ [j]) _ (by rw [e]; simp) (by simp [hs]) fun k hk => ?_)
    · have := hL (τ.idxOf j) (by omega)
      rw [hτk] at this
      simp [hjA] at this
      show L.getD (τ.idxOf j) true = false
      rw [Array.getD_eq_getD_getElem?]
      rw [Array.getElem?_eq_getElem (by omega)] at this ⊢
      simpa using this
    · simp only [List.mem_toArray, List.mem_map, List.mem_filter, List.mem_range] at he
      obtain ⟨k', ⟨hk1, hk2⟩, rfl⟩ := he
      have h1 := hag (τ.idxOf j) k' hkl hk1 (by rw [hτk]; exact hk2)
      rw [hτk] at h1
      simp only [Option.getD_some] at h1
      have hjx : π0.idxOf j = A.length := by
        rw [e, List.idxOf_append, if_neg hjA, List.idxOf_cons_self, Nat.zero_add]
      rw [hjx, e] at h1
      have := idx_lt_mem h1
      rw [hL k' (by omega)]
      simp [this]
    · by_cases ek : k = τ.idxOf j
      · subst ek
        rw [hτk]
        simp [hs, hj, hlen ▸ hkl]
      · rw [getD_set_ne false (fun e' => ek e'.symm), hL k hk]
        have hne : (τ[k]?).getD 0 ≠ j := fun h => ek (by have := hpos k hk; rw [h] at this; exact this.symm)
        simp [hne]
theorem wpOps_T {Q : Exit → Act → World → Prop} {τ : List Nat} (hmem : ∀ i, i < ops.size → i ∈ τ) (hg : ∀ (i : Nat) (o : Oper), ops[i]? = some o → o.guard = none) : ∀ (π : List Nat) (a : Act) (w : World), (∀ i ∈ π, i < ops.size) → wpOps P (opsT q z ops τ) Q (π.map fun i => τ.idxOf i) a w → wpOps P ops Q π a w
  | [], _, _, _, h => h
  | i :: π, a, w, hπ, h => by
    rw [List.map_cons, wpOps_cons] at h
    rw [wpOps_cons]
    have h1 := wpOp_mono (fun a w hh => wpOps_T hmem hg π a w (fun j hj => hπ j (by simp [hj])) hh) h
    have hi := hπ i (by simp)
    have him := hmem i hi
    have hτk : τ[τ.idxOf i]? = some i := by rw [List.getElem?_eq_getElem (List.idxOf_lt_length_of_mem him), List.getElem_idxOf]
    have ho : ops[i]? = some ops[i] := Array.getElem?_eq_getElem hi
    unfold wpOp at h1 ⊢
    rw [opsT_get hτk] at h1
    rw [ho] at h1 ⊢
    have hgi := hg i _ ho
    simp only [Region.wanted, hgi, if_true, Option.getD_some] at h1 ⊢
    exact h1
theorem pick_opsT {τ : List Nat} (hin : ∀ i ∈ τ, i < ops.size) : (opsT q z ops τ).toList.map (lightOf (dsts (opsT q z ops τ))) = pickL ops.toList τ := by
  refine List.ext_getElem? fun k => ?_
  unfold pickL
  rw [List.getElem?_map, List.getElem?_map, Array.getElem?_toList]
  cases hk : τ[k]? with
  | none =>
    have : (opsT q z ops τ)[k]? = none := Array.getElem?_eq_none (by rw [opsT_size]; exact List.getElem?_eq_none_iff.1 hk)
    rw [this]; rfl
  | some i =>
    rw [opsT_get hk]
    have hi := hin i (List.mem_of_getElem? hk)
    simp only [Option.map_some, lightOf, Option.map_none]
    rw [Array.getElem?_toList, Array.getElem?_eq_getElem hi]
    rfl
theorem nodup_len : ∀ (n : Nat) (l : List Nat), l.Nodup → (∀ i ∈ l, i < n) → l.length ≤ n
  | 0, l, _, h => by
    cases l with
    | nil => simp
    | cons x l => exact absurd (h x (by simp)) (Nat.not_lt_zero x)
  | n + 1, l, hd, h => by
    have h1 := nodup_len n (l.filter fun i => i != n) (hd.filter _) (fun i hi => by
      simp only [List.mem_filter, bne_iff_ne] at hi
      have := h i hi.1
      omega)
    have h2 := List.length_eq_countP_add_countP (fun i => i != n) (l := l)
    rw [← List.countP_eq_length_filter] at h1
    have h3 : List.countP (fun a => decide ¬(a != n) = true) l = l.count n := by
      unfold List.count
      congr 1
      funext a
      by_cases e : a = n <;> simp [e]
    have h4 := List.nodup_iff_count.1 hd n
    omega
/-- A region that draws by the orders that stand for all. -/
theorem AW_reps {id : Nat} {F : Fr} {H : AHeap} (hm : P.follows .mixedOrders = true) (reps : List (List Nat)) (hok : repsOk q z N ops reps = true) (hmz : m = H.length ∨ z = true)
    (hh : ∀ τ ∈ reps, AOpsDL P q m (pickL ops.toList τ) F H (fun F' H' => Q .normal F' H')) : AW P N n (.region id ops true) Q F H := by
  intro E w a h1 h2 h3 h4 h5
  unfold repsOk at hok
  simp only [Bool.and_eq_true] at hok
  obtain ⟨⟨⟨k1, k2⟩, k3⟩, k4⟩ := hok
  have zi : ∀ i o, ops[i]? = some o → (o, i) ∈ ops.toList.zipIdx := fun i o ho => List.mem_iff_getElem?.2 ⟨i, by simp [List.getElem?_zipIdx, ho]⟩
  have hg : ∀ (i : Nat) (o : Oper), ops[i]? = some o → o.guard = none := fun i o ho => by
    have := List.all_eq_true.1 k1 o (by simpa using Array.mem_of_getElem? ho)
    simpa using this
  have hback : ∀ (i : Nat) (o : Oper) (e : Edge), ops[i]? = some o → e ∈ o.after → Region.binds .any e = true → e.on < i := fun i o e ho he hb => by
    have := List.all_eq_true.1 k2 _ (zi i o ho)
    have := Array.all_eq_true_iff_forall_mem.1 this e he
    simpa [hb] using this
  refine wp_region_draw fun t => ?_
  simp only [Region.schedule, hm, Bool.true_or, if_true]
  have hv : ValidL ops (Array.replicate ops.size false) (Region.linearise .any ops t) := go_valid _ t _ (by simp) (by simp [unl, List.countP_replicate])
  generalize Region.linearise .any ops t = π at hv
  have hL : ∀ i, (Array.replicate ops.size false).getD i false = false := fun i => by
    rw [Array.getD_eq_getD_getElem?]
    cases hq : (Array.replicate ops.size false)[i]? with
    | none => rfl
    | some b => rw [Array.getElem?_replicate] at hq; split at hq <;> simp at hq; subst hq; rfl
  obtain ⟨v1, v2, v3, v4⟩ := valid_all hback π _ (by simp) hv
  have hall : ∀ i, i < ops.size → i ∈ π := fun i hi => v1 i hi (hL i)
  have hπ : ∀ i ∈ π, i < ops.size := fun i hi => (v2 i hi).1
  have hpred : ∀ i j, Pred ops i j → j < ops.size → π.idxOf i < π.idxOf j := fun i j hp => by
    induction hp with
    | edge ho he hb =>
      intro hj
      rcases v4 _ _ _ (hall _ hj) ho he hb with h | h
      · rw [hL] at h; cases h
      · exact h
    | step ho he hb _ ih =>
      intro hj
      rcases v4 _ _ _ (hall _ hj) ho he hb with h | h
      · rw [hL] at h; cases h
      · exact Nat.lt_trans (ih (by have := hback _ _ _ ho he hb; omega)) h
  have predlt : ∀ i j, Pred ops i j → j < ops.size := fun i j hp => by
    cases hp with
    | edge ho _ _ => exact (Array.getElem?_eq_some_iff.1 ho).1
    | step ho _ _ _ => exact (Array.getElem?_eq_some_iff.1 ho).1
  obtain ⟨τ, hτ, hag⟩ := cover_rep (rk := fun i => π.idxOf i) k4 (fun i j h => hpred i j (masks_spec h) (predlt i j (masks_spec h))) (fun p hp => by
    unfold loose at hp
    simp only [List.mem_flatMap, List.mem_range, List.mem_map, List.mem_filter] at hp
    obtain ⟨j, hj, i, ⟨hi, -⟩, rfl⟩ := hp
    intro e
    have h1 : π[π.idxOf i]? = some i := by rw [List.getElem?_eq_getElem (List.idxOf_lt_length_of_mem (hall i (by omega))), List.getElem_idxOf]
    have h2 : π[π.idxOf j]? = some j := by rw [List.getElem?_eq_getElem (List.idxOf_lt_length_of_mem (hall j hj)), List.getElem_idxOf]
    simp only at e
    rw [e, h2] at h1
    simp at h1; omega)
  have hr := List.all_eq_true.1 k3 τ hτ
  simp only [Bool.and_eq_true] at hr
  obtain ⟨⟨hp, hd⟩, hz⟩ := hr
  unfold permB at hp
  simp only [Bool.and_eq_true, beq_iff_eq] at hp
  obtain ⟨⟨⟨p1, p2⟩, p3⟩, p4⟩ := hp
  have hmem : ∀ i, i < ops.size → i ∈ τ := fun i hi => by
    have := List.all_eq_true.1 p2 i (List.mem_range.2 hi)
    simpa using this
  have hin : ∀ i ∈ τ, i < ops.size := fun i hi => Nat.le_of_ble_eq_true (List.all_eq_true.1 p3 i hi)
  have hpos : ∀ k, k < ops.size → τ.idxOf ((τ[k]?).getD 0) = k := fun k hk => by
    have := List.all_eq_true.1 p4 k (List.mem_range.2 hk)
    simpa using this
  refine wpOps_T (q := q) (z := z) hmem hg π a _ hπ ?_
  have hvT := validT (q := q) (z := z) p1 hmem hpos hin v3 hall hπ hag π [] (Array.replicate (opsT q z ops τ).size false) (by simp) (by simp [opsT_size, p1]) (fun k hk => by
    rw [Array.getD_eq_getD_getElem?]
    cases hq : (Array.replicate (opsT q z ops τ).size false)[k]? with
    | none => simp
    | some b => rw [Array.getElem?_replicate] at hq; split at hq <;> simp at hq; subst hq; simp)
  have hany := draw_any (P := P) (N := N) (n := n) (Q := Q) q hd (hmz.imp (fun e => e) fun e => strictB_spec (by rw [e] at hz; simpa [e] using hz)) (AOpsD_of (opsT q z ops τ).toList F H (by rw [pick_opsT hin]; exact hh τ hτ)) h1 h2 h3 h4 h5
  refine any_valid _ _ _ _ _ ?_ hany hvT
  rw [List.length_map, opsT_size, p1]
  have := nodup_len ops.size π v3 hπ
  omega
theorem AW_abs {c : Code} {Q : Exit → Fr → AHeap → Prop} {σ : Nat → Nat} {F F2 : Fr} {H H2 : AHeap} (ab : Abs n σ F H F2 H2) (h : AW P N n c Q F2 H2) : AW P N n c Q F H := by
  intro E w a h1 h2 h3 h4 h5
  obtain ⟨E', hle, f, e⟩ := ab.emb h1 h4 h5
  exact wp_mono (h E' w a hle.n h2 h3 f e) fun e a w hh => LiftQ.shift hle hh
/-- A piece of code, what it leaves, and then the rest. -/
theorem AW_step {a b : Code} {F : Fr} {H : AHeap} (q : Bool) (hm : P.follows .mixedOrders = true) (hc : codeOk N q a = true) (J : Fr → AHeap → Prop) (h1 : AGo P N n q Q [.code a, .inv J] F H) (h2 : ∀ F H, J F H → AW P N n b Q F H) : AW P N n (.seq a b) Q F H := by
  refine AW_seq (AW.mono (AW_of hm a hc _ F H h1) fun e F H hq => ?_)
  cases e <;> first | exact h2 F H hq | exact hq
theorem AW_fin {a : Code} {F : Fr} {H : AHeap} (q : Bool) (hm : P.follows .mixedOrders = true) (hc : codeOk N q a = true) (h : AGo P N n q Q [.code a] F H) : AW P N n a Q F H := AW_of hm a hc _ F H h
/-- A region that draws, by its orders, what it leaves (seen in another way), and then the rest. -/
theorem AW_special {id : Nat} {b : Code} {F : Fr} {H : AHeap} (q : Bool) (hm : P.follows .mixedOrders = true) (reps : List (List Nat)) (hok : repsOk q false N ops reps = true) (I : Fr → AHeap → Prop)
    (h1 : ∀ τ ∈ reps, ∀ J : Fr → AHeap → Prop, (∀ F' H', (∃ σ F2 H2, I F2 H2 ∧ Abs n σ F' H' F2 H2) → J F' H') → AGo P N n q Q [.opsD H.length (pickL ops.toList τ), .inv J] F H) (h2 : ∀ F2 H2, I F2 H2 → AW P N n b Q F2 H2) : AW P N n (.seq (.region id ops true) b) Q F H := by
  refine AW_seq (AW.mono (AW_reps (Q := AThen (fun F' H' => ∃ σ F2 H2, I F2 H2 ∧ Abs n σ F' H' F2 H2) Q) hm reps hok (.inl rfl) fun τ hτ => ?_) fun e F H hq => ?_)
  · exact h1 τ hτ (fun F' H' => ∃ σ F2 H2, I F2 H2 ∧ Abs n σ F' H' F2 H2) (fun _ _ h => h)
  · cases e with
    | normal =>
      obtain ⟨σ, F2, H2, hi, ab⟩ := hq
      exact AW_abs ab (h2 F2 H2 hi)
    | _ => exact hq
/-- The same for regions in which a block is read that the region itself has made: every order of what changes memory and what reads it counts. -/
theorem AW_specialZ {id : Nat} {b : Code} {F : Fr} {H : AHeap} (q : Bool) (hm : P.follows .mixedOrders = true) (reps : List (List Nat)) (hok : repsOk q true N ops reps = true) (I : Fr → AHeap → Prop)
    (h1 : ∀ τ ∈ reps, ∀ J : Fr → AHeap → Prop, (∀ F' H', (∃ σ F2 H2, I F2 H2 ∧ Abs n σ F' H' F2 H2) → J F' H') → AGo P N n q Q [.opsD (H.length + 1000000) (pickL ops.toList τ), .inv J] F H) (h2 : ∀ F2 H2, I F2 H2 → AW P N n b Q F2 H2) : AW P N n (.seq (.region id ops true) b) Q F H := by
  refine AW_seq (AW.mono (AW_reps (m := H.length + 1000000) (Q := AThen (fun F' H' => ∃ σ F2 H2, I F2 H2 ∧ Abs n σ F' H' F2 H2) Q) hm reps hok (.inr rfl) fun τ hτ => ?_) fun e F H hq => ?_)
  · exact h1 τ hτ (fun F' H' => ∃ σ F2 H2, I F2 H2 ∧ Abs n σ F' H' F2 H2) (fun _ _ h => h)
  · cases e with
    | normal =>
      obtain ⟨σ, F2, H2, hi, ab⟩ := hq
      exact AW_abs ab (h2 F2 H2 hi)
    | _ => exact hq
theorem reps_cons {p : List Nat → Prop} {τ : List Nat} {l : List (List Nat)} (h : p τ) (h2 : ∀ τ ∈ l, p τ) : ∀ τ' ∈ τ :: l, p τ' := fun τ' h' => by
  rcases List.mem_cons.1 h' with rfl | h'
  · exact h
  · exact h2 _ h'
theorem reps_nil {p : List Nat → Prop} : ∀ τ' ∈ ([] : List (List Nat)), p τ' := fun τ' h => by simp at h
theorem inv_of {J : Fr → AHeap → Prop} {r : List It} {F : Fr} {H : AHeap} (h : J F H) : AGo P N n q Q (.inv J :: r) F H := h
/-- A function's call, piece by piece. -/
theorem ACalls_pieces {f : FuncId} {fn : Func} {args : List AV} {R : AV → AHeap → Prop} {H : AHeap} (hf : P.funcs[f]? = some fn) (N : Nat) (hN : fn.ntmps = N) (ha : args.length ≤ N) (hsome : fn.body.isSome = true)
    (h : HBel H.length H → ∀ Q, (∀ F H', AEnd P fn H.length R .ret F H' → ARet Q F H') → (∀ F H', AEnd P fn H.length R .normal F H' → Q .normal F H') → ∀ c, fn.body = some c → AW P N H.length c Q (argF 0 args) H) : ACalls P f args H R := by
  cases hb : fn.body with
  | none => rw [hb] at hsome; cases hsome
  | some c => exact ACalls_of hf hb hN ha fun hbel => h hbel (AEnd P fn H.length R) (fun _ _ k => k) (fun _ _ k => k) c hb
/-- As codeOk, whatever stands in loops. -/
def codeOkL (N : Nat) (q : Bool) : Code → Bool
  | .seq a b => codeOkL N q a && codeOkL N q b
  | .cond _ a b => codeOkL N q a && codeOkL N q b
  | .block _ c => codeOkL N q c
  | .region _ ops draw => bif draw then drawOk q N ops else dstsOk N ops
  | _ => true
theorem AW_ofL (hm : P.follows .mixedOrders = true) : ∀ (c : Code), codeOkL N q c = true → ∀ (Q : Exit → Fr → AHeap → Prop) (F : Fr) (H : AHeap), AWr P N n q c Q F H → AW P N n c Q F H
  | .skip, _, _, _, _, h => AW_skip h
  | .label _, _, _, _, _, h => AW_label h
  | .seq a b, hc, Q, F, H, h => by
    simp only [codeOkL, Bool.and_eq_true] at hc
    refine AW_seq (AW.mono (AW_ofL hm a hc.1 _ F H h) fun e F H hq => ?_)
    cases e with
    | normal => exact AW_ofL hm b hc.2 _ F H hq
    | _ => exact hq
  | .cond c a b, hc, Q, F, H, h => by
    simp only [codeOkL, Bool.and_eq_true] at hc
    obtain ⟨t, h1, h2, h3⟩ := h
    exact AW_cond t h1 (fun e => AW_ofL hm a hc.1 _ F H (h2 e)) (fun e => AW_ofL hm b hc.2 _ F H (h3 e))
  | .block id c, hc, Q, F, H, h => AW_block (AW_ofL hm c hc _ F H h)
  | .exit _, _, _, _, _, h => AW_exit h
  | .ret, _, _, _, _, h => AW_ret h
  | .region id ops draw, hc, Q, F, H, h => by
    cases draw
    · exact AW_region hc (AOps_of _ _ _ h)
    · exact AW_draw q hm hc (AOpsD_of _ _ _ h)
  | .loop c, _, _, _, _, h => h
  | .rangeFunc .., _, _, _, _, h => h.elim
  | .scope _, _, _, _, _, h => h.elim
  | .goto _, _, _, _, _, h => h.elim
  | .refuse _, _, _, _, _, h => h.elim
/-- A function's call by its text, where loops may hold regions whose order matters. -/
theorem ACalls_runL {f : FuncId} {fn : Func} {args : List AV} {R : AV → AHeap → Prop} {H : AHeap} (hm : P.follows .mixedOrders = true) (hf : P.funcs[f]? = some fn) (q : Bool) (N : Nat) (hN : fn.ntmps = N) (ha : args.length ≤ N)
    (hc : (fn.body.map (codeOkL N q)) = some true) (h : HBel H.length H → ∀ Q, (∀ F H', AEnd P fn H.length R .ret F H' → ARet Q F H') → (∀ F H', AEnd P fn H.length R .normal F H' → Q .normal F H') → ∀ c, fn.body = some c → AGo P N H.length q Q [.code c] (argF 0 args) H) : ACalls P f args H R := by
  cases hb : fn.body with
  | none => rw [hb] at hc; cases hc
  | some c =>
    rw [hb] at hc
    simp at hc
    exact ACalls_of hf hb hN ha fun hbel => AW_ofL hm c hc _ _ _ (h hbel (AEnd P fn H.length R) (fun _ _ k => k) (fun _ _ k => k) c hb)
/-- A piece of code and the rest, for any aim that the rest serves. -/
theorem AW_seqQ {a b : Code} {F : Fr} {H : AHeap} (h : ∀ Q2 : Exit → Fr → AHeap → Prop, (∀ F H, AW P N n b Q F H → Q2 .normal F H) → (∀ F H, ARet Q F H → ARet Q2 F H) → (∀ id F H, Q (.exit id) F H → Q2 (.exit id) F H) → AW P N n a Q2 F H) : AW P N n (.seq a b) Q F H :=
  AW_seq (h (AThen (fun F H => AW P N n b Q F H) Q) (fun _ _ k => k) (fun _ _ k => k) (fun _ _ _ k => k))
theorem AW_blockQ {id : Nat} {c : Code} {F : Fr} {H : AHeap} (h : ∀ Q2 : Exit → Fr → AHeap → Prop, (∀ F H, Q .normal F H → Q2 .normal F H) → (∀ F H, ARet Q F H → ARet Q2 F H) → (∀ id', id' ≠ id → ∀ F H, Q (.exit id') F H → Q2 (.exit id') F H) → (∀ F H, Q .normal F H → Q2 (.exit id) F H) → AW P N n c Q2 F H) : AW P N n (.block id c) Q F H :=
  AW_block (h (AInBlock id Q) (fun _ _ k => k) (fun _ _ k => k) (fun id' hne F H k => by simp only [AInBlock]; rw [if_neg hne]; exact k) (fun F H k => by simp only [AInBlock, if_true]; exact k))
/-- A loop whose rounds are walked piece by piece. -/
theorem go_loopA {c : Code} {r : List It} {F : Fr} {H : AHeap} (I : Nat → Fr → AHeap → Prop) (k0 : Nat) (h0 : ∃ σ F2 H2, I k0 F2 H2 ∧ Abs n σ F H F2 H2)
    (round : ∀ k F H, I k F H → ∀ Q2 : Exit → Fr → AHeap → Prop, (∀ F' H', (∃ k', k' < k ∧ ∃ σ F2 H2, I k' F2 H2 ∧ Abs n σ F' H' F2 H2) → Q2 .normal F' H') → (∀ F H, ARet Q F H → ARet Q2 F H) → (∀ id F H, AExit P N n q Q id r F H → Q2 (.exit id) F H) → AW P N n c Q2 F H) : AGo P N n q Q (.code (.loop c) :: r) F H :=
  AW_loop I k0 h0 fun k F H hi => round k F H hi (AThen _ (St P N n q Q r)) (fun _ _ k => k) (fun F H k => by show St P N n q Q r .ret F H; rw [ret_any]; exact k) (fun _ _ _ k => k)
theorem AW_loopA {c : Code} {F : Fr} {H : AHeap} (I : Nat → Fr → AHeap → Prop) (k0 : Nat) (h0 : ∃ σ F2 H2, I k0 F2 H2 ∧ Abs n σ F H F2 H2)
    (round : ∀ k F H, I k F H → ∀ Q2 : Exit → Fr → AHeap → Prop, (∀ F' H', (∃ k', k' < k ∧ ∃ σ F2 H2, I k' F2 H2 ∧ Abs n σ F' H' F2 H2) → Q2 .normal F' H') → (∀ F H, ARet Q F H → ARet Q2 F H) → (∀ id F H, Q (.exit id) F H → Q2 (.exit id) F H) → AW P N n c Q2 F H) : AW P N n (.loop c) Q F H :=
  AW_loop I k0 h0 fun k F H hi => round k F H hi (AThen _ Q) (fun _ _ k => k) (fun F H k => k) (fun _ _ _ k => k)
/-- A function's call by its text (in short). -/
theorem AcT (q : Bool) {f : FuncId} {fn : Func} {args : List AV} {R : AV → AHeap → Prop} {H : AHeap} (hf : P.funcs[f]? = some fn) {c : Code} (h : HBel H.length H → ∀ Q : Exit → Fr → AHeap → Prop, (∀ F H', AEnd P fn H.length R .ret F H' → ARet Q F H') → AGo P fn.ntmps H.length q Q [.code c] (argF 0 args) H)
    (hb : fn.body = some c := by rfl) (hm : P.follows .mixedOrders = true := by exact try_mixed) (ha : args.length ≤ fn.ntmps := by exact Nat.le_of_ble_eq_true (by kernel_rfl)) (hc : codeOk fn.ntmps q c = true := by kernel_rfl) : ACalls P f args H R :=
  ACalls_run hm hf q _ rfl ha (by rw [hb]; exact congrArg some hc) fun hbel Q hQ _ c' hc' => by
    rw [hb] at hc'
    injection hc' with hc'
    subst hc'
    exact h hbel Q hQ
theorem AcL (q : Bool) {f : FuncId} {fn : Func} {args : List AV} {R : AV → AHeap → Prop} {H : AHeap} (hf : P.funcs[f]? = some fn) {c : Code} (h : HBel H.length H → ∀ Q : Exit → Fr → AHeap → Prop, (∀ F H', AEnd P fn H.length R .ret F H' → ARet Q F H') → AGo P fn.ntmps H.length q Q [.code c] (argF 0 args) H)
    (hb : fn.body = some c := by rfl) (hm : P.follows .mixedOrders = true := by exact try_mixed) (ha : args.length ≤ fn.ntmps := by exact Nat.le_of_ble_eq_true (by kernel_rfl)) (hc : codeOkL fn.ntmps q c = true := by kernel_rfl) : ACalls P f args H R :=
  ACalls_runL hm hf q _ rfl ha (by rw [hb]; exact congrArg some hc) fun hbel Q hQ _ c' hc' => by
    rw [hb] at hc'
    injection hc' with hc'
    subst hc'
    exact h hbel Q hQ
end
set_option linter.unusedSimpArgs false
set_option linter.unusedVariables false
open Go.RowKit



/-- A frame as a tree by the bits of a slot's number. -/
inductive FT where
  | nil
  | leaf (x : AV)
  | node (l r : FT)
def FT.get : Nat → FT → Nat → AV
  | 0, f, _ => (match f with | .leaf x => x | _ => .any)
  | d + 1, f, t => (match f with | .node l r => bif Nat.beq (t % 2) 0 then FT.get d l (t / 2) else FT.get d r (t / 2) | _ => .any)
def FT.set : Nat → Nat → AV → FT → FT
  | 0, _, x, _ => .leaf x
  | d + 1, t, x, f => (match f with
    | .node l r => bif Nat.beq (t % 2) 0 then .node (FT.set d (t / 2) x l) r else .node l (FT.set d (t / 2) x r)
    | _ => bif Nat.beq (t % 2) 0 then .node (FT.set d (t / 2) x .nil) .nil else .node .nil (FT.set d (t / 2) x .nil))
/-- What a slot holds. -/
def getT (f : FT) (t : Nat) : AV := bif Nat.blt t 1024 then FT.get 10 f t else .any
def ev (f : FT) : Operand → AV
  | .tmp t => getT f t
  | .const v => AV.ofValue v
  | .global _ => .any
  | .func g => .fn g []
abbrev Caller := FuncId → List AV → AHeap → Option (AV × Option AHeap)
def CallOk (P : Program) (call : Caller) : Prop := ∀ f args H x o, call f args H = some (x, o) → okFn P f = true ∧ H.length ≤ (o.getD H).length ∧ ACalls P f args H (fun y H1 => y = x ∧ H1 = o.getD H)
section
variable {P : Program} {N n m : Nat} {d : Option Nat} {q keep : Bool} {call : Caller}
theorem Rel.env {E E' : Env} {x : AV} {v : Value} (h : Rel E x v) (hn : E'.n = E.n) (hl : ∀ b, E'.loc b = E.loc b) : Rel E' x v := by
  induction h with
  | any v => exact .any v
  | int k n => exact .int k n
  | bool b => exact .bool b
  | str s => exact .str s
  | nilptr => exact .nilptr
  | ptr b o hb => rw [← hl b]; exact .ptr b o (by rw [hn]; exact hb)
  | nilsl => exact .nilsl
  | nils b cap hb hc => exact .nils b cap (by rw [hn]; exact hb) hc
  | sl b o len cap c a hb h1 h2 h3 h4 h5 => exact .sl b o len cap c a (by rw [hn]; exact hb) h1 h2 h3 (by rw [hl]; exact h4) (by rw [hl]; exact h5)
  | nilmp => exact .nilmp
  | mp b hb => rw [← hl b]; exact .mp b (by rw [hn]; exact hb)
  | nilfn => exact .nilfn
  | fn f caps cs hl' _ ih => exact .fn f caps cs hl' ih
  | agg xs cs hl' _ ih => exact .agg xs cs hl' ih
  | tup xs cs hl' _ ih => exact .tup xs cs hl' ih
theorem RelL.env {E E' : Env} {xs : List AV} {vs : List Value} (h : RelL E xs vs) (hn : E'.n = E.n) (hl : ∀ b, E'.loc b = E.loc b) : RelL E' xs vs := ⟨h.1, fun i x v hx hv => (h.2 i x v hx hv).env hn hl⟩
theorem BlkOk.env {E E' : Env} {w : World} {L : Loc} {x : ABlk} (h : BlkOk E w L x) (hB : E'.B = E.B) (hn : E'.n = E.n) (hl : ∀ b, E'.loc b = E.loc b) : BlkOk E' w L x := by
  cases x with
  | dead => trivial
  | cells own es xs =>
    obtain ⟨h1, h2, h3, h4⟩ := h
    refine ⟨fun j x hj => ?_, fun ho => by rw [hB]; exact h2 ho, fun ho hl => by rw [hB]; exact h3 ho hl, h4⟩
    obtain ⟨a, v, hv, hr⟩ := h1 j x hj
    exact ⟨a, v, hv, hr.env hn hl⟩
  | map es =>
    obtain ⟨h1, h2, ents, clock, h3, h4, h5⟩ := h
    exact ⟨by rw [hB]; exact h1, h2, ents, clock, h3, h4.env hn hl, h5.env hn hl⟩
theorem Abs0.same (n : Nat) {F G : Fr} (h : look F = look G) {H : AHeap} (hn : n ≤ H.length) : Abs0 n id F H G H where
  small _ _ := rfl
  len := hn
  frame E E' h1 h2 h3 t v hv := by
    rw [← h]
    exact hv.env (h2.trans h1.symm) h3
  heap E E' h1 h2 h3 h4 w hw b x hx := by
    rw [h4 b]
    exact (hw b x hx).env h3 (h2.trans h1.symm) h4
  inj b c x y hx hy ox oy hbc := ⟨hbc, ⟨x, hx, ox⟩, y, hy, oy⟩
theorem Abs.same (n : Nat) {F G : Fr} (h : look F = look G) {H : AHeap} (hn : n ≤ H.length) : Abs n id F H G H := (Abs0.same n h hn).abs
/-- The functions of a table can be entered, and their regions are as the machine wants them. -/
inductive TbOk (P : Program) : List (Nat × Bool × Func) → Prop where
  | nil : TbOk P []
  | cons {f : Nat} {q : Bool} {fn : Func} {r : List (Nat × Bool × Func)} : okFn P f = true → P.funcs[f]? = some fn → (fn.body.map (codeOk fn.ntmps q)) = some true → TbOk P r → TbOk P ((f, q, fn) :: r)
end
set_option linter.unusedSimpArgs false
set_option linter.unusedVariables false
open Go.RowKit
def ext : Caller := fun f args _ =>
  match args with
  | [.int .u64 x] => bif Nat.beq f 223 && (decide (0 ≤ x) && decide (x ≤ 18446744073709551615)) then some (.int .i64 (Lib.bitLen x.toNat), none) else none
  | _ => none
theorem ext_ok : CallOk Tryz.prog ext := fun f args H x o h => by
  unfold ext at h
  split at h
  · rename_i x'
    cases hb : Nat.beq f 223 && (decide (0 ≤ x') && decide (x' ≤ 18446744073709551615))
    · rw [hb] at h; cases h
    · rw [hb, cond_true] at h
      simp only [Option.some.injEq, Prod.mk.injEq] at h
      obtain ⟨rfl, rfl⟩ := h
      simp only [Bool.and_eq_true, decide_eq_true_eq] at hb
      obtain ⟨h1, h2, h3⟩ := hb
      have e := Nat.eq_of_beq_eq_true h1
      subst e
      refine ⟨by kernel_rfl, Nat.le_refl _, fun E w vs hE hv => ?_⟩
      obtain ⟨v1, l1, rfl, k1, hr⟩ := rels_cons hv
      obtain rfl := rels_nil hr
      obtain rfl := rel_int k1
      refine (Tryz.bits_Len x' w h2 h3).mono fun e w' ⟨he, hw⟩ => ?_
      subst hw
      exact ⟨E, _, H, _, he, ⟨rfl, rfl⟩, .refl E, .int _ _, hE⟩
  · cases h
open Go.RowKit
section
variable (H : AHeap)
def within (x m : Int) : Bool := decide (0 - m ≤ x) && decide (x ≤ m)
theorem bsize_c (x m : Int) (h : 0 ≤ m ∧ m ≤ 4611686018427387904) : ACalls Tryz.prog 116 [.int .i64 x, .int .i64 m] H (fun v H' => v = .bool (within x m) ∧ H' = H) := by
  (refine ACalls_run try_mixed Tryz.func116 true _ rfl (Nat.le_of_ble_eq_true (by kernel_rfl)) (by kernel_rfl) ?_; intro hbel Q hQ hQ' c hc; unfold Tryz.f116 at hc; simp only [Option.some.injEq] at hc; subst hc; clear hQ')
  by_cases h1 : 0 - m ≤ x
  · simp -implicitDefEqProofs (disch := omega) only [h1, ge_iff_le, simprocAttr, amset, tyset, Function.comp_apply, one1, lenV, calleeOf, lateOk, belowV, aop, AV.ofValue, AV.ofCell, AV.cells, AV.flat, AV.one, arep, aBin, aAppend, aConv]
    repeat refine And.intro (by omega) ?_
    exact hQ _ _ (end_plain0 (.inl rfl) hbel (x := .bool (decide (x ≤ m))) (resT Tryz.results116) rfl ⟨by simp only [within, h1, decide_true, Bool.true_and], rfl⟩)
  · simp -implicitDefEqProofs (disch := omega) only [h1, ge_iff_le, simprocAttr, amset, tyset, Function.comp_apply, one1, lenV, calleeOf, lateOk, belowV, aop, AV.ofValue, AV.ofCell, AV.cells, AV.flat, AV.one, arep, aBin, aAppend, aConv]
    repeat refine And.intro (by omega) ?_
    exact hQ _ _ (end_plain0 (.inl rfl) hbel (x := .bool false) (resT Tryz.results116) rfl ⟨by simp only [within, h1, decide_false, Bool.false_and], rfl⟩)
def absI (n : Int) : Int := if n < 0 then -n else n
end
set_option linter.unusedSimpArgs false
set_option linter.unusedVariables false
open Go.RowKit
theorem IsP.parts {H : AHeap} {s : AV} {l : List Pt} (h : IsP H s l) : ∃ a c, s = .sl a l.length c := by
  rcases h with ⟨rfl, rfl⟩ | ⟨b, own, cap, rfl, hb⟩
  · exact ⟨_, _, rfl⟩
  · exact ⟨_, _, rfl⟩
theorem IsP.pos {H : AHeap} {s : AV} {l : List Pt} (h : IsP H s l) (h0 : 0 < l.length) : ∃ b own cap, s = .sl (some (b, 0)) l.length cap ∧ H[b]? = some (.cells own 2 (prs l)) := by
  rcases h with ⟨rfl, rfl⟩ | ⟨b, own, cap, rfl, hb⟩
  · simp at h0
  · exact ⟨b, own, cap, rfl, hb⟩
section
variable (H : AHeap)
end
set_option linter.unusedSimpArgs false
set_option linter.unusedVariables false
open Go.RowKit
section
variable (H : AHeap)
end
set_option linter.unusedSimpArgs false
set_option linter.unusedVariables false
open Go.RowKit
set_option maxHeartbeats 4000000
set_option maxRecDepth 100000
open Go.RowKit
open Go.RowKit
open Go.RowKit
open Go.RowKit
theorem within_iff {x m : Int} : within x m = true ↔ -m ≤ x ∧ x ≤ m := by unfold within; simp
open Go.RowKit
def dotP (n g : Pt) : Int := n.1 * g.1 + n.2 * g.2
def spr (n : Pt) : List Pt → Int
  | [] => 0
  | g :: l => absI (dotP n g) + spr n l
open Go.RowKit
open Go.RowKit
open Go.RowKit
open Go.RowKit
open Go.RowKit
theorem absI_neg (x : Int) : absI (-x) = absI x := by unfold absI; split <;> split <;> omega
theorem absI_le {x M : Int} : absI x ≤ M ↔ -M ≤ x ∧ x ≤ M := by unfold absI; split <;> omega
theorem dotP_negl (n g : Pt) : dotP (-n.1, -n.2) g = -dotP n g := by unfold dotP; simp only [Int.neg_mul]; omega
theorem spr_cons (n g : Pt) (l : List Pt) : spr n (g :: l) = absI (dotP n g) + spr n l := rfl
theorem spr_negl (n : Pt) : ∀ l : List Pt, spr (-n.1, -n.2) l = spr n l
  | [] => rfl
  | g :: l => by rw [spr_cons, spr_cons, spr_negl n l, dotP_negl, absI_neg]
/-- d is not beyond the sum of the segments in any direction. -/
def inZ (L : List Pt) (d : Pt) : Prop := ∀ n : Pt, dotP n d ≤ spr n L
theorem inZ.abs {L : List Pt} {d : Pt} (h : inZ L d) (n : Pt) : absI (dotP n d) ≤ spr n L := by
  rw [absI_le]
  have h1 := h n
  have h2 := h (-n.1, -n.2)
  rw [dotP_negl, spr_negl] at h2
  omega
open Go.RowKit
open Go.RowKit
open Go.RowKit
open Go.RowKit
open Go.RowKit
open Go.RowKit
open Go.RowKit
open Go.RowKit
/-- What is handed back, as one new block. -/
def mkL (e : Int) (L : List Pt) : List Pt := if e = 0 then L else []
open Go.RowKit
open Go.RowKit Go.Sort
open Go.RowKit
theorem prs_all {l : List Pt} : (prs l).take (l.length * 2) = prs l := by rw [prs_take, List.take_length]
open Go.RowKit
open Go.RowKit
open Go.RowKit
open Go.RowKit
/-- Whether a number is in a range; a command's, the bounds' validity. -/
def btw (n lo hi : Int) : Bool := decide (lo ≤ n) && decide (n ≤ hi)
theorem btw_iff {n lo hi : Int} : btw n lo hi = true ↔ lo ≤ n ∧ n ≤ hi := by unfold btw; simp
open Go.RowKit
theorem tdiv_bd {a b : Int} (hb : 0 < b) (hw : -4611686018427387904 ≤ a ∧ a ≤ 4611686018427387904) : -4611686018427387904 ≤ Int.tdiv a b ∧ Int.tdiv a b ≤ 4611686018427387904 := by
  have h := floor_eq (a := a) hb
  have h1 : a / b ≤ 4611686018427387904 := Int.ediv_le_of_le_mul hb (by have := Int.mul_le_mul_of_nonneg_left (show (1 : Int) ≤ b by omega) (by decide : (0 : Int) ≤ 4611686018427387904); omega)
  have h2 : -4611686018427387904 ≤ a / b := by
    rw [Int.le_ediv_iff_mul_le hb]
    have := Int.mul_le_mul_of_nonneg_left (show (1 : Int) ≤ b by omega) (by decide : (0 : Int) ≤ 4611686018427387904)
    rw [Int.neg_mul]; omega
  rw [Int.tdiv_eq_ediv]
  have hs : b.sign = 1 := Int.sign_eq_one_of_pos hb
  split
  · omega
  · rename_i hh
    rw [hs]
    rcases (by omega : a / b ≤ 4611686018427387903 ∨ a / b = 4611686018427387904) with k | k
    · omega
    · exfalso
      have h3 : 4611686018427387904 * b ≤ a := by rw [← Int.le_ediv_iff_mul_le hb]; omega
      have := Int.mul_le_mul_of_nonneg_left (show (1 : Int) ≤ b by omega) (by decide : (0 : Int) ≤ 4611686018427387904)
      omega
theorem i64_and255 (a : Int) : IntKind.i64.wrap ((BitVec.ofInt IntKind.i64.bits a &&& BitVec.ofInt IntKind.i64.bits 255).toNat : Int) = (((a % 256).toNat : Nat) : Int) := by
  have h := and255 a
  show IntKind.i64.wrap (((BitVec.ofInt 64 a &&& BitVec.ofInt 64 255).toNat : Nat) : Int) = _
  rw [h]
  exact wrap_in (by omega) (by omega)
theorem rem_n64 (a : Nat) : Int.tmod (a : Int) 64 = ((a % 64 : Nat) : Int) := rfl
theorem quo_n64 (a : Nat) : Int.tdiv (a : Int) 64 = ((a / 64 : Nat) : Int) := rfl
theorem mod_nn {a b : Int} (hb : 0 < b) : (if Int.tmod a b < 0 then Int.tmod a b + b else Int.tmod a b) = a % b := by
  rw [Int.tmod_eq_emod]
  have h1 := Int.emod_nonneg a (by omega : b ≠ 0)
  have h2 := Int.emod_lt_of_pos a hb
  have hn : (b.natAbs : Int) = b := by omega
  split
  · rw [if_neg (by omega)]; omega
  · rw [if_pos (by omega)]; omega
theorem pdown_c (H : AHeap) (a : Int) (b : Int) (hb : 0 < b) (hw : -4611686018427387904 ≤ a ∧ a ≤ 4611686018427387904) : ACalls Tryz.prog 198 [.int .i64 a, .int .i64 b] H (fun v H' => v = .int .i64 (a / b) ∧ H' = H) := by
  have htd := tdiv_bd (a := a) (b := b) hb hw
  refine AcT true Tryz.func198 ?_; intro hbel Q hQ
  refine runT ?_
  refine cond_split (fun h1 => ?_) (fun h1 => ?_)
  · have h1d := bsT h1
    have hfinq : Int.tdiv a b - 1 = a / b := by rw [← floor_eq hb, if_pos h1d]
    have g'35 := (jn @h1 @h1d)
    refine runTf g'35 ?_
    exact hQ _ _ (end_plain0 (.inl rfl) hbel (x := .int .i64 ((Int.tdiv a b) - 1)) (resT Tryz.results198) rfl ⟨congrArg (AV.int .i64) hfinq, rfl⟩)
  · have h1d := bsT h1
    have hfinq : Int.tdiv a b = a / b := by rw [← floor_eq hb, if_neg (by omega)]
    have g'36 := (jn @h1 @h1d)
    refine runTf g'36 ?_
    exact hQ _ _ (end_plain0 (.inl rfl) hbel (x := .int .i64 (Int.tdiv a b)) (resT Tryz.results198) rfl ⟨congrArg (AV.int .i64) hfinq, rfl⟩)
theorem bmod_c (H : AHeap) (a : Int) (b : Int) (hb : 0 < b) (hw : b ≤ 4611686018427387904) : ACalls Tryz.prog 30 [.int .i64 a, .int .i64 b] H (fun v H' => v = .int .i64 (((a % b).toNat : Nat) : Int) ∧ H' = H) := by
  have hmd := mod_nn (a := a) hb
  have hm1 := Int.emod_nonneg a (by omega : b ≠ 0)
  have hm2 := Int.emod_lt_of_pos a hb
  have hm3 : -b ≤ Int.tmod a b ∧ Int.tmod a b < b := by split at hmd <;> omega
  refine AcT true Tryz.func30 ?_; intro hbel Q hQ
  refine runT ?_
  refine cond_split (fun h1 => ?_) (fun h1 => ?_)
  · have h1d := bsT h1
    have hfinq : Int.tmod a b + b = (((a % b).toNat : Nat) : Int) := by rw [if_pos h1d] at hmd; omega
    have g'37 := (jn @h1 @h1d)
    refine runTf g'37 ?_
    exact hQ _ _ (end_plain0 (.inl rfl) hbel (x := .int .i64 ((Int.tmod a b) + b)) (resT Tryz.results30) rfl ⟨congrArg (AV.int .i64) hfinq, rfl⟩)
  · have h1d := bsT h1
    have hfinq : Int.tmod a b = (((a % b).toNat : Nat) : Int) := by rw [if_neg (by omega)] at hmd; omega
    have g'38 := (jn @h1 @h1d)
    refine runTf g'38 ?_
    exact hQ _ _ (end_plain0 (.inl rfl) hbel (x := .int .i64 (Int.tmod a b)) (resT Tryz.results30) rfl ⟨congrArg (AV.int .i64) hfinq, rfl⟩)
theorem mark_c (H : AHeap) (h : Int) : ACalls Tryz.prog 188 [.int .i64 h] H (fun v H' => v = .int .i64 (((h % 256).toNat : Nat) : Int) ∧ H' = H) := by
  refine AcT true Tryz.func188 ?_; intro hbel Q hQ
  have g'39 := @i64_and255
  refine runTf g'39 ?_
  exact hQ _ _ (end_plain0 (.inl rfl) hbel (x := .int .i64 (((h % 256).toNat : Nat) : Int)) (resT Tryz.results188) rfl ⟨rfl, rfl⟩)
open Go.RowKit
/-- The state of the search for the common divisor. -/
def gst (x y d : Int) : Nat → Nat
  | 0 => d.natAbs
  | 1 => Nat.gcd d.natAbs x.natAbs
  | _ + 2 => gcd3 x y d
def nst (x y : Int) : Nat → Nat
  | 0 => x.natAbs
  | _ + 1 => y.natAbs
theorem gcd_step (a b : Nat) : Nat.gcd b (a % b) = Nat.gcd a b := by rw [Nat.gcd_comm b, ← Nat.gcd_rec, Nat.gcd_comm]
theorem rot_ok {v : Vec} (h : vecOK v = true) : ∀ n, vecOK (rotN v n) = true
  | 0 => h
  | n + 1 => by
    have ih := vecOK_iff.1 (rot_ok h n)
    rw [vecOK_iff]
    unfold rotN
    simp only
    refine ⟨ih.1, by omega, by omega, ?_⟩
    rw [Int.neg_mul_neg]; omega
theorem dir0_ok {k : Nat} (h : k < 64) : vecOK (dir0 k) = true := by
  have := List.all_eq_true.1 dirs_ok k (by simp; omega)
  unfold dirN at this
  rwa [Nat.mod_eq_of_lt h, Nat.div_eq_of_lt h] at this
theorem rotN_D (v : Vec) : ∀ n, (rotN v n).2.2 = v.2.2
  | 0 => rfl
  | n + 1 => rotN_D v n
theorem abs4_c (H : AHeap) (n : Int) (h : -4611686018427387904 ≤ n ∧ n ≤ 4611686018427387904) : ACalls Tryz.prog 289 [.int .i64 n] H (fun v H' => v = .int .i64 ((n.natAbs : Nat) : Int) ∧ H' = H) := by
  refine AcT true Tryz.func289 ?_; intro hbel Q hQ
  refine runT ?_
  refine cond_split (fun h1 => ?_) (fun h1 => ?_)
  · have h1d := bsT h1
    have g'1 := (jn @h1 @h1d)
    refine runTf g'1 ?_
    exact hQ _ _ (end_plain0 (.inl rfl) hbel (x := .int .i64 (0 - n)) (resT Tryz.results289) rfl ⟨congrArg (AV.int .i64) (by omega), rfl⟩)
  · have h1d := bsT h1
    have g'2 := (jn @h1 @h1d)
    refine runTf g'2 ?_
    exact hQ _ _ (end_plain0 (.inl rfl) hbel (x := .int .i64 n) (resT Tryz.results289) rfl ⟨congrArg (AV.int .i64) (by omega), rfl⟩)
theorem gcd_n (H : AHeap) (a0 : Nat) (b0 : Nat) (c0 : Nat) : ACalls Tryz.prog 288 [.int .i64 ((a0 : Nat) : Int), .int .i64 ((b0 : Nat) : Int), .int .i64 ((c0 : Nat) : Int)] H (fun v H' => v = .int .i64 ((Nat.gcd (Nat.gcd a0 b0) c0 : Nat) : Int) ∧ H' = H) := by
  refine AcT true Tryz.func288 ?_; intro hbel Q hQ
  have g'3 := @rem_nat
  refine runTf g'3 ?_
  refine go_loop try_mixed (by kernel_rfl) (fun k F Hx => ∃ a : Nat, ∃ b : Nat, b = k ∧ Nat.gcd a b = Nat.gcd a0 b0 ∧ F = [(0, .int .i64 ((a : Nat) : Int)), (1, .int .i64 ((b : Nat) : Int)), (2, .int .i64 ((c0 : Nat) : Int))] ∧ H = Hx) (b0) ?_ ?_
  · refine ⟨_, _, _, ⟨a0, b0, by omega, rfl, rfl, rfl⟩, Abs.by0 hbel ?_⟩
    exact absW
  · rintro k0 F Hx ⟨a, b, hm0, hG, rfl, rfl⟩ J0 hJ0
    refine runTf g'3 ?_
    refine cond_split (fun h1 => ?_) (fun h1 => ?_)
    · have h1d := bsT h1
      have hlt : a % b < b := Nat.mod_lt _ (by omega)
      have g'4 := (jn @h1 (jn @h1d g'3))
      refine runTf g'4 ?_
      refine hJ0 _ _ ⟨a % b, by omega, _, _, _, ⟨b, a % b, by omega, by rw [← hG, gcd_step], rfl, rfl⟩, Abs.by0 hbel ?_⟩
      exact absW
    · have h1d := bsT h1
      obtain rfl : b = 0 := by omega
      rw [Nat.gcd_zero_right] at hG
      have g'5 := (jn @h1 (jn @h1d g'3))
      refine runTf g'5 ?_
      refine go_loop try_mixed (by kernel_rfl) (fun k F Hx => ∃ a2 : Nat, ∃ c : Nat, c = k ∧ Nat.gcd a2 c = Nat.gcd (Nat.gcd a0 b0) c0 ∧ F = [(0, .int .i64 ((a2 : Nat) : Int)), (2, .int .i64 ((c : Nat) : Int))] ∧ H = Hx) (c0) ?_ ?_
      · refine ⟨_, _, _, ⟨a, c0, by omega, by rw [hG], rfl, rfl⟩, Abs.by0 hbel ?_⟩
        exact absW
      · rintro k1 F Hx ⟨a2, c, hm1, hG, rfl, rfl⟩ J1 hJ1
        refine runTf g'5 ?_
        refine cond_split (fun h2 => ?_) (fun h2 => ?_)
        · have h2d := bsT h2
          have hlt : a2 % c < c := Nat.mod_lt _ (by omega)
          have g'6 := (jn @h2 (jn @h2d g'5))
          refine runTf g'6 ?_
          refine hJ1 _ _ ⟨a2 % c, by omega, _, _, _, ⟨c, a2 % c, by omega, by rw [← hG, gcd_step], rfl, rfl⟩, Abs.by0 hbel ?_⟩
          exact absW
        · have h2d := bsT h2
          obtain rfl : c = 0 := by omega
          rw [Nat.gcd_zero_right] at hG
          have hfing := hG
          have g'7 := (jn @h2 (jn @h2d g'5))
          refine runTf g'7 ?_
          exact hQ _ _ (end_plain0 (.inl rfl) hbel (x := .int .i64 ((a2 : Nat) : Int)) (resT Tryz.results288) rfl ⟨congrArg (AV.int .i64) (by rw [hfing]), rfl⟩)
theorem gcd_x (H : AHeap) (x y d : Int) (hd : 0 ≤ d) : ACalls Tryz.prog 288 [.int .i64 ((x.natAbs : Nat) : Int), .int .i64 ((y.natAbs : Nat) : Int), .int .i64 d] H (fun v H' => v = .int .i64 ((gcd3 x y d : Nat) : Int) ∧ H' = H) := by
  obtain ⟨n, rfl⟩ := Int.eq_ofNat_of_zero_le hd
  have h := gcd_n H x.natAbs y.natAbs n
  rw [← gcd3_comm, Int.natAbs_natCast]
  exact h
theorem rlow_c (H : AHeap) (x : Int) (y : Int) (d : Int) (hd : 0 < d) (kbx : -1152921504606846976 ≤ x ∧ x ≤ 1152921504606846976) (kby : -1152921504606846976 ≤ y ∧ y ≤ 1152921504606846976) (kbd : -1152921504606846976 ≤ d ∧ d ≤ 1152921504606846976) : ACalls Tryz.prog 234 [.int .i64 x, .int .i64 y, .int .i64 d] H (fun v H' => v = .agg [.int .i64 ((lowV x y d).1), .int .i64 ((lowV x y d).2.1), .int .i64 ((lowV x y d).2.2)] ∧ H' = H) := by
  refine AcT true Tryz.func234 ?_; intro hbel Q hQ
  refine runT ?_
  refine call_v (by kernel_rfl) (abs4_c _ x (by omega)) ?_
  refine runT ?_
  refine call_v (by kernel_rfl) (abs4_c _ y (by omega)) ?_
  refine runT ?_
  refine call_v (by kernel_rfl) (gcd_x _ x y d (by omega)) ?_
  have hg0 : 0 < gcd3 x y d := gcd3_pos (by omega)
  have t1 := tdiv_bd (a := x) (b := ((gcd3 x y d : Nat) : Int)) (by omega) (by omega)
  have t2 := tdiv_bd (a := y) (b := ((gcd3 x y d : Nat) : Int)) (by omega) (by omega)
  have t3 := tdiv_bd (a := d) (b := ((gcd3 x y d : Nat) : Int)) (by omega) (by omega)
  refine runT ?_
  exact hQ _ _ (end_plain (.inl rfl) hbel (x := .agg [.int .i64 (Int.tdiv x ((gcd3 x y d : Nat) : Int)), .int .i64 (Int.tdiv y ((gcd3 x y d : Nat) : Int)), .int .i64 (Int.tdiv d ((gcd3 x y d : Nat) : Int))]) (resT Tryz.results234) rfl ⟨rfl, rfl⟩)
theorem low_c (H : AHeap) (x : Int) (y : Int) (d : Int) (hd : 0 < d) (kbx : -1152921504606846976 ≤ x ∧ x ≤ 1152921504606846976) (kby : -1152921504606846976 ≤ y ∧ y ≤ 1152921504606846976) (kbd : -1152921504606846976 ≤ d ∧ d ≤ 1152921504606846976) : ACalls Tryz.prog 259 [.int .i64 x, .int .i64 y, .int .i64 d] H (fun v H' => v = .agg [.int .i64 ((lowV x y d).1), .int .i64 ((lowV x y d).2.1), .int .i64 ((lowV x y d).2.2)] ∧ H' = H) := by
  have hmx : (if x < 0 - x then 0 - x else x) = ((x.natAbs : Nat) : Int) := by split <;> omega
  have hmy : (if y < 0 - y then 0 - y else y) = ((y.natAbs : Nat) : Int) := by split <;> omega
  have hg00 : ((gst x y d 0 : Nat) : Int) = d := by simp only [gst]; omega
  have hg2 : gst x y d 2 = gcd3 x y d := rfl
  have hg0 : 0 < gcd3 x y d := gcd3_pos (by omega)
  have t1 := tdiv_bd (a := x) (b := ((gcd3 x y d : Nat) : Int)) (by omega) (by omega)
  have t2 := tdiv_bd (a := y) (b := ((gcd3 x y d : Nat) : Int)) (by omega) (by omega)
  have t3 := tdiv_bd (a := d) (b := ((gcd3 x y d : Nat) : Int)) (by omega) (by omega)
  refine AcT true Tryz.func259 ?_; intro hbel Q hQ
  have g'8 := (jn @hmx (jn @hmy (jn @hg2 @rem_nat)))
  refine runTf g'8 ?_
  refine go_loop try_mixed (by kernel_rfl) (fun k F Hx => ∃ j : Nat, j + k = 2 ∧ F = [(0, .int .i64 x), (1, .int .i64 y), (2, .int .i64 d), (6, .ptr (some (H.length, 0))), (7, .int .i64 ((gst x y d j : Nat) : Int)), (13, .agg [.int .i64 x, .int .i64 y]), (14, .int .i64 ((j : Nat) : Int))] ∧ Hx = H ++ [.cells true 0 [.int .i64 0, .int .i64 0, .int .i64 0]]) (2) ?_ ?_
  · refine ⟨_, _, _, ⟨0, by omega, rfl, rfl⟩, Abs.byG hbel [] rfl [0] (by decide) ?_⟩
    exact absWf (jn @hg00 @Int.natCast_zero)
  · rintro k0 F Hx ⟨j, hm0, rfl, rfl⟩ J0 hJ0
    refine runTf g'8 ?_
    refine cond_split (fun h1 => ?_) (fun h1 => ?_)
    · have h1d := bsT h1
      obtain rfl | rfl := (by omega : j = 0 ∨ j = 1)
      · skip
        have g'9 := (jn @h1 (jn @h1d g'8))
        refine runTf g'9 ?_
        refine go_loop try_mixed (by kernel_rfl) (fun k F Hx => ∃ a : Nat, ∃ b : Nat, b = k ∧ Nat.gcd a b = gst x y d (0 + 1) ∧ F = [(0, .int .i64 x), (1, .int .i64 y), (2, .int .i64 d), (6, .ptr (some (H.length, 0))), (7, .int .i64 ((a : Nat) : Int)), (9, .int .i64 ((b : Nat) : Int)), (13, .agg [.int .i64 x, .int .i64 y]), (14, .int .i64 0)] ∧ Hx = H ++ [.cells true 0 [.int .i64 0, .int .i64 0, .int .i64 0]]) (nst x y 0) ?_ ?_
        · refine ⟨_, _, _, ⟨gst x y d 0, nst x y 0, by omega, rfl, rfl, rfl⟩, Abs.byG hbel [] rfl [0] (by decide) ?_⟩
          exact absWf (jn @nst.eq_1 @nst.eq_2)
        · rintro k1 F Hx ⟨a, b, hm1, hG, rfl, rfl⟩ J1 hJ1
          refine runTf g'9 ?_
          refine cond_split (fun h2 => ?_) (fun h2 => ?_)
          · have h2d := bsT h2
            have hlt : a % b < b := Nat.mod_lt _ (by omega)
            have g'10 := (jn @h2 (jn @h2d (jn @int_bne (jn @int_beq g'9))))
            refine runTf g'10 ?_
            refine hJ1 _ _ ⟨a % b, by omega, _, _, _, ⟨b, a % b, by omega, by rw [← hG, gcd_step], rfl, rfl⟩, Abs.byG hbel [] rfl [0] (by decide) ?_⟩
            exact absWf @h2d
          · have h2d := bsT h2
            obtain rfl : b = 0 := by omega
            rw [Nat.gcd_zero_right] at hG
            have g'11 := (jn @h2 (jn @h2d (jn @int_bne (jn @int_beq g'9))))
            refine runTf g'11 ?_
            refine hJ0 _ _ ⟨k0 - 1, by omega, _, _, _, ⟨0 + 1, by omega, rfl, rfl⟩, Abs.byG hbel [] rfl [0] (by decide) ?_⟩
            exact absWf (jn @hG @h2d)
      · skip
        have g'12 := (jn @h1 (jn @h1d g'8))
        refine runTf g'12 ?_
        refine go_loop try_mixed (by kernel_rfl) (fun k F Hx => ∃ a : Nat, ∃ b : Nat, b = k ∧ Nat.gcd a b = gst x y d (1 + 1) ∧ F = [(0, .int .i64 x), (1, .int .i64 y), (2, .int .i64 d), (6, .ptr (some (H.length, 0))), (7, .int .i64 ((a : Nat) : Int)), (9, .int .i64 ((b : Nat) : Int)), (13, .agg [.int .i64 x, .int .i64 y]), (14, .int .i64 1)] ∧ Hx = H ++ [.cells true 0 [.int .i64 0, .int .i64 0, .int .i64 0]]) (nst x y 1) ?_ ?_
        · refine ⟨_, _, _, ⟨gst x y d 1, nst x y 1, by omega, rfl, rfl, rfl⟩, Abs.byG hbel [] rfl [0] (by decide) ?_⟩
          exact absWf (jn @nst.eq_1 @nst.eq_2)
        · rintro k1 F Hx ⟨a, b, hm1, hG, rfl, rfl⟩ J1 hJ1
          refine runTf g'12 ?_
          refine cond_split (fun h3 => ?_) (fun h3 => ?_)
          · have h3d := bsT h3
            have hlt : a % b < b := Nat.mod_lt _ (by omega)
            have g'13 := (jn @h3 (jn @h3d (jn @int_bne (jn @int_beq g'12))))
            refine runTf g'13 ?_
            refine hJ1 _ _ ⟨a % b, by omega, _, _, _, ⟨b, a % b, by omega, by rw [← hG, gcd_step], rfl, rfl⟩, Abs.byG hbel [] rfl [0] (by decide) ?_⟩
            exact absWf @h3d
          · have h3d := bsT h3
            obtain rfl : b = 0 := by omega
            rw [Nat.gcd_zero_right] at hG
            have g'14 := (jn @h3 (jn @h3d (jn @int_bne (jn @int_beq g'12))))
            refine runTf g'14 ?_
            refine hJ0 _ _ ⟨k0 - 1, by omega, _, _, _, ⟨1 + 1, by omega, rfl, rfl⟩, Abs.byG hbel [] rfl [0] (by decide) ?_⟩
            exact absWf (jn @hG @h3d)
    · have h1d := bsT h1
      obtain rfl : j = 2 := by omega
      skip
      have g'15 := (jn @h1 (jn @h1d g'8))
      refine runTf g'15 ?_
      exact hQ _ _ (end_plain (.inl rfl) hbel (x := .agg [.int .i64 (Int.tdiv x ((gcd3 x y d : Nat) : Int)), .int .i64 (Int.tdiv y ((gcd3 x y d : Nat) : Int)), .int .i64 (Int.tdiv d ((gcd3 x y d : Nat) : Int))]) (resT Tryz.results259) rfl ⟨rfl, rfl⟩)
theorem dir_c (H : AHeap) (h : Int) : ACalls Tryz.prog 206 [.int .i64 h] H (fun v H' => v = .agg [.int .i64 ((dirV h).1), .int .i64 ((dirV h).2.1), .int .i64 ((dirV h).2.2)] ∧ H' = H) := by
  have hK : ((h % 256).toNat % 64) < 64 := Nat.mod_lt _ (by decide)
  have hN : ((h % 256).toNat / 64) ≤ 3 := by omega
  have hkk := mul_bd (a := ((((h % 256).toNat % 64) : Nat) : Int)) (b := ((((h % 256).toNat % 64) : Nat) : Int)) (A := 63) (B := 63) (by omega) (by omega)
  refine AcT true Tryz.func206 ?_; intro hbel Q hQ
  have g'16 := (jn @rem_n64 @quo_n64)
  refine runTf g'16 ?_
  refine call_v (by kernel_rfl) (mark_c _ h) ?_
  refine runTf g'16 ?_
  refine call_v (by kernel_rfl) (low_c _ (4096 - (((((h % 256).toNat) % 64 : Nat) : Int) * ((((h % 256).toNat) % 64 : Nat) : Int))) (128 * ((((h % 256).toNat) % 64 : Nat) : Int)) (4096 + (((((h % 256).toNat) % 64 : Nat) : Int) * ((((h % 256).toNat) % 64 : Nat) : Int))) (by omega) (by omega) (by omega) (by omega)) ?_
  refine runTf g'16 ?_
  refine go_loop try_mixed (by kernel_rfl) (fun k F Hx => ∃ n : Nat, n + k = ((h % 256).toNat / 64) ∧ F = [(2, .ptr (some (H.length, 0))), (4, .ptr (some (H.length + 1, 0))), (21, .int .i64 ((((h % 256).toNat) / 64 : Nat) : Int)), (22, .int .i64 ((n : Nat) : Int))] ∧ Hx = H ++ [.cells true 0 [.int .i64 0, .int .i64 0, .int .i64 0], .cells true 0 [.int .i64 ((rotN (dir0 ((h % 256).toNat % 64)) n).1), .int .i64 ((rotN (dir0 ((h % 256).toNat % 64)) n).2.1), .int .i64 ((lowV (4096 - (((((h % 256).toNat) % 64 : Nat) : Int) * ((((h % 256).toNat) % 64 : Nat) : Int))) (128 * ((((h % 256).toNat) % 64 : Nat) : Int)) (4096 + (((((h % 256).toNat) % 64 : Nat) : Int) * ((((h % 256).toNat) % 64 : Nat) : Int)))).2.2)]]) (((h % 256).toNat / 64)) ?_ ?_
  · refine ⟨_, _, _, ⟨0, by omega, rfl, rfl⟩, Abs.byG hbel [] rfl [0, 1] (by decide) ?_⟩
    exact absWf (jn @rotN.eq_1 @dir0.eq_1)
  · rintro k0 F Hx ⟨n, hm0, rfl, rfl⟩ J0 hJ0
    refine runTf g'16 ?_
    refine cond_split (fun h1 => ?_) (fun h1 => ?_)
    · have h1d := bsT h1
      have hro := vecOK_iff.1 (rot_ok (dir0_ok hK) n)
      have g'17 := (jn @h1 (jn @h1d g'16))
      refine runTf g'17 ?_
      refine hJ0 _ _ ⟨k0 - 1, by omega, _, _, _, ⟨n + 1, by omega, rfl, rfl⟩, Abs.byG hbel [] rfl [0, 1] (by decide) ?_⟩
      exact absWf (jn @rotN.eq_2 @Int.zero_sub)
    · have h1d := bsT h1
      have hfinn : n = ((h % 256).toNat / 64) := by omega
      have g'18 := (jn @h1 (jn @h1d g'16))
      refine runTf g'18 ?_
      exact hQ _ _ (end_plain (.inl rfl) hbel (x := .agg [.int .i64 ((rotN (dir0 ((h % 256).toNat % 64)) n).1), .int .i64 ((rotN (dir0 ((h % 256).toNat % 64)) n).2.1), .int .i64 ((lowV (4096 - (((((h % 256).toNat) % 64 : Nat) : Int) * ((((h % 256).toNat) % 64 : Nat) : Int))) (128 * ((((h % 256).toNat) % 64 : Nat) : Int)) (4096 + (((((h % 256).toNat) % 64 : Nat) : Int) * ((((h % 256).toNat) % 64 : Nat) : Int)))).2.2)]) (resT Tryz.results206) rfl ⟨by subst hfinn; rw [show dirV h = rotN (dir0 ((h % 256).toNat % 64)) ((h % 256).toNat / 64) from rfl, rotN_D]; rfl, rfl⟩)
theorem rdir_c (H : AHeap) (h : Int) : ACalls Tryz.prog 162 [.int .i64 h] H (fun v H' => v = .agg [.int .i64 ((dirV h).1), .int .i64 ((dirV h).2.1), .int .i64 ((dirV h).2.2)] ∧ H' = H) := by
  have hK : ((h % 256).toNat % 64) < 64 := Nat.mod_lt _ (by decide)
  have hN : ((h % 256).toNat / 64) ≤ 3 := by omega
  have hkk := mul_bd (a := ((((h % 256).toNat % 64) : Nat) : Int)) (b := ((((h % 256).toNat % 64) : Nat) : Int)) (A := 63) (B := 63) (by omega) (by omega)
  refine AcT true Tryz.func162 ?_; intro hbel Q hQ
  have g'19 := (jn @rem_n64 @quo_n64)
  refine runTf g'19 ?_
  refine call_v (by kernel_rfl) (bmod_c _ h 256 (by omega) (by omega)) ?_
  refine runTf g'19 ?_
  refine call_v (by kernel_rfl) (rlow_c _ (4096 - (((((h % 256).toNat) % 64 : Nat) : Int) * ((((h % 256).toNat) % 64 : Nat) : Int))) (128 * ((((h % 256).toNat) % 64 : Nat) : Int)) (4096 + (((((h % 256).toNat) % 64 : Nat) : Int) * ((((h % 256).toNat) % 64 : Nat) : Int))) (by omega) (by omega) (by omega) (by omega)) ?_
  refine runTf g'19 ?_
  refine go_loop try_mixed (by kernel_rfl) (fun k F Hx => ∃ n : Nat, n + k = ((h % 256).toNat / 64) ∧ F = [(0, .int .i64 (((h % 256).toNat : Nat) : Int)), (2, .ptr (some (H.length, 0))), (4, .ptr (some (H.length + 1, 0))), (5, .int .i64 ((n : Nat) : Int))] ∧ Hx = H ++ [.cells true 0 [.int .i64 0, .int .i64 0, .int .i64 0], .cells true 0 [.int .i64 ((rotN (dir0 ((h % 256).toNat % 64)) n).1), .int .i64 ((rotN (dir0 ((h % 256).toNat % 64)) n).2.1), .int .i64 ((lowV (4096 - (((((h % 256).toNat) % 64 : Nat) : Int) * ((((h % 256).toNat) % 64 : Nat) : Int))) (128 * ((((h % 256).toNat) % 64 : Nat) : Int)) (4096 + (((((h % 256).toNat) % 64 : Nat) : Int) * ((((h % 256).toNat) % 64 : Nat) : Int)))).2.2)]]) (((h % 256).toNat / 64)) ?_ ?_
  · refine ⟨_, _, _, ⟨0, by omega, rfl, rfl⟩, Abs.byG hbel [] rfl [0, 1] (by decide) ?_⟩
    exact absWf (jn @rotN.eq_1 @dir0.eq_1)
  · rintro k0 F Hx ⟨n, hm0, rfl, rfl⟩ J0 hJ0
    refine runTf g'19 ?_
    refine cond_split (fun h1 => ?_) (fun h1 => ?_)
    · have h1d := bsT h1
      have hro := vecOK_iff.1 (rot_ok (dir0_ok hK) n)
      have g'20 := (jn @h1 (jn @h1d g'19))
      refine runTf g'20 ?_
      refine hJ0 _ _ ⟨k0 - 1, by omega, _, _, _, ⟨n + 1, by omega, rfl, rfl⟩, Abs.byG hbel [] rfl [0, 1] (by decide) ?_⟩
      exact absWf (jn @rotN.eq_2 @Int.zero_sub)
    · have h1d := bsT h1
      have hfinn : n = ((h % 256).toNat / 64) := by omega
      have g'21 := (jn @h1 (jn @h1d g'19))
      refine runTf g'21 ?_
      exact hQ _ _ (end_plain (.inl rfl) hbel (x := .agg [.int .i64 ((rotN (dir0 ((h % 256).toNat % 64)) n).1), .int .i64 ((rotN (dir0 ((h % 256).toNat % 64)) n).2.1), .int .i64 ((lowV (4096 - (((((h % 256).toNat) % 64 : Nat) : Int) * ((((h % 256).toNat) % 64 : Nat) : Int))) (128 * ((((h % 256).toNat) % 64 : Nat) : Int)) (4096 + (((((h % 256).toNat) % 64 : Nat) : Int) * ((((h % 256).toNat) % 64 : Nat) : Int)))).2.2)]) (resT Tryz.results162) rfl ⟨by subst hfinn; rw [show dirV h = rotN (dir0 ((h % 256).toNat % 64)) ((h % 256).toNat / 64) from rfl, rotN_D]; rfl, rfl⟩)
open Go.RowKit
def ptB (x y : Int) : Bool := within x 1048576 && within y 1048576
open Go.RowKit
def rctB (x0 y0 x1 y1 : Int) : Bool := decide (x0 ≤ x1) && (decide (y0 ≤ y1) && (ptB x0 y0 && ptB x1 y1))
theorem rctB_iff {x0 y0 x1 y1 : Int} : rctB x0 y0 x1 y1 = true ↔ (-1048576 ≤ x0 ∧ x0 ≤ x1 ∧ x1 ≤ 1048576) ∧ (-1048576 ≤ y0 ∧ y0 ≤ y1 ∧ y1 ≤ 1048576) := by
  unfold rctB ptB; simp only [Bool.and_eq_true, decide_eq_true_eq, within_iff]; omega
/-- The first and the last index of the cells that meet a range, and how many there are. -/
def spl (a : Int) : Int := 0 - (0 - a) / 64 - 1
def sph (b : Int) : Int := b / 64
def celN (a b : Int) : Nat := (sph b - spl a + 1).toNat
theorem gridR_s {p : Int → Int → Bool} {x0 y0 : Int} {w n : Nat} : gridR p x0 w y0 (n + 1) = gridR p x0 w y0 n ++ rowR p x0 (y0 + n) w := rfl
theorem gridR_0 {p : Int → Int → Bool} {x0 y0 : Int} {w : Nat} : gridR p x0 w y0 0 = [] := rfl
theorem rowR_0 {p : Int → Int → Bool} {x0 y : Int} : rowR p x0 y 0 = [] := rfl
open Go.RowKit
/-- The index of the first element with a property, or -1. -/
def idxI {α : Type} (p : α → Bool) (l : List α) : Int := if l.any p = true then ((l.findIdx p : Nat) : Int) else -1
theorem idxI_at {α : Type} {p : α → Bool} {l : List α} {i : Nat} (hi : i < l.length) (h0 : (l.take i).any p = false) (h1 : p l[i] = true) : idxI p l = (i : Int) := by
  have ha : l.any p = true := List.any_eq_true.2 ⟨l[i], List.getElem_mem hi, h1⟩
  have hf : l.findIdx p = i := (List.findIdx_eq hi).2 ⟨h1, fun j hj => by
    have := List.any_eq_false.1 h0 l[j] (by rw [List.mem_take_iff_getElem]; exact ⟨j, by omega, rfl⟩)
    simpa using this⟩
  unfold idxI; rw [if_pos ha, hf]
theorem idxI_none {α : Type} {p : α → Bool} {l : List α} (h : l.any p = false) : idxI p l = -1 := by
  unfold idxI; rw [if_neg (by simp [h])]
theorem idxI_any {α : Type} {p : α → Bool} {l : List α} : decide (0 ≤ idxI p l) = l.any p := by
  cases h : l.any p
  · rw [idxI_none h]; rfl
  · unfold idxI; rw [if_pos h]; exact decide_eq_true (by omega)
theorem idxI_cases {α : Type} (p : α → Bool) (l : List α) : (idxI p l = -1 ∧ l.any p = false) ∨ ∃ i : Nat, ∃ hi : i < l.length, idxI p l = (i : Int) ∧ (l.take i).any p = false ∧ p l[i] = true := by
  cases h : l.any p
  · exact .inl ⟨idxI_none h, rfl⟩
  · right
    have hl : l.findIdx p < l.length := List.findIdx_lt_length_of_exists (by simpa using h)
    have h1 : p l[l.findIdx p] = true := List.findIdx_getElem
    have h0 : (l.take (l.findIdx p)).any p = false := List.any_eq_false.2 fun x hx => by
      obtain ⟨j, hj, rfl⟩ := List.mem_take_iff_getElem.1 hx
      have := List.not_of_lt_findIdx (p := p) (xs := l) (i := j) (by omega)
      simpa using this
    exact ⟨_, hl, idxI_at hl h0 h1, h0, h1⟩
theorem pr_eq {l : List (Int × Int)} {j : Nat} (h : j < l.length) : (g1 l j, g2 l j) = l[j] := by
  simp [g1, g2, h, List.getD_eq_getElem?_getD]
theorem gi_eq {l : List Int} {j : Nat} (h : j < l.length) : (gi l j) = l[j] := by
  simp [gi, h, List.getD_eq_getElem?_getD]
theorem any_step {α : Type} {l : List α} {p : α → Bool} {i : Nat} (h : i < l.length) : (l.take (i + 1)).any p = ((l.take i).any p || p l[i]) := by
  rw [List.take_succ_eq_append_getElem h, List.any_append]; simp
theorem mvs_caps {n m : Nat} {sel : List Nat} {caps : List AV} (h : AV.bels n caps = true) : AV.mvs (sig n m sel) caps = caps := mvs_id (fun b hb => sig_lt hb) caps h
open Go.RowKit
set_option maxRecDepth 100000 in
theorem idx_cell (H : AHeap) (s : AV) (l : List (Int × Int)) (hs : Sl H 2 s l.length (prs l)) (hl : l.length ≤ 1000000000) (g : FuncId) (caps : List AV) (hok : okFn Tryz.prog g = true) (hc : AV.bels H.length caps = true) (p : (Int × Int) → Bool) (hf : ∀ j, j < l.length → ACalls Tryz.prog g (.agg [.int .i64 (g1 l j), .int .i64 (g2 l j)] :: caps) H (fun v H' => v = .bool (p (g1 l j, g2 l j)) ∧ H' = H)) :
    ACalls Tryz.prog 165 [s, .fn g caps] H (fun v H' => v = .int .i64 (idxI p l) ∧ H' = H) := by
  obtain ⟨b, own, cap, rfl, hb⟩ := hs
  have hbl := getElem?_lt hb
  have hmv := fun m sel => mvs_caps (n := H.length) (m := m) (sel := sel) hc
  (refine ACalls_run try_mixed Tryz.func165 true _ rfl (Nat.le_of_ble_eq_true (by kernel_rfl)) (by kernel_rfl) ?_; intro hbel Q hQ hQ' c hc; unfold Tryz.f165 at hc; simp only [Option.some.injEq] at hc; subst hc; clear hQ')
  simp -implicitDefEqProofs (disch := omega) only [simprocAttr, amset, tyset, Function.comp_apply, one1, lenV, calleeOf, lateOk, belowV, aop, AV.ofValue, AV.ofCell, AV.cells, AV.flat, AV.one, arep, aBin, aAppend, aConv]
  refine go_loop try_mixed (by kernel_rfl) (fun k F Hx => ∃ i : Nat, i + k = l.length ∧ (l.take i).any p = false ∧ F = [(0, .sl (some (b, 0)) l.length none), (1, .fn g caps), (7, .int .i64 l.length), (8, .int .i64 (i : Nat))] ∧ Hx = H) l.length ?_ ?_
  · refine ⟨_, _, _, ⟨0, by omega, rfl, rfl, rfl⟩, Abs.by0 hbel ?_⟩
    exact absWf @hmv
  · rintro k F Hx ⟨i, hik, ht, rfl, rfl⟩ J hJ
    by_cases hi : i < l.length
    · have hii : (i : Int) < (l.length : Int) := by omega
      have q1 := prs_load hi
      have hg := pr_eq hi
      simp -implicitDefEqProofs (disch := omega) only [hii, hb, q1, prs_len, prs_one, simprocAttr, amset, tyset, Function.comp_apply, one1, lenV, calleeOf, lateOk, belowV, aop, AV.ofValue, AV.ofCell, AV.cells, AV.flat, AV.one, arep, aBin, aAppend, aConv]
      iterate 2 refine And.intro (by omega) ?_
      refine call_v hok (hf i hi) ?_
      have hst := any_step (p := p) hi
      rw [ht, Bool.false_or, ← hg] at hst
      cases h1 : p (g1 l i, g2 l i)
      · rw [h1] at hst
        simp -implicitDefEqProofs (disch := omega) only [h1, simprocAttr, amset, tyset, Function.comp_apply, one1, lenV, calleeOf, lateOk, belowV, aop, AV.ofValue, AV.ofCell, AV.cells, AV.flat, AV.one, arep, aBin, aAppend, aConv]
        refine hJ _ _ ⟨k - 1, by omega, _, _, _, ⟨i + 1, by omega, hst, rfl, rfl⟩, Abs.by0 hbel ?_⟩
        exact absWf @hmv
      · simp -implicitDefEqProofs (disch := omega) only [h1, simprocAttr, amset, tyset, Function.comp_apply, one1, lenV, calleeOf, lateOk, belowV, aop, AV.ofValue, AV.ofCell, AV.cells, AV.flat, AV.one, arep, aBin, aAppend, aConv]
        exact hQ _ _ (end_plain0 (.inl rfl) hbel (x := .int .i64 (i : Nat)) (resT Tryz.results165) rfl ⟨by rw [idxI_at hi ht (by rw [← hg]; exact h1)], rfl⟩)
    · have hnn : ¬ ((i : Int) < (l.length : Int)) := by omega
      simp -implicitDefEqProofs (disch := omega) only [hnn, simprocAttr, amset, tyset, Function.comp_apply, one1, lenV, calleeOf, lateOk, belowV, aop, AV.ofValue, AV.ofCell, AV.cells, AV.flat, AV.one, arep, aBin, aAppend, aConv]
      rw [List.take_of_length_le (by omega)] at ht
      exact hQ _ _ (end_plain0 (.inl rfl) hbel (x := .int .i64 (-1)) (resT Tryz.results165) rfl ⟨by rw [idxI_none ht], rfl⟩)
open Go.RowKit
theorem prs_set2 {l : List (Int × Int)} {j : Nat} {a b : Int} (h : j < l.length) : ((prs l).set (j * 2) (.int .i64 a)).set (j * 2 + 1) (.int .i64 b) = prs (l.set j (a, b)) := by
  induction l generalizing j with
  | nil => simp at h
  | cons p l ih =>
    cases j with
    | zero => simp [prs_cons]
    | succ j =>
      have e1 : (j + 1) * 2 = (j * 2).succ.succ := by omega
      have e2 : (j + 1) * 2 + 1 = (j * 2 + 1).succ.succ := by omega
      rw [prs_cons, e2, e1]
      show _ :: _ :: ((prs l).set (j * 2) (.int .i64 a)).set (j * 2 + 1) (.int .i64 b) = _
      rw [ih (by simpa using h)]
      rfl
theorem prs_rep {m : Nat} : prs (List.replicate m (0, 0)) = (List.range (m * 2)).map fun j => ([.int .i64 0, .int .i64 0] : List AV).getD (j % 2) .any := by
  induction m with
  | zero => rfl
  | succ m ih =>
    have e : List.replicate (m + 1) ((0 : Int), (0 : Int)) = List.replicate m (0, 0) ++ [(0, 0)] := by rw [List.replicate_succ']
    rw [e, prs_append, ih, Nat.succ_mul, List.range_succ, List.range_succ, List.map_append, List.map_append]
    have e1 : m * 2 % 2 = 0 := by omega
    have e2 : (m * 2 + 1) % 2 = 1 := by omega
    simp [prs_cons, prs_nil, e1, e2]
theorem splice_tail : ∀ (ys xs : List AV) (o : Nat), o + ys.length = xs.length → splice xs o ys = xs.take o ++ ys
  | [], xs, o, h => by
    rw [splice, List.append_nil, List.take_of_length_le]
    simp at h; omega
  | y :: ys, xs, o, h => by
    rw [splice, splice_tail ys _ _ (by simp at h ⊢; omega)]
    simp only [List.length_cons] at h
    have ho : o < xs.length := by omega
    rw [List.take_succ_eq_append_getElem (by simpa using ho), List.getElem_set_self, List.take_set_of_le (Nat.le_refl _)]
    simp
theorem splice_prs {l ys : List (Int × Int)} {i : Nat} (h : i + ys.length = l.length) : splice (prs l) (i * 2) (prs ys) = prs (l.take i ++ ys) := by
  rw [splice_tail _ _ _ (by rw [prs_len, prs_len]; omega), prs_take, prs_append]
theorem ints_set1 {k : IntKind} {l : List Int} {j : Nat} {a : Int} : (ints k l).set j (.int k a) = ints k (l.set j a) := ints_set
open Go.RowKit
theorem bels_prs {n : Nat} : ∀ {l : List (Int × Int)}, AV.bels n (prs l) = true
  | [] => rfl
  | p :: l => by rw [prs_cons]; simp only [AV.bels, AV.bel, Bool.true_and]; exact bels_prs
theorem HBel.put {n : Nat} {H : AHeap} (h : HBel n H) (b : Nat) {x : ABlk} (hx : x.bel n = true) : HBel n (H.set b x) := fun c y hy => by
  rw [List.getElem?_set] at hy
  split at hy
  · split at hy
    · simp at hy; subst hy; exact hx
    · cases hy
  · exact h c y hy
theorem Abs.byS0 {H0 : AHeap} {F1 F2 : Fr} {n : Nat} (hn : H0.length = n) (hsc : HBel n H0) (h : absF n (sig n 0 []) F1 F2) : Abs n (sig n 0 []) F1 H0 F2 H0 := by
  subst hn; exact Abs.by0 hsc h
theorem Abs.byS1 {H0 l1 : AHeap} {F1 F2 : Fr} {n : Nat} (hn : H0.length = n) (hsc : HBel n H0) (h : absF (n + l1.length) (sig n l1.length []) F1 F2) : Abs n (sig n l1.length []) F1 (H0 ++ l1) F2 H0 := by
  subst hn; exact Abs.byN hsc h
theorem Abs.by0e {H0 H2 : AHeap} {F1 F2 : Fr} (e : H2 = H0) (hsc : HBel H0.length H0) (h : absF H0.length (sig H0.length 0 []) F1 F2) : Abs H0.length (sig H0.length 0 []) F1 H0 F2 H2 := by
  subst e; exact Abs.by0 hsc h
theorem end_byS {P : Program} {fn : Func} {H0 : AHeap} {R : AV → AHeap → Prop} {F : Fr} {e : Exit} {n : Nat} (hn : H0.length = n) (he : e = .ret ∨ e = .normal) (hbel : HBel n H0) {x1 : AV} (x2 : AV) (hx : aResult P fn F H0 = some x1) (hR : R x2 H0) (h : W n x1 (x2.mv (sig n 0 []))) : AEnd P fn n R e F H0 := by
  subst hn
  exact end_byE (l2 := []) he hbel x2 hx [] rfl [] (by simp) (by rw [List.append_nil]; exact hR) ⟨h, trivial⟩
/-- What is left without the elements that have a property. -/
def delL {α : Type} (p : α → Bool) (l : List α) : List α := l.filter fun e => !p e
theorem delL_none {α : Type} {p : α → Bool} {l : List α} (h : l.any p = false) : delL p l = l := by
  unfold delL
  rw [List.filter_eq_self]
  intro a ha
  have := List.any_eq_false.1 h a ha
  simpa using this
theorem delL_step {α : Type} {p : α → Bool} {l : List α} {j : Nat} (h : j < l.length) : delL p (l.take (j + 1)) = delL p (l.take j) ++ (if p l[j] = true then [] else [l[j]]) := by
  unfold delL
  rw [List.take_succ_eq_append_getElem h, List.filter_append]
  congr 1
  cases hp : p l[j] <;> simp [hp]
theorem delL_le {α : Type} {p : α → Bool} {l : List α} : (delL p l).length ≤ l.length := List.length_filter_le _ _
def padL (n : Nat) (l : List (Int × Int)) : List (Int × Int) := l ++ List.replicate (n - l.length) (0, 0)
theorem prs_padL {n : Nat} {l : List (Int × Int)} : prs (padL n l) = prs l ++ prs (List.replicate (n - l.length) (0, 0)) := prs_append
set_option maxRecDepth 100000 in
theorem del_cell (H : AHeap) (b : Nat) (cap : Option Nat) (l : List (Int × Int)) (hb : H[b]? = some (.cells (ownG l.length) 2 (prs l))) (hl : l.length ≤ 1000000000) (g : FuncId) (caps : List AV) (hok : okFn Tryz.prog g = true) (hc : AV.bels H.length caps = true) (p : (Int × Int) → Bool)
    (hf : ∀ (X : List (Int × Int)) (e : Int × Int) (L : AHeap), e ∈ l → ACalls Tryz.prog g (.agg [.int .i64 e.1, .int .i64 e.2] :: caps) (H.set b (.cells (ownG l.length) 2 (prs X)) ++ L) (fun v H' => v = .bool (p e) ∧ H' = H.set b (.cells (ownG l.length) 2 (prs X)) ++ L)) :
    ACalls Tryz.prog 80 [.sl (some (b, 0)) l.length cap, .fn g caps] H (fun v H' => v = .sl (some (b, 0)) (delL p l).length none ∧ H' = H.set b (.cells (ownG l.length) 2 (prs (padL l.length (delL p l))))) := by
  have hbl := getElem?_lt hb
  have hset : ∀ X L, (H.set b X ++ L)[b]? = some X := fun X L => by rw [List.getElem?_append_left (by simpa using hbl), List.getElem?_set_self hbl]
  have hset0 : ∀ X, (H.set b X)[b]? = some X := fun X => List.getElem?_set_self hbl
  have hself : H.set b (.cells (ownG l.length) 2 (prs l)) = H := by
    refine List.ext_getElem? fun i => ?_
    rw [List.getElem?_set]
    split
    · rename_i e; subst e; first | exact hb.symm | (rw [if_pos hbl]; exact hb.symm)
    · rfl
  have hmv := fun m sel => mvs_caps (n := H.length) (m := m) (sel := sel) hc
  have key := idx_cell H (.sl (some (b, 0)) l.length cap) l ⟨b, _, cap, rfl, hb⟩ hl g caps hok hc p (fun j hj => by
    have := hf l (g1 l j, g2 l j) [] (by rw [pr_eq hj]; exact List.getElem_mem hj)
    rw [List.append_nil, hself] at this
    exact this)
  (refine ACalls_run try_mixed Tryz.func80 true _ rfl (Nat.le_of_ble_eq_true (by kernel_rfl)) (by kernel_rfl) ?_; intro hbel Q hQ hQ' c hc; unfold Tryz.f80 at hc; simp only [Option.some.injEq] at hc; subst hc; clear hQ')
  simp -implicitDefEqProofs (disch := omega) only [simprocAttr, amset, tyset, Function.comp_apply, one1, lenV, calleeOf, lateOk, belowV, aop, AV.ofValue, AV.ofCell, AV.cells, AV.flat, AV.one, arep, aBin, aAppend, aConv]
  refine call_v (by kernel_rfl) key ?_
  rcases idxI_cases p l with ⟨h1, h2⟩ | ⟨i, hi, h1, h2, h3⟩
  · rw [h1]
    simp -implicitDefEqProofs (disch := omega) only [simprocAttr, amset, tyset, Function.comp_apply, one1, lenV, calleeOf, lateOk, belowV, aop, AV.ofValue, AV.ofCell, AV.cells, AV.flat, AV.one, arep, aBin, aAppend, aConv]
    have e : H.set b (.cells (ownG l.length) 2 (prs (padL l.length (delL p l)))) = H := by rw [delL_none h2]; simp [padL, hself]
    exact hQ _ _ (end_byE (.inl rfl) hbel (x1 := .sl (some (b, 0)) l.length cap) (l2 := []) (.sl (some (b, 0)) (delL p l).length none) (resT Tryz.results80) [] rfl [] (by decide) ⟨rfl, by rw [List.append_nil, e]⟩ (by rw [delL_none h2]; exact absW))
  · rw [h1]
    have hne : ((i : Int) == -1) = false := beq_eq_false_iff_ne.2 (by omega)
    have hown : ownG l.length = true := ownG_p (by omega)
    rw [hown] at hb hf hself
    simp -implicitDefEqProofs (disch := omega) only [hne, simprocAttr, amset, tyset, Function.comp_apply, one1, lenV, calleeOf, lateOk, belowV, aop, AV.ofValue, AV.ofCell, AV.cells, AV.flat, AV.one, arep, aBin, aAppend, aConv]
    have hd0 : delL p (l.take (i + 1)) = l.take i := by rw [delL_step hi, if_pos h3, List.append_nil, delL_none h2]
    have hdi : (delL p (l.take (i + 1))).length = i := by rw [hd0, List.length_take]; omega
    refine go_loop try_mixed (by kernel_rfl) (fun k F Hx => ∃ (j : Nat) (X : List (Int × Int)), j + k = l.length ∧ (delL p (l.take j)).length < j ∧ X.length = l.length ∧ X.take (delL p (l.take j)).length = delL p (l.take j) ∧ X.drop j = l.drop j ∧ F = [(0, .sl (some (b, 0)) l.length cap), (1, .fn g caps), (5, .int .i64 (((delL p (l.take j)).length : Nat) : Int)), (6, .int .i64 ((j : Nat) : Int))] ∧ Hx = H.set b (.cells true 2 (prs X))) (l.length - (i + 1)) ?_ ?_
    · refine ⟨_, _, _, ⟨i + 1, l, by omega, by rw [hdi]; omega, rfl, by rw [hd0, List.length_take, Nat.min_eq_left (by omega)], rfl, rfl, rfl⟩, Abs.by0e hself hbel ?_⟩
      exact absWf (jn @hdi @hmv)
    · rintro k F Hx ⟨j, X, hjk, hij, hXl, hXt, hXd, rfl, rfl⟩ J hJ
      obtain ⟨G, hG⟩ : ∃ G, G = H.set b (.cells true 2 (prs X)) := ⟨_, rfl⟩
      have hGl : G.length = H.length := by rw [hG, List.length_set]
      have hG1 : ∀ L, (G ++ L)[b]? = some (.cells true 2 (prs X)) := fun L => by rw [hG]; exact hset _ _
      have hG0 : G[b]? = some (.cells true 2 (prs X)) := by rw [hG]; exact hset0 _
      have hbG : b < G.length := by omega
      have hGs : ∀ Y L, (G ++ L).set b Y = H.set b Y ++ L := fun Y L => by rw [List.set_append_left _ _ hbG, hG, List.set_set]
      have hcall := fun e L => hf X e L
      rw [← hG] at hcall ⊢
      have hbelG : HBel H.length G := by rw [hG]; exact HBel.put hbel b bels_prs
      obtain ⟨n, hn⟩ : ∃ n, n = (delL p (l.take j)).length := ⟨_, rfl⟩
      have hnj : n < j := by rw [hn]; exact hij
      rw [← hn] at hXt ⊢
      by_cases hj : j < l.length
      · have hjj : (j : Int) < (l.length : Int) := by omega
        have hXj : X[j]'(by omega) = l[j] := by
          have := congrArg (fun m => m[0]?) hXd
          simpa [hj, hXl] using this
        have q1 := prs_load (l := X) (j := j) (by omega)
        have hg := pr_eq (l := X) (j := j) (by omega)
        simp -implicitDefEqProofs (disch := omega) only [hjj, hG1, hG0, q1, prs_len, prs_one, simprocAttr, amset, tyset, Function.comp_apply, one1, lenV, calleeOf, lateOk, belowV, aop, AV.ofValue, AV.ofCell, AV.cells, AV.flat, AV.one, arep, aBin, aAppend, aConv]
        iterate 2 refine And.intro (by omega) ?_
        refine call_v hok (hcall (g1 X j, g2 X j) _ (by rw [hg, hXj]; exact List.getElem_mem hj)) ?_
        have hst := delL_step (p := p) hj
        rw [← hXj, ← hg] at hst
        cases h5 : p (g1 X j, g2 X j)
        · rw [h5, if_neg Bool.false_ne_true] at hst
          have hl5 : (delL p (l.take (j + 1))).length = n + 1 := by rw [hst, List.length_append, hn]; rfl
          have hnX : n < X.length := by omega
          have hp2 := prs_set2 (a := g1 X j) (b := g2 X j) hnX
          simp -implicitDefEqProofs (disch := omega) only [h5, hG1, hG0, hGs, hp2, prs_len, prs_one, simprocAttr, amset, tyset, Function.comp_apply, one1, lenV, calleeOf, lateOk, belowV, aop, AV.ofValue, AV.ofCell, AV.cells, AV.flat, AV.one, arep, aBin, aAppend, aConv]
          iterate 2 refine And.intro (by omega) ?_
          refine hJ _ _ ⟨k - 1, by omega, _, _, _, ⟨j + 1, X.set n (g1 X j, g2 X j), by omega, by rw [hl5]; omega, by rw [List.length_set]; exact hXl, ?_, ?_, rfl, rfl⟩, Abs.byS1 (by rw [List.length_set]) (HBel.put hbel b bels_prs) ?_⟩
          · rw [hl5, hst, List.take_succ_eq_append_getElem (by rw [List.length_set]; exact hnX), List.getElem_set_self, List.take_set_of_le (Nat.le_refl _), hXt]
          · rw [List.drop_set_of_lt (by omega), ← List.drop_drop, hXd, List.drop_drop]
          exact absWf (jn @hl5 (jn @hmv (jn @Int.natCast_add @Int.natCast_one)))
        · rw [h5, if_pos rfl, List.append_nil] at hst
          have hl5 : (delL p (l.take (j + 1))).length = n := by rw [hst, hn]
          simp -implicitDefEqProofs (disch := omega) only [h5, simprocAttr, amset, tyset, Function.comp_apply, one1, lenV, calleeOf, lateOk, belowV, aop, AV.ofValue, AV.ofCell, AV.cells, AV.flat, AV.one, arep, aBin, aAppend, aConv]
          refine hJ _ _ ⟨k - 1, by omega, _, _, _, ⟨j + 1, X, by omega, by rw [hl5]; omega, hXl, by rw [hst, ← hn]; exact hXt, by rw [← List.drop_drop, hXd, List.drop_drop], rfl, hG⟩, Abs.byS1 hGl hbelG ?_⟩
          exact absWf (jn @hl5 @hmv)
      · have hjj : ¬ ((j : Int) < (l.length : Int)) := by omega
        have hrep := (prs_rep (m := l.length - n)).symm
        have hne0 : (l.length - n == 0) = false := beq_eq_false_iff_ne.2 (by omega)
        have hspl := splice_prs (l := X) (ys := List.replicate (l.length - n) (0, 0)) (i := n) (by rw [List.length_replicate]; omega)
        have hGs0 : ∀ Y, G.set b Y = H.set b Y := fun Y => by rw [hG, List.set_set]
        rw [hXt] at hspl
        simp -implicitDefEqProofs (disch := omega) only [hjj, hG1, hG0, hrep, hne0, hspl, hGs0, prs_len, prs_one, List.length_replicate, hset0, simprocAttr, amset, tyset, Function.comp_apply, one1, lenV, calleeOf, lateOk, belowV, aop, AV.ofValue, AV.ofCell, AV.cells, AV.flat, AV.one, arep, aBin, aAppend, aConv]
        refine ⟨by omega, ⟨by omega, .inl (Nat.le_refl _)⟩, by omega, by omega, ⟨by omega, .inl (by omega)⟩, ?_⟩
        obtain rfl : j = l.length := by omega
        rw [List.take_length] at hn ⊢
        refine hQ _ _ (end_byS (by rw [List.length_set]) (.inl rfl) (HBel.put hbel b bels_prs) (x1 := .sl (some (b, 0)) (n - 0) (Option.map (fun x => x - 0) cap)) (.sl (some (b, 0)) (delL p l).length none) (resT Tryz.results80) ⟨rfl, by rw [hown, hn]; rfl⟩ ?_)
        exact absWf (jn @hn @Nat.sub_zero)
open Go.RowKit
open Go.RowKit
open Go.RowKit
/-- Beams and scans that are valid. -/
def beaB (m r : Int) : Bool := btw m 0 255 && btw r (-1) 1024
def beaE (e : Int × Int) : Bool := beaB e.1 e.2
def scnB (s : List (Int × Int)) : Bool := decide (((s.length : Nat) : Int) ≤ 32) && !(s.any fun e => !beaE e)
theorem beaB_iff {m r : Int} : beaB m r = true ↔ (0 ≤ m ∧ m ≤ 255) ∧ -1 ≤ r ∧ r ≤ 1024 := by
  unfold beaB; rw [Bool.and_eq_true, btw_iff, btw_iff]
theorem scnB_iff {s : List (Int × Int)} : scnB s = true ↔ s.length ≤ 32 ∧ ∀ e ∈ s, beaE e = true := by
  unfold scnB
  rw [Bool.and_eq_true, decide_eq_true_eq, Bool.not_eq_true', List.any_eq_false]
  refine ⟨fun h => ⟨by omega, fun e he => ?_⟩, fun h => ⟨by omega, fun e he => ?_⟩⟩
  · have := h.2 e he
    simpa using this
  · rw [h.2 e he]; decide
/-- The arguments are valid. -/
def rgtA (W Hh : Int) (xs : List Int) (l : List T6) (s : List (Int × Int)) (g : Int) : Bool := vldB W Hh xs && (decide (0 < ((l.length : Nat) : Int)) && (setB l && (scnB s && btw g 1 32)))
theorem rgtA_iff {W Hh : Int} {xs : List Int} {l : List T6} {s : List (Int × Int)} {g : Int} : rgtA W Hh xs l s g = true ↔ vldB W Hh xs = true ∧ 0 < l.length ∧ setB l = true ∧ scnB s = true ∧ 1 ≤ g ∧ g ≤ 32 := by
  unfold rgtA; simp only [Bool.and_eq_true, decide_eq_true_eq, btw_iff]
  exact ⟨fun ⟨a, b, c, d, e⟩ => ⟨a, by omega, c, d, e⟩, fun ⟨a, b, c, d, e⟩ => ⟨a, by omega, c, d, e⟩⟩
/-- The number of pairs. -/
def sumC (l : List T6) : Nat → Int
  | 0 => 0
  | n + 1 => sumC l n + g66 l n
theorem g66_bd {l : List T6} (h : setB l = true) {n : Nat} (hn : n < l.length) : 1 ≤ g66 l n ∧ g66 l n ≤ 256 := by
  have := (setB_iff.1 h).2 (g6 l n) (g6_mem hn)
  have := (arcB_iff.1 (bxB_iff.1 this).2.2)
  exact this.2.1
theorem setB_len {l : List T6} (h : setB l = true) : l.length ≤ 16 := (setB_iff.1 h).1
theorem sumC_bd {l : List T6} (h : setB l = true) : ∀ n : Nat, n ≤ l.length → (n : Int) ≤ sumC l n ∧ sumC l n ≤ 256 * n
  | 0, _ => by simp [sumC]
  | n + 1, hn => by
    have := sumC_bd h n (by omega)
    have := g66_bd h (show n < l.length by omega)
    simp only [sumC]; omega
def prsN (l : List T6) : Int := if setB l = true then sumC l l.length else 0
def wdeB (b : T6) : Bool := decide (64 < b.2.2.1 - b.1) || decide (64 < b.2.2.2.1 - b.2.1)
def tauB (l : List T6) : Bool := decide (sumC l l.length ≤ 32) && !(l.any wdeB)
open Go.RowKit
abbrev T9 := Int × Int × Int × Int × Int × Int × Int × Int × Int
def r9 (l : List T9) : List AV := l.flatMap fun p => [.int .i64 p.1, .int .i64 p.2.1, .int .i64 p.2.2.1, .int .i64 p.2.2.2.1, .int .i64 p.2.2.2.2.1, .int .i64 p.2.2.2.2.2.1, .int .i64 p.2.2.2.2.2.2.1, .int .i64 p.2.2.2.2.2.2.2.1, .int .i64 p.2.2.2.2.2.2.2.2]
def g9 (l : List T9) (j : Nat) : T9 := l.getD j (0, 0, 0, 0, 0, 0, 0, 0, 0)
def g91 (l : List T9) (j : Nat) : Int := (g9 l j).1
def g92 (l : List T9) (j : Nat) : Int := (g9 l j).2.1
def g93 (l : List T9) (j : Nat) : Int := (g9 l j).2.2.1
def g94 (l : List T9) (j : Nat) : Int := (g9 l j).2.2.2.1
def g95 (l : List T9) (j : Nat) : Int := (g9 l j).2.2.2.2.1
def g96 (l : List T9) (j : Nat) : Int := (g9 l j).2.2.2.2.2.1
def g97 (l : List T9) (j : Nat) : Int := (g9 l j).2.2.2.2.2.2.1
def g98 (l : List T9) (j : Nat) : Int := (g9 l j).2.2.2.2.2.2.2.1
def g99 (l : List T9) (j : Nat) : Int := (g9 l j).2.2.2.2.2.2.2.2
theorem g9_eq {l : List T9} {j : Nat} (h : j < l.length) : (g91 l j, g92 l j, g93 l j, g94 l j, g95 l j, g96 l j, g97 l j, g98 l j, g99 l j) = l[j] := by
  simp [g91, g92, g93, g94, g95, g96, g97, g98, g99, g9, h, List.getD_eq_getElem?_getD]
theorem r9_nil : r9 [] = [] := rfl
theorem r9_cons {p : T9} {l : List T9} : r9 (p :: l) = .int .i64 p.1 :: .int .i64 p.2.1 :: .int .i64 p.2.2.1 :: .int .i64 p.2.2.2.1 :: .int .i64 p.2.2.2.2.1 :: .int .i64 p.2.2.2.2.2.1 :: .int .i64 p.2.2.2.2.2.2.1 :: .int .i64 p.2.2.2.2.2.2.2.1 :: .int .i64 p.2.2.2.2.2.2.2.2 :: r9 l := rfl
theorem r9_append {l m : List T9} : r9 (l ++ m) = r9 l ++ r9 m := by simp [r9]
theorem r9_len : ∀ {l : List T9}, (r9 l).length = l.length * 9
  | [] => rfl
  | p :: l => by rw [r9_cons]; simp only [List.length_cons, r9_len (l := l)]; omega
theorem mvs_r9 {σ : Nat → Nat} : ∀ {l : List T9}, AV.mvs σ (r9 l) = r9 l
  | [] => rfl
  | p :: l => by
    rw [r9_cons]
    show AV.mv σ _ :: AV.mv σ _ :: AV.mv σ _ :: AV.mv σ _ :: AV.mv σ _ :: AV.mv σ _ :: AV.mv σ _ :: AV.mv σ _ :: AV.mv σ _ :: AV.mvs σ (r9 l) = _
    rw [mvs_r9 (l := l)]; rfl
theorem r9_at : ∀ {l : List T9} {j : Nat} (_h : j < l.length), (r9 l).drop (j * 9) = .int .i64 (g91 l j) :: .int .i64 (g92 l j) :: .int .i64 (g93 l j) :: .int .i64 (g94 l j) :: .int .i64 (g95 l j) :: .int .i64 (g96 l j) :: .int .i64 (g97 l j) :: .int .i64 (g98 l j) :: .int .i64 (g99 l j) :: (r9 l).drop ((j + 1) * 9)
  | [], j, h => by simp at h
  | p :: l, 0, _ => by rw [r9_cons]; simp [g91, g92, g93, g94, g95, g96, g97, g98, g99, g9]
  | p :: l, j + 1, h => by
    rw [r9_cons, show (j + 1) * 9 = j * 9 + 1 + 1 + 1 + 1 + 1 + 1 + 1 + 1 + 1 by omega, List.drop_succ_cons, List.drop_succ_cons, List.drop_succ_cons, List.drop_succ_cons, List.drop_succ_cons, List.drop_succ_cons, List.drop_succ_cons, List.drop_succ_cons, List.drop_succ_cons, r9_at (l := l) (by simpa using h), show (j + 1 + 1) * 9 = (j + 1) * 9 + 1 + 1 + 1 + 1 + 1 + 1 + 1 + 1 + 1 by omega, List.drop_succ_cons, List.drop_succ_cons, List.drop_succ_cons, List.drop_succ_cons, List.drop_succ_cons, List.drop_succ_cons, List.drop_succ_cons, List.drop_succ_cons, List.drop_succ_cons]
    rfl
theorem r9_load {l : List T9} {j : Nat} (h : j < l.length) : ((r9 l).drop (j * 9)).take 9 = [.int .i64 (g91 l j), .int .i64 (g92 l j), .int .i64 (g93 l j), .int .i64 (g94 l j), .int .i64 (g95 l j), .int .i64 (g96 l j), .int .i64 (g97 l j), .int .i64 (g98 l j), .int .i64 (g99 l j)] := by rw [r9_at h]; rfl
theorem r9_p0 {l : List T9} {j : Nat} (h : j < l.length) : ((r9 l).drop (j * 9)).take 6 = [.int .i64 (g91 l j), .int .i64 (g92 l j), .int .i64 (g93 l j), .int .i64 (g94 l j), .int .i64 (g95 l j), .int .i64 (g96 l j)] := by rw [r9_at h]; rfl
theorem r9_q0 {l : List T9} (h : 0 < l.length) : (r9 l).take 6 = [.int .i64 (g91 l 0), .int .i64 (g92 l 0), .int .i64 (g93 l 0), .int .i64 (g94 l 0), .int .i64 (g95 l 0), .int .i64 (g96 l 0)] := by
  have := r9_p0 h
  rwa [Nat.zero_mul, List.drop_zero] at this
theorem r9_p6 {l : List T9} {j : Nat} (h : j < l.length) : ((r9 l).drop (j * 9 + 6)).take 3 = [.int .i64 (g97 l j), .int .i64 (g98 l j), .int .i64 (g99 l j)] := by rw [← List.drop_drop, r9_at h]; rfl
theorem r9_q6 {l : List T9} (h : 0 < l.length) : ((r9 l).drop 6).take 3 = [.int .i64 (g97 l 0), .int .i64 (g98 l 0), .int .i64 (g99 l 0)] := by
  have := r9_p6 h
  rwa [Nat.zero_mul, Nat.zero_add] at this
theorem r9_one {l : List T9} : (r9 l).all AV.one = true := by
  induction l with
  | nil => rfl
  | cons p l ih => rw [r9_cons]; simp [AV.one, ih]
section
variable {P : Program} {H : AHeap} {n : Nat}
end
set_option linter.unusedSimpArgs false
set_option linter.unusedVariables false
open Go.RowKit
def lnP (x y : Int) : Bool := within x 2097152 && within y 2097152
def lnR (x0 y0 x1 y1 : Int) : Bool := decide (-2097152 ≤ x0) && (decide (x0 ≤ x1) && (decide (x1 ≤ 2097152) && (decide (-2097152 ≤ y0) && (decide (y0 ≤ y1) && decide (y1 ≤ 2097152)))))
theorem lnP_iff {x y : Int} : lnP x y = true ↔ (-2097152 ≤ x ∧ x ≤ 2097152) ∧ -2097152 ≤ y ∧ y ≤ 2097152 := by unfold lnP; rw [Bool.and_eq_true, within_iff, within_iff]
theorem lnR_iff {x0 y0 x1 y1 : Int} : lnR x0 y0 x1 y1 = true ↔ (-2097152 ≤ x0 ∧ x0 ≤ x1 ∧ x1 ≤ 2097152) ∧ -2097152 ≤ y0 ∧ y0 ≤ y1 ∧ y1 ≤ 2097152 := by
  unfold lnR; simp only [Bool.and_eq_true, decide_eq_true_eq]; omega
def clgI (n lo hi : Int) : Int := if lo < (if hi < n then hi else n) then (if hi < n then hi else n) else lo
open Go.RowKit
/-- The direction with the sum of two angles. -/
def turV (a b : Vec) : Vec := lowV (a.1 * b.1 - a.2.1 * b.2.1) (a.1 * b.2.1 + a.2.1 * b.1) (a.2.2 * b.2.2)
/-- The direction of a beam. -/
def beamV (h m : Int) : Vec := turV (dirV h) (dirV m)
/-- A valid vector in lowest terms. -/
def vecB (x y d : Int) : Bool := decide (1 ≤ d) && (decide (d ≤ 67108864) && (decide (-d ≤ x) && (decide (x ≤ d) && (decide (-d ≤ y) && (decide (y ≤ d) && decide (x * x + y * y = d * d))))))
theorem vecB_iff {x y d : Int} : vecB x y d = true ↔ (1 ≤ d ∧ d ≤ 67108864) ∧ (-d ≤ x ∧ x ≤ d) ∧ (-d ≤ y ∧ y ≤ d) ∧ x * x + y * y = d * d := by
  unfold vecB
  simp only [Bool.and_eq_true, decide_eq_true_eq]
  exact ⟨fun ⟨a, b, c, d, e, f, g⟩ => ⟨⟨a, b⟩, ⟨c, d⟩, ⟨e, f⟩, g⟩, fun ⟨⟨a, b⟩, ⟨c, d⟩, ⟨e, f⟩, g⟩ => ⟨a, b, c, d, e, f, g⟩⟩
theorem sq_le_of {x y d : Int} (hd : 0 ≤ d) (h : x * x + y * y = d * d) : (-d ≤ x ∧ x ≤ d) ∧ -d ≤ y ∧ y ≤ d := by
  have k : ∀ a b : Int, a * a + b * b = d * d → -d ≤ a ∧ a ≤ d := fun a b e => by
    have hb : 0 ≤ b * b := by
      rcases Int.le_total 0 b with q | q
      · exact Int.mul_nonneg q q
      · exact Int.mul_nonneg_of_nonpos_of_nonpos q q
    constructor
    · rcases Int.lt_or_le a (-d) with q | q
      · have t1 := Int.mul_le_mul_of_nonneg_left (show d ≤ -a by omega) hd
        have t2 := Int.mul_lt_mul_of_pos_right (show d < -a by omega) (show 0 < -a by omega)
        rw [Int.neg_mul_neg] at t2; omega
      · exact q
    · rcases Int.lt_or_le d a with q | q
      · have t1 := Int.mul_le_mul_of_nonneg_left (show d ≤ a by omega) hd
        have t2 := Int.mul_lt_mul_of_pos_right (show d < a by omega) (show 0 < a by omega)
        omega
      · exact q
  exact ⟨k x y h, k y x (by omega)⟩
theorem tur_ok {a b : Vec} (ha : vecOK a = true) (hb : vecOK b = true) : vecB (turV a b).1 (turV a b).2.1 (turV a b).2.2 = true := by
  obtain ⟨⟨a1, a2⟩, ⟨a3, a4⟩, ⟨a5, a6⟩, a7⟩ := vecOK_iff.1 ha
  obtain ⟨⟨b1, b2⟩, ⟨b3, b4⟩, ⟨b5, b6⟩, b7⟩ := vecOK_iff.1 hb
  unfold turV
  have hd : 0 < a.2.2 * b.2.2 := Int.mul_pos (by omega) (by omega)
  have hD : a.2.2 * b.2.2 ≤ 8065 * 8065 := Int.mul_le_mul a2 b2 (by omega) (by omega)
  obtain ⟨g, hg, e1, e2, e3⟩ := lowV_mul (x := a.1 * b.1 - a.2.1 * b.2.1) (y := a.1 * b.2.1 + a.2.1 * b.1) (show a.2.2 * b.2.2 ≠ 0 by omega)
  have q : (a.1 * b.1 - a.2.1 * b.2.1) * (a.1 * b.1 - a.2.1 * b.2.1) + (a.1 * b.2.1 + a.2.1 * b.1) * (a.1 * b.2.1 + a.2.1 * b.1) = (a.2.2 * b.2.2) * (a.2.2 * b.2.2) := by
    have z1 : (a.1 * b.1 - a.2.1 * b.2.1) * (a.1 * b.1 - a.2.1 * b.2.1) + (a.1 * b.2.1 + a.2.1 * b.1) * (a.1 * b.2.1 + a.2.1 * b.1) = (a.1 * a.1 + a.2.1 * a.2.1) * (b.1 * b.1 + b.2.1 * b.2.1) := by grind
    rw [z1, a7, b7]; grind
  generalize lowV (a.1 * b.1 - a.2.1 * b.2.1) (a.1 * b.2.1 + a.2.1 * b.1) (a.2.2 * b.2.2) = v at *
  rw [e1, e2, e3] at q
  rw [e3] at hd hD
  have vp : 0 < v.2.2 := by
    rcases Int.lt_or_le 0 v.2.2 with k | k
    · exact k
    · have := Int.mul_nonpos_of_nonpos_of_nonneg k (show 0 ≤ g by omega)
      omega
  have vl : v.2.2 ≤ v.2.2 * g := by
    have := Int.mul_le_mul_of_nonneg_left (show 1 ≤ g by omega) (show 0 ≤ v.2.2 by omega)
    omega
  have s : v.1 * v.1 + v.2.1 * v.2.1 = v.2.2 * v.2.2 := by
    have z : (v.1 * v.1 + v.2.1 * v.2.1) * (g * g) = v.2.2 * v.2.2 * (g * g) := by grind
    exact Int.eq_of_mul_eq_mul_right (show g * g ≠ 0 by have := Int.mul_pos hg hg; omega) z
  have r := sq_le_of (show 0 ≤ v.2.2 by omega) s
  exact vecB_iff.2 ⟨⟨by omega, by omega⟩, r.1, r.2, s⟩
theorem beam_ok (h m : Int) : vecB (beamV h m).1 (beamV h m).2.1 (beamV h m).2.2 = true := tur_ok (dirV_ok h) (dirV_ok m)
theorem vecOK_B {v : Vec} (h : vecOK v = true) : vecB v.1 v.2.1 v.2.2 = true := by
  obtain ⟨a, b, c, d⟩ := vecOK_iff.1 h
  exact vecB_iff.2 ⟨by omega, b, c, d⟩
theorem vec_nz {x y d : Int} (h : vecB x y d = true) : ¬ (x = 0 ∧ y = 0) := fun k => by
  obtain ⟨⟨h1, -⟩, -, -, h⟩ := vecB_iff.1 h
  rw [k.1, k.2] at h
  have := Int.mul_pos (show 0 < d by omega) (show 0 < d by omega)
  omega
end Go.Proofs.YteieacinbfimlaaGreat
