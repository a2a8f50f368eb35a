/- Parts of the proof: walks and plain facts. Conditions: as each theorem states. -/
import Derived.Test.YtcokgigjmjlmnaaGreatG2
import Derived.Test.YtcokgigjmjlmnaaGreatRows
import Derived.Test.YtcokgigjmjlmnaaGreatG1
import Derived.ProofKit
import Derived.OpenShut
import Derived.ShutString
import Derived.ChangeOld
import Derived.Lib.SmallJoins
import Derived.Shelf.Small.Bits
import Derived.Shelf.Strconv.Itoa0
import Derived.Shelf.Strings.Search1
import Derived.Shelf.Bytes.SlIndexSmall
import Derived.Ground.SlbNamesProg
import Derived.Shelf.Bytes.SlCountOne
import Derived.Shelf.Bytes.SlIndexAt
import Derived.Shelf.Bytes.SlSearch0
import Derived.Shelf.Bytes.Small
import Derived.Shelf.Bytes.IndexByte
import Derived.Shelf.SlSortCmp.WholeK
import Derived.Shelf.SlGeneric
import Derived.Ground.SlsfProg
import Derived.Shelf.Spec.SlicesGrow
import Derived.Test.YtcokgigjmjlmnaaGreatProg
import Derived.Lib.SortBridge
import Derived.Lib.RowBridge
namespace Go.Proofs.YtcokgigjmjlmnaaGreat
open Go.RowKit
theorem try_mixed : Tryz.prog.follows .mixedOrders = true := by kernel_rfl
theorem tAgg2 : tAgg Tryz.prog 2 = some false := by kernel_rfl
theorem tSz2 : tSz Tryz.prog 2 = some 1 := by kernel_rfl
theorem tBytes2 : tBytes Tryz.prog 2 = some 8 := by kernel_rfl
theorem tZero2 : tZero Tryz.prog 2 = some [.int .i64 0] := by kernel_rfl
theorem tInt2 : tInt Tryz.prog 2 = some .i64 := by kernel_rfl
theorem tUnd2 : Tryz.prog.underlying 2 = some (.int .i64) := by kernel_rfl
theorem tAgg3 : tAgg Tryz.prog 3 = some false := by kernel_rfl
theorem tSz3 : tSz Tryz.prog 3 = some 1 := by kernel_rfl
theorem tBytes3 : tBytes Tryz.prog 3 = some 8 := by kernel_rfl
theorem tZero3 : tZero Tryz.prog 3 = some [.int .i64 0] := by kernel_rfl
theorem tInt3 : tInt Tryz.prog 3 = some .i64 := by kernel_rfl
theorem tUnd3 : Tryz.prog.underlying 3 = some (.int .i64) := by kernel_rfl
theorem tAgg4 : tAgg Tryz.prog 4 = some false := by kernel_rfl
theorem tSz4 : tSz Tryz.prog 4 = some 1 := by kernel_rfl
theorem tBytes4 : tBytes Tryz.prog 4 = some 1 := by kernel_rfl
theorem tZero4 : tZero Tryz.prog 4 = some [.bool false] := by kernel_rfl
theorem tIsBool4 : tIsBool Tryz.prog 4 = true := by kernel_rfl
theorem tAgg5 : tAgg Tryz.prog 5 = some false := by kernel_rfl
theorem tSz5 : tSz Tryz.prog 5 = some 1 := by kernel_rfl
theorem tBytes5 : tBytes Tryz.prog 5 = some 1 := by kernel_rfl
theorem tZero5 : tZero Tryz.prog 5 = some [.int .u8 0] := by kernel_rfl
theorem tInt5 : tInt Tryz.prog 5 = some .u8 := by kernel_rfl
theorem tUnd5 : Tryz.prog.underlying 5 = some (.int .u8) := by kernel_rfl
theorem tAgg7 : tAgg Tryz.prog 7 = some true := by kernel_rfl
theorem tSz7 : tSz Tryz.prog 7 = some 4 := by kernel_rfl
theorem tBytes7 : tBytes Tryz.prog 7 = some 24 := by kernel_rfl
theorem tZero7 : tZero Tryz.prog 7 = some [.int .i64 0, .int .i64 0, .bool false, .int .u8 0] := by kernel_rfl
theorem tPlaces7 : tPlaces Tryz.prog 7 = some [(0, 1), (1, 1), (2, 1), (3, 1)] := by kernel_rfl
theorem tFld7_0 : tFld Tryz.prog 7 0 = some (0, 2) := by kernel_rfl
theorem tFld7_1 : tFld Tryz.prog 7 1 = some (1, 3) := by kernel_rfl
theorem tFld7_2 : tFld Tryz.prog 7 2 = some (2, 4) := by kernel_rfl
theorem tFld7_3 : tFld Tryz.prog 7 3 = some (3, 6) := by kernel_rfl
theorem tGuard7 : Tryz.prog.eqGuardType Tryz.prog.depth 7 = false := by kernel_rfl
theorem tAgg9 : tAgg Tryz.prog 9 = some false := by kernel_rfl
theorem tSz9 : tSz Tryz.prog 9 = some 1 := by kernel_rfl
theorem tBytes9 : tBytes Tryz.prog 9 = some 16 := by kernel_rfl
theorem tZero9 : tZero Tryz.prog 9 = some [.str []] := by kernel_rfl
theorem tAgg12 : tAgg Tryz.prog 12 = some false := by kernel_rfl
theorem tSz12 : tSz Tryz.prog 12 = some 1 := by kernel_rfl
theorem tBytes12 : tBytes Tryz.prog 12 = some 8 := by kernel_rfl
theorem tZero12 : tZero Tryz.prog 12 = some [.int .u64 0] := by kernel_rfl
theorem tInt12 : tInt Tryz.prog 12 = some .u64 := by kernel_rfl
theorem tUnd12 : Tryz.prog.underlying 12 = some (.int .u64) := by kernel_rfl
theorem tAgg13 : tAgg Tryz.prog 13 = some true := by kernel_rfl
theorem tSz13 : tSz Tryz.prog 13 = some 2 := by kernel_rfl
theorem tBytes13 : tBytes Tryz.prog 13 = some 24 := by kernel_rfl
theorem tZero13 : tZero Tryz.prog 13 = some [.str [], .int .u64 0] := by kernel_rfl
theorem tPlaces13 : tPlaces Tryz.prog 13 = some [(0, 1), (1, 1)] := by kernel_rfl
theorem tFld13_0 : tFld Tryz.prog 13 0 = some (0, 9) := by kernel_rfl
theorem tFld13_1 : tFld Tryz.prog 13 1 = some (1, 12) := by kernel_rfl
theorem tGuard13 : Tryz.prog.eqGuardType Tryz.prog.depth 13 = false := by kernel_rfl
theorem tAgg17 : tAgg Tryz.prog 17 = some false := by kernel_rfl
theorem tSz17 : tSz Tryz.prog 17 = some 1 := by kernel_rfl
theorem tBytes17 : tBytes Tryz.prog 17 = some 8 := by kernel_rfl
theorem tZero17 : tZero Tryz.prog 17 = some [.ptr none] := by kernel_rfl
theorem tAgg18 : tAgg Tryz.prog 18 = some true := by kernel_rfl
theorem tSz18 : tSz Tryz.prog 18 = some 1 := by kernel_rfl
theorem tBytes18 : tBytes Tryz.prog 18 = some 8 := by kernel_rfl
theorem tZero18 : tZero Tryz.prog 18 = some [.ptr none] := by kernel_rfl
theorem tPlaces18 : tPlaces Tryz.prog 18 = some [(0, 1)] := by kernel_rfl
theorem tFld18_0 : tFld Tryz.prog 18 0 = some (0, 17) := by kernel_rfl
theorem tGuard18 : Tryz.prog.eqGuardType Tryz.prog.depth 18 = false := by kernel_rfl
theorem tAgg21 : tAgg Tryz.prog 21 = some false := by kernel_rfl
theorem tSz21 : tSz Tryz.prog 21 = some 1 := by kernel_rfl
theorem tBytes21 : tBytes Tryz.prog 21 = some 4 := by kernel_rfl
theorem tZero21 : tZero Tryz.prog 21 = some [.int .i32 0] := by kernel_rfl
theorem tInt21 : tInt Tryz.prog 21 = some .i32 := by kernel_rfl
theorem tUnd21 : Tryz.prog.underlying 21 = some (.int .i32) := by kernel_rfl
theorem tAgg22 : tAgg Tryz.prog 22 = some false := by kernel_rfl
theorem tSz22 : tSz Tryz.prog 22 = some 1 := by kernel_rfl
theorem tBytes22 : tBytes Tryz.prog 22 = some 24 := by kernel_rfl
theorem tZero22 : tZero Tryz.prog 22 = some [.sl none 0 (some 0)] := by kernel_rfl
theorem tElem22 : tElem Tryz.prog 22 = some 5 := by kernel_rfl
theorem tIsSlice22 : tIsSlice Tryz.prog 22 = true := by kernel_rfl
theorem tAgg23 : tAgg Tryz.prog 23 = some true := by kernel_rfl
theorem tSz23 : tSz Tryz.prog 23 = some 3 := by kernel_rfl
theorem tBytes23 : tBytes Tryz.prog 23 = some 40 := by kernel_rfl
theorem tZero23 : tZero Tryz.prog 23 = some [.int .i64 0, .int .i64 0, .sl none 0 (some 0)] := by kernel_rfl
theorem tPlaces23 : tPlaces Tryz.prog 23 = some [(0, 1), (1, 1), (2, 1)] := by kernel_rfl
theorem tFld23_0 : tFld Tryz.prog 23 0 = some (0, 3) := by kernel_rfl
theorem tFld23_1 : tFld Tryz.prog 23 1 = some (1, 3) := by kernel_rfl
theorem tFld23_2 : tFld Tryz.prog 23 2 = some (2, 22) := by kernel_rfl
theorem tGuard23 : Tryz.prog.eqGuardType Tryz.prog.depth 23 = false := by kernel_rfl
theorem tAgg24 : tAgg Tryz.prog 24 = some true := by kernel_rfl
theorem tSz24 : tSz Tryz.prog 24 = some 3 := by kernel_rfl
theorem tBytes24 : tBytes Tryz.prog 24 = some 40 := by kernel_rfl
theorem tZero24 : tZero Tryz.prog 24 = some [.int .i64 0, .int .i64 0, .sl none 0 (some 0)] := by kernel_rfl
theorem tPlaces24 : tPlaces Tryz.prog 24 = some [(0, 1), (1, 1), (2, 1)] := by kernel_rfl
theorem tFld24_0 : tFld Tryz.prog 24 0 = some (0, 3) := by kernel_rfl
theorem tFld24_1 : tFld Tryz.prog 24 1 = some (1, 3) := by kernel_rfl
theorem tFld24_2 : tFld Tryz.prog 24 2 = some (2, 22) := by kernel_rfl
theorem tGuard24 : Tryz.prog.eqGuardType Tryz.prog.depth 24 = false := by kernel_rfl
theorem tAgg25 : tAgg Tryz.prog 25 = some true := by kernel_rfl
theorem tSz25 : tSz Tryz.prog 25 = some 3 := by kernel_rfl
theorem tBytes25 : tBytes Tryz.prog 25 = some 24 := by kernel_rfl
theorem tZero25 : tZero Tryz.prog 25 = some [.int .i64 0, .int .i64 0, .int .i64 0] := by kernel_rfl
theorem tPlaces25 : tPlaces Tryz.prog 25 = some [(0, 1), (1, 1), (2, 1)] := by kernel_rfl
theorem tFld25_0 : tFld Tryz.prog 25 0 = some (0, 3) := by kernel_rfl
theorem tFld25_1 : tFld Tryz.prog 25 1 = some (1, 3) := by kernel_rfl
theorem tFld25_2 : tFld Tryz.prog 25 2 = some (2, 3) := by kernel_rfl
theorem tGuard25 : Tryz.prog.eqGuardType Tryz.prog.depth 25 = false := by kernel_rfl
theorem tEq25 (a0 a1 a2 b0 b1 b2 : Int) : aEq Tryz.prog 20 25 [.int .i64 a0, .int .i64 a1, .int .i64 a2] [.int .i64 b0, .int .i64 b1, .int .i64 b2] = some ((a0 == b0) && ((a1 == b1) && ((a2 == b2) && true))) := by kernel_rfl
theorem tAgg26 : tAgg Tryz.prog 26 = some true := by kernel_rfl
theorem tSz26 : tSz Tryz.prog 26 = some 3 := by kernel_rfl
theorem tBytes26 : tBytes Tryz.prog 26 = some 24 := by kernel_rfl
theorem tZero26 : tZero Tryz.prog 26 = some [.int .i64 0, .int .i64 0, .int .i64 0] := by kernel_rfl
theorem tPlaces26 : tPlaces Tryz.prog 26 = some [(0, 1), (1, 1), (2, 1)] := by kernel_rfl
theorem tFld26_0 : tFld Tryz.prog 26 0 = some (0, 3) := by kernel_rfl
theorem tFld26_1 : tFld Tryz.prog 26 1 = some (1, 3) := by kernel_rfl
theorem tFld26_2 : tFld Tryz.prog 26 2 = some (2, 3) := by kernel_rfl
theorem tGuard26 : Tryz.prog.eqGuardType Tryz.prog.depth 26 = false := by kernel_rfl
theorem tEq26 (a0 a1 a2 b0 b1 b2 : Int) : aEq Tryz.prog 20 26 [.int .i64 a0, .int .i64 a1, .int .i64 a2] [.int .i64 b0, .int .i64 b1, .int .i64 b2] = some ((a0 == b0) && ((a1 == b1) && ((a2 == b2) && true))) := by kernel_rfl
theorem tAgg27 : tAgg Tryz.prog 27 = some true := by kernel_rfl
theorem tSz27 : tSz Tryz.prog 27 = some 2 := by kernel_rfl
theorem tBytes27 : tBytes Tryz.prog 27 = some 16 := by kernel_rfl
theorem tZero27 : tZero Tryz.prog 27 = some [.int .i64 0, .int .i64 0] := by kernel_rfl
theorem tPlaces27 : tPlaces Tryz.prog 27 = some [(0, 1), (1, 1)] := by kernel_rfl
theorem tFld27_0 : tFld Tryz.prog 27 0 = some (0, 3) := by kernel_rfl
theorem tFld27_1 : tFld Tryz.prog 27 1 = some (1, 3) := by kernel_rfl
theorem tGuard27 : Tryz.prog.eqGuardType Tryz.prog.depth 27 = false := by kernel_rfl
theorem tEq27 (a0 a1 b0 b1 : Int) : aEq Tryz.prog 20 27 [.int .i64 a0, .int .i64 a1] [.int .i64 b0, .int .i64 b1] = some ((a0 == b0) && ((a1 == b1) && true)) := by kernel_rfl
theorem tAgg28 : tAgg Tryz.prog 28 = some true := by kernel_rfl
theorem tSz28 : tSz Tryz.prog 28 = some 2 := by kernel_rfl
theorem tBytes28 : tBytes Tryz.prog 28 = some 16 := by kernel_rfl
theorem tZero28 : tZero Tryz.prog 28 = some [.int .i64 0, .int .i64 0] := by kernel_rfl
theorem tPlaces28 : tPlaces Tryz.prog 28 = some [(0, 1), (1, 1)] := by kernel_rfl
theorem tFld28_0 : tFld Tryz.prog 28 0 = some (0, 3) := by kernel_rfl
theorem tFld28_1 : tFld Tryz.prog 28 1 = some (1, 3) := by kernel_rfl
theorem tGuard28 : Tryz.prog.eqGuardType Tryz.prog.depth 28 = false := by kernel_rfl
theorem tEq28 (a0 a1 b0 b1 : Int) : aEq Tryz.prog 20 28 [.int .i64 a0, .int .i64 a1] [.int .i64 b0, .int .i64 b1] = some ((a0 == b0) && ((a1 == b1) && true)) := by kernel_rfl
theorem tAgg29 : tAgg Tryz.prog 29 = some true := by kernel_rfl
theorem tSz29 : tSz Tryz.prog 29 = some 4 := by kernel_rfl
theorem tBytes29 : tBytes Tryz.prog 29 = some 32 := by kernel_rfl
theorem tZero29 : tZero Tryz.prog 29 = some [.int .i64 0, .int .i64 0, .int .i64 0, .int .i64 0] := by kernel_rfl
theorem tPlaces29 : tPlaces Tryz.prog 29 = some [(0, 1), (1, 1), (2, 1), (3, 1)] := by kernel_rfl
theorem tFld29_0 : tFld Tryz.prog 29 0 = some (0, 3) := by kernel_rfl
theorem tFld29_1 : tFld Tryz.prog 29 1 = some (1, 3) := by kernel_rfl
theorem tFld29_2 : tFld Tryz.prog 29 2 = some (2, 3) := by kernel_rfl
theorem tFld29_3 : tFld Tryz.prog 29 3 = some (3, 3) := by kernel_rfl
theorem tGuard29 : Tryz.prog.eqGuardType Tryz.prog.depth 29 = false := by kernel_rfl
theorem tEq29 (a0 a1 a2 a3 b0 b1 b2 b3 : Int) : aEq Tryz.prog 20 29 [.int .i64 a0, .int .i64 a1, .int .i64 a2, .int .i64 a3] [.int .i64 b0, .int .i64 b1, .int .i64 b2, .int .i64 b3] = some ((a0 == b0) && ((a1 == b1) && ((a2 == b2) && ((a3 == b3) && true)))) := by kernel_rfl
theorem tAgg30 : tAgg Tryz.prog 30 = some true := by kernel_rfl
theorem tSz30 : tSz Tryz.prog 30 = some 4 := by kernel_rfl
theorem tBytes30 : tBytes Tryz.prog 30 = some 32 := by kernel_rfl
theorem tZero30 : tZero Tryz.prog 30 = some [.int .i64 0, .int .i64 0, .int .i64 0, .int .i64 0] := by kernel_rfl
theorem tPlaces30 : tPlaces Tryz.prog 30 = some [(0, 1), (1, 1), (2, 1), (3, 1)] := by kernel_rfl
theorem tFld30_0 : tFld Tryz.prog 30 0 = some (0, 3) := by kernel_rfl
theorem tFld30_1 : tFld Tryz.prog 30 1 = some (1, 3) := by kernel_rfl
theorem tFld30_2 : tFld Tryz.prog 30 2 = some (2, 3) := by kernel_rfl
theorem tFld30_3 : tFld Tryz.prog 30 3 = some (3, 3) := by kernel_rfl
theorem tGuard30 : Tryz.prog.eqGuardType Tryz.prog.depth 30 = false := by kernel_rfl
theorem tEq30 (a0 a1 a2 a3 b0 b1 b2 b3 : Int) : aEq Tryz.prog 20 30 [.int .i64 a0, .int .i64 a1, .int .i64 a2, .int .i64 a3] [.int .i64 b0, .int .i64 b1, .int .i64 b2, .int .i64 b3] = some ((a0 == b0) && ((a1 == b1) && ((a2 == b2) && ((a3 == b3) && true)))) := by kernel_rfl
theorem tAgg31 : tAgg Tryz.prog 31 = some false := by kernel_rfl
theorem tSz31 : tSz Tryz.prog 31 = some 1 := by kernel_rfl
theorem tBytes31 : tBytes Tryz.prog 31 = some 24 := by kernel_rfl
theorem tZero31 : tZero Tryz.prog 31 = some [.sl none 0 (some 0)] := by kernel_rfl
theorem tElem31 : tElem Tryz.prog 31 = some 3 := by kernel_rfl
theorem tIsSlice31 : tIsSlice Tryz.prog 31 = true := by kernel_rfl
theorem tAgg32 : tAgg Tryz.prog 32 = some true := by kernel_rfl
theorem tSz32 : tSz Tryz.prog 32 = some 8 := by kernel_rfl
theorem tBytes32 : tBytes Tryz.prog 32 = some 96 := by kernel_rfl
theorem tZero32 : tZero Tryz.prog 32 = some [.int .i64 0, .int .i64 0, .int .i64 0, .int .i64 0, .int .i64 0, .int .i64 0, .sl none 0 (some 0), .sl none 0 (some 0)] := by kernel_rfl
theorem tPlaces32 : tPlaces Tryz.prog 32 = some [(0, 2), (2, 4), (6, 1), (7, 1)] := by kernel_rfl
theorem tFld32_0 : tFld Tryz.prog 32 0 = some (0, 28) := by kernel_rfl
theorem tFld32_1 : tFld Tryz.prog 32 1 = some (2, 30) := by kernel_rfl
theorem tFld32_2 : tFld Tryz.prog 32 2 = some (6, 31) := by kernel_rfl
theorem tFld32_3 : tFld Tryz.prog 32 3 = some (7, 31) := by kernel_rfl
theorem tGuard32 : Tryz.prog.eqGuardType Tryz.prog.depth 32 = false := by kernel_rfl
theorem tAgg33 : tAgg Tryz.prog 33 = some true := by kernel_rfl
theorem tSz33 : tSz Tryz.prog 33 = some 8 := by kernel_rfl
theorem tBytes33 : tBytes Tryz.prog 33 = some 96 := by kernel_rfl
theorem tZero33 : tZero Tryz.prog 33 = some [.int .i64 0, .int .i64 0, .int .i64 0, .int .i64 0, .int .i64 0, .int .i64 0, .sl none 0 (some 0), .sl none 0 (some 0)] := by kernel_rfl
theorem tPlaces33 : tPlaces Tryz.prog 33 = some [(0, 2), (2, 4), (6, 1), (7, 1)] := by kernel_rfl
theorem tFld33_0 : tFld Tryz.prog 33 0 = some (0, 28) := by kernel_rfl
theorem tFld33_1 : tFld Tryz.prog 33 1 = some (2, 30) := by kernel_rfl
theorem tFld33_2 : tFld Tryz.prog 33 2 = some (6, 31) := by kernel_rfl
theorem tFld33_3 : tFld Tryz.prog 33 3 = some (7, 31) := by kernel_rfl
theorem tGuard33 : Tryz.prog.eqGuardType Tryz.prog.depth 33 = false := by kernel_rfl
theorem tAgg38 : tAgg Tryz.prog 38 = some false := by kernel_rfl
theorem tSz38 : tSz Tryz.prog 38 = some 1 := by kernel_rfl
theorem tBytes38 : tBytes Tryz.prog 38 = some 24 := by kernel_rfl
theorem tZero38 : tZero Tryz.prog 38 = some [.sl none 0 (some 0)] := by kernel_rfl
theorem tElem38 : tElem Tryz.prog 38 = some 51 := by kernel_rfl
theorem tIsSlice38 : tIsSlice Tryz.prog 38 = true := by kernel_rfl
theorem tAgg39 : tAgg Tryz.prog 39 = some false := by kernel_rfl
theorem tSz39 : tSz Tryz.prog 39 = some 1 := by kernel_rfl
theorem tBytes39 : tBytes Tryz.prog 39 = some 8 := by kernel_rfl
theorem tZero39 : tZero Tryz.prog 39 = some [.int .i64 0] := by kernel_rfl
theorem tInt39 : tInt Tryz.prog 39 = some .i64 := by kernel_rfl
theorem tUnd39 : Tryz.prog.underlying 39 = some (.int .i64) := by kernel_rfl
theorem tAgg44 : tAgg Tryz.prog 44 = some true := by kernel_rfl
theorem tSz44 : tSz Tryz.prog 44 = some 6 := by kernel_rfl
theorem tBytes44 : tBytes Tryz.prog 44 = some 48 := by kernel_rfl
theorem tZero44 : tZero Tryz.prog 44 = some [.int .i64 0, .int .i64 0, .int .i64 0, .int .i64 0, .int .i64 0, .int .i64 0] := by kernel_rfl
theorem tPlaces44 : tPlaces Tryz.prog 44 = some [(0, 1), (1, 1), (2, 1), (3, 1), (4, 1), (5, 1)] := by kernel_rfl
theorem tFld44_0 : tFld Tryz.prog 44 0 = some (0, 3) := by kernel_rfl
theorem tFld44_1 : tFld Tryz.prog 44 1 = some (1, 3) := by kernel_rfl
theorem tFld44_2 : tFld Tryz.prog 44 2 = some (2, 3) := by kernel_rfl
theorem tFld44_3 : tFld Tryz.prog 44 3 = some (3, 3) := by kernel_rfl
theorem tFld44_4 : tFld Tryz.prog 44 4 = some (4, 3) := by kernel_rfl
theorem tFld44_5 : tFld Tryz.prog 44 5 = some (5, 3) := by kernel_rfl
theorem tGuard44 : Tryz.prog.eqGuardType Tryz.prog.depth 44 = false := by kernel_rfl
theorem tEq44 (a0 a1 a2 a3 a4 a5 b0 b1 b2 b3 b4 b5 : Int) : aEq Tryz.prog 20 44 [.int .i64 a0, .int .i64 a1, .int .i64 a2, .int .i64 a3, .int .i64 a4, .int .i64 a5] [.int .i64 b0, .int .i64 b1, .int .i64 b2, .int .i64 b3, .int .i64 b4, .int .i64 b5] = some ((a0 == b0) && ((a1 == b1) && ((a2 == b2) && ((a3 == b3) && ((a4 == b4) && ((a5 == b5) && true)))))) := by kernel_rfl
theorem tAgg45 : tAgg Tryz.prog 45 = some true := by kernel_rfl
theorem tSz45 : tSz Tryz.prog 45 = some 6 := by kernel_rfl
theorem tBytes45 : tBytes Tryz.prog 45 = some 48 := by kernel_rfl
theorem tZero45 : tZero Tryz.prog 45 = some [.int .i64 0, .int .i64 0, .int .i64 0, .int .i64 0, .int .i64 0, .int .i64 0] := by kernel_rfl
theorem tPlaces45 : tPlaces Tryz.prog 45 = some [(0, 1), (1, 1), (2, 1), (3, 1), (4, 1), (5, 1)] := by kernel_rfl
theorem tFld45_0 : tFld Tryz.prog 45 0 = some (0, 3) := by kernel_rfl
theorem tFld45_1 : tFld Tryz.prog 45 1 = some (1, 3) := by kernel_rfl
theorem tFld45_2 : tFld Tryz.prog 45 2 = some (2, 3) := by kernel_rfl
theorem tFld45_3 : tFld Tryz.prog 45 3 = some (3, 3) := by kernel_rfl
theorem tFld45_4 : tFld Tryz.prog 45 4 = some (4, 3) := by kernel_rfl
theorem tFld45_5 : tFld Tryz.prog 45 5 = some (5, 3) := by kernel_rfl
theorem tGuard45 : Tryz.prog.eqGuardType Tryz.prog.depth 45 = false := by kernel_rfl
theorem tEq45 (a0 a1 a2 a3 a4 a5 b0 b1 b2 b3 b4 b5 : Int) : aEq Tryz.prog 20 45 [.int .i64 a0, .int .i64 a1, .int .i64 a2, .int .i64 a3, .int .i64 a4, .int .i64 a5] [.int .i64 b0, .int .i64 b1, .int .i64 b2, .int .i64 b3, .int .i64 b4, .int .i64 b5] = some ((a0 == b0) && ((a1 == b1) && ((a2 == b2) && ((a3 == b3) && ((a4 == b4) && ((a5 == b5) && true)))))) := by kernel_rfl
theorem tAgg47 : tAgg Tryz.prog 47 = some false := by kernel_rfl
theorem tSz47 : tSz Tryz.prog 47 = some 1 := by kernel_rfl
theorem tBytes47 : tBytes Tryz.prog 47 = some 24 := by kernel_rfl
theorem tZero47 : tZero Tryz.prog 47 = some [.sl none 0 (some 0)] := by kernel_rfl
theorem tElem47 : tElem Tryz.prog 47 = some 45 := by kernel_rfl
theorem tIsSlice47 : tIsSlice Tryz.prog 47 = true := by kernel_rfl
theorem tAgg50 : tAgg Tryz.prog 50 = some true := by kernel_rfl
theorem tSz50 : tSz Tryz.prog 50 = some 2 := by kernel_rfl
theorem tBytes50 : tBytes Tryz.prog 50 = some 16 := by kernel_rfl
theorem tZero50 : tZero Tryz.prog 50 = some [.int .i64 0, .int .i64 0] := by kernel_rfl
theorem tPlaces50 : tPlaces Tryz.prog 50 = some [(0, 1), (1, 1)] := by kernel_rfl
theorem tFld50_0 : tFld Tryz.prog 50 0 = some (0, 3) := by kernel_rfl
theorem tFld50_1 : tFld Tryz.prog 50 1 = some (1, 3) := by kernel_rfl
theorem tGuard50 : Tryz.prog.eqGuardType Tryz.prog.depth 50 = false := by kernel_rfl
theorem tEq50 (a0 a1 b0 b1 : Int) : aEq Tryz.prog 20 50 [.int .i64 a0, .int .i64 a1] [.int .i64 b0, .int .i64 b1] = some ((a0 == b0) && ((a1 == b1) && true)) := by kernel_rfl
theorem tAgg51 : tAgg Tryz.prog 51 = some true := by kernel_rfl
theorem tSz51 : tSz Tryz.prog 51 = some 2 := by kernel_rfl
theorem tBytes51 : tBytes Tryz.prog 51 = some 16 := by kernel_rfl
theorem tZero51 : tZero Tryz.prog 51 = some [.int .i64 0, .int .i64 0] := by kernel_rfl
theorem tPlaces51 : tPlaces Tryz.prog 51 = some [(0, 1), (1, 1)] := by kernel_rfl
theorem tFld51_0 : tFld Tryz.prog 51 0 = some (0, 3) := by kernel_rfl
theorem tFld51_1 : tFld Tryz.prog 51 1 = some (1, 3) := by kernel_rfl
theorem tGuard51 : Tryz.prog.eqGuardType Tryz.prog.depth 51 = false := by kernel_rfl
theorem tEq51 (a0 a1 b0 b1 : Int) : aEq Tryz.prog 20 51 [.int .i64 a0, .int .i64 a1] [.int .i64 b0, .int .i64 b1] = some ((a0 == b0) && ((a1 == b1) && true)) := by kernel_rfl
theorem tAgg52 : tAgg Tryz.prog 52 = some false := by kernel_rfl
theorem tSz52 : tSz Tryz.prog 52 = some 1 := by kernel_rfl
theorem tBytes52 : tBytes Tryz.prog 52 = some 24 := by kernel_rfl
theorem tZero52 : tZero Tryz.prog 52 = some [.sl none 0 (some 0)] := by kernel_rfl
theorem tElem52 : tElem Tryz.prog 52 = some 58 := by kernel_rfl
theorem tIsSlice52 : tIsSlice Tryz.prog 52 = true := by kernel_rfl
theorem tAgg57 : tAgg Tryz.prog 57 = some true := by kernel_rfl
theorem tSz57 : tSz Tryz.prog 57 = some 2 := by kernel_rfl
theorem tBytes57 : tBytes Tryz.prog 57 = some 16 := by kernel_rfl
theorem tZero57 : tZero Tryz.prog 57 = some [.int .i64 0, .int .i64 0] := by kernel_rfl
theorem tPlaces57 : tPlaces Tryz.prog 57 = some [(0, 1), (1, 1)] := by kernel_rfl
theorem tFld57_0 : tFld Tryz.prog 57 0 = some (0, 3) := by kernel_rfl
theorem tFld57_1 : tFld Tryz.prog 57 1 = some (1, 3) := by kernel_rfl
theorem tGuard57 : Tryz.prog.eqGuardType Tryz.prog.depth 57 = false := by kernel_rfl
theorem tEq57 (a0 a1 b0 b1 : Int) : aEq Tryz.prog 20 57 [.int .i64 a0, .int .i64 a1] [.int .i64 b0, .int .i64 b1] = some ((a0 == b0) && ((a1 == b1) && true)) := by kernel_rfl
theorem tAgg58 : tAgg Tryz.prog 58 = some true := by kernel_rfl
theorem tSz58 : tSz Tryz.prog 58 = some 2 := by kernel_rfl
theorem tBytes58 : tBytes Tryz.prog 58 = some 16 := by kernel_rfl
theorem tZero58 : tZero Tryz.prog 58 = some [.int .i64 0, .int .i64 0] := by kernel_rfl
theorem tPlaces58 : tPlaces Tryz.prog 58 = some [(0, 1), (1, 1)] := by kernel_rfl
theorem tFld58_0 : tFld Tryz.prog 58 0 = some (0, 3) := by kernel_rfl
theorem tFld58_1 : tFld Tryz.prog 58 1 = some (1, 3) := by kernel_rfl
theorem tGuard58 : Tryz.prog.eqGuardType Tryz.prog.depth 58 = false := by kernel_rfl
theorem tEq58 (a0 a1 b0 b1 : Int) : aEq Tryz.prog 20 58 [.int .i64 a0, .int .i64 a1] [.int .i64 b0, .int .i64 b1] = some ((a0 == b0) && ((a1 == b1) && true)) := by kernel_rfl
theorem tAgg59 : tAgg Tryz.prog 59 = some true := by kernel_rfl
theorem tSz59 : tSz Tryz.prog 59 = some 10 := by kernel_rfl
theorem tBytes59 : tBytes Tryz.prog 59 = some 144 := by kernel_rfl
theorem tZero59 : tZero Tryz.prog 59 = some [.int .i64 0, .int .i64 0, .sl none 0 (some 0), .int .i64 0, .int .i64 0, .int .i64 0, .sl none 0 (some 0), .sl none 0 (some 0), .sl none 0 (some 0), .int .i64 0] := by kernel_rfl
theorem tPlaces59 : tPlaces Tryz.prog 59 = some [(0, 3), (3, 3), (6, 1), (7, 1), (8, 1), (9, 1)] := by kernel_rfl
theorem tFld59_0 : tFld Tryz.prog 59 0 = some (0, 24) := by kernel_rfl
theorem tFld59_1 : tFld Tryz.prog 59 1 = some (3, 26) := by kernel_rfl
theorem tFld59_2 : tFld Tryz.prog 59 2 = some (6, 22) := by kernel_rfl
theorem tFld59_3 : tFld Tryz.prog 59 3 = some (7, 31) := by kernel_rfl
theorem tFld59_4 : tFld Tryz.prog 59 4 = some (8, 31) := by kernel_rfl
theorem tFld59_5 : tFld Tryz.prog 59 5 = some (9, 3) := by kernel_rfl
theorem tGuard59 : Tryz.prog.eqGuardType Tryz.prog.depth 59 = false := by kernel_rfl
theorem tAgg60 : tAgg Tryz.prog 60 = some true := by kernel_rfl
theorem tSz60 : tSz Tryz.prog 60 = some 10 := by kernel_rfl
theorem tBytes60 : tBytes Tryz.prog 60 = some 144 := by kernel_rfl
theorem tZero60 : tZero Tryz.prog 60 = some [.int .i64 0, .int .i64 0, .sl none 0 (some 0), .int .i64 0, .int .i64 0, .int .i64 0, .sl none 0 (some 0), .sl none 0 (some 0), .sl none 0 (some 0), .int .i64 0] := by kernel_rfl
theorem tPlaces60 : tPlaces Tryz.prog 60 = some [(0, 3), (3, 3), (6, 1), (7, 1), (8, 1), (9, 1)] := by kernel_rfl
theorem tFld60_0 : tFld Tryz.prog 60 0 = some (0, 24) := by kernel_rfl
theorem tFld60_1 : tFld Tryz.prog 60 1 = some (3, 26) := by kernel_rfl
theorem tFld60_2 : tFld Tryz.prog 60 2 = some (6, 22) := by kernel_rfl
theorem tFld60_3 : tFld Tryz.prog 60 3 = some (7, 31) := by kernel_rfl
theorem tFld60_4 : tFld Tryz.prog 60 4 = some (8, 31) := by kernel_rfl
theorem tFld60_5 : tFld Tryz.prog 60 5 = some (9, 3) := by kernel_rfl
theorem tGuard60 : Tryz.prog.eqGuardType Tryz.prog.depth 60 = false := by kernel_rfl
theorem tAgg71 : tAgg Tryz.prog 71 = some true := by kernel_rfl
theorem tSz71 : tSz Tryz.prog 71 = some 4 := by kernel_rfl
theorem tBytes71 : tBytes Tryz.prog 71 = some 32 := by kernel_rfl
theorem tZero71 : tZero Tryz.prog 71 = some [.int .i64 0, .int .i64 0, .int .i64 0, .int .i64 0] := by kernel_rfl
theorem tPlaces71 : tPlaces Tryz.prog 71 = some [(0, 1), (1, 1), (2, 1), (3, 1)] := by kernel_rfl
theorem tFld71_0 : tFld Tryz.prog 71 0 = some (0, 3) := by kernel_rfl
theorem tFld71_1 : tFld Tryz.prog 71 1 = some (1, 3) := by kernel_rfl
theorem tFld71_2 : tFld Tryz.prog 71 2 = some (2, 3) := by kernel_rfl
theorem tFld71_3 : tFld Tryz.prog 71 3 = some (3, 3) := by kernel_rfl
theorem tGuard71 : Tryz.prog.eqGuardType Tryz.prog.depth 71 = false := by kernel_rfl
theorem tEq71 (a0 a1 a2 a3 b0 b1 b2 b3 : Int) : aEq Tryz.prog 20 71 [.int .i64 a0, .int .i64 a1, .int .i64 a2, .int .i64 a3] [.int .i64 b0, .int .i64 b1, .int .i64 b2, .int .i64 b3] = some ((a0 == b0) && ((a1 == b1) && ((a2 == b2) && ((a3 == b3) && true)))) := by kernel_rfl
theorem tAgg72 : tAgg Tryz.prog 72 = some true := by kernel_rfl
theorem tSz72 : tSz Tryz.prog 72 = some 4 := by kernel_rfl
theorem tBytes72 : tBytes Tryz.prog 72 = some 32 := by kernel_rfl
theorem tZero72 : tZero Tryz.prog 72 = some [.int .i64 0, .int .i64 0, .int .i64 0, .int .i64 0] := by kernel_rfl
theorem tPlaces72 : tPlaces Tryz.prog 72 = some [(0, 1), (1, 1), (2, 1), (3, 1)] := by kernel_rfl
theorem tFld72_0 : tFld Tryz.prog 72 0 = some (0, 3) := by kernel_rfl
theorem tFld72_1 : tFld Tryz.prog 72 1 = some (1, 3) := by kernel_rfl
theorem tFld72_2 : tFld Tryz.prog 72 2 = some (2, 3) := by kernel_rfl
theorem tFld72_3 : tFld Tryz.prog 72 3 = some (3, 3) := by kernel_rfl
theorem tGuard72 : Tryz.prog.eqGuardType Tryz.prog.depth 72 = false := by kernel_rfl
theorem tEq72 (a0 a1 a2 a3 b0 b1 b2 b3 : Int) : aEq Tryz.prog 20 72 [.int .i64 a0, .int .i64 a1, .int .i64 a2, .int .i64 a3] [.int .i64 b0, .int .i64 b1, .int .i64 b2, .int .i64 b3] = some ((a0 == b0) && ((a1 == b1) && ((a2 == b2) && ((a3 == b3) && true)))) := by kernel_rfl
theorem tAgg73 : tAgg Tryz.prog 73 = some true := by kernel_rfl
theorem tSz73 : tSz Tryz.prog 73 = some 10 := by kernel_rfl
theorem tBytes73 : tBytes Tryz.prog 73 = some 96 := by kernel_rfl
theorem tZero73 : tZero Tryz.prog 73 = some [.int .i64 0, .int .i64 0, .sl none 0 (some 0), .int .i64 0, .int .i64 0, .int .i64 0, .int .i64 0, .int .i64 0, .int .i64 0, .int .i64 0] := by kernel_rfl
theorem tPlaces73 : tPlaces Tryz.prog 73 = some [(0, 3), (3, 4), (7, 3)] := by kernel_rfl
theorem tFld73_0 : tFld Tryz.prog 73 0 = some (0, 24) := by kernel_rfl
theorem tFld73_1 : tFld Tryz.prog 73 1 = some (3, 72) := by kernel_rfl
theorem tFld73_2 : tFld Tryz.prog 73 2 = some (7, 26) := by kernel_rfl
theorem tGuard73 : Tryz.prog.eqGuardType Tryz.prog.depth 73 = false := by kernel_rfl
theorem tAgg74 : tAgg Tryz.prog 74 = some true := by kernel_rfl
theorem tSz74 : tSz Tryz.prog 74 = some 10 := by kernel_rfl
theorem tBytes74 : tBytes Tryz.prog 74 = some 96 := by kernel_rfl
theorem tZero74 : tZero Tryz.prog 74 = some [.int .i64 0, .int .i64 0, .sl none 0 (some 0), .int .i64 0, .int .i64 0, .int .i64 0, .int .i64 0, .int .i64 0, .int .i64 0, .int .i64 0] := by kernel_rfl
theorem tPlaces74 : tPlaces Tryz.prog 74 = some [(0, 3), (3, 4), (7, 3)] := by kernel_rfl
theorem tFld74_0 : tFld Tryz.prog 74 0 = some (0, 24) := by kernel_rfl
theorem tFld74_1 : tFld Tryz.prog 74 1 = some (3, 72) := by kernel_rfl
theorem tFld74_2 : tFld Tryz.prog 74 2 = some (7, 26) := by kernel_rfl
theorem tGuard74 : Tryz.prog.eqGuardType Tryz.prog.depth 74 = false := by kernel_rfl
theorem tAgg75 : tAgg Tryz.prog 75 = some true := by kernel_rfl
theorem tSz75 : tSz Tryz.prog 75 = some 2 := by kernel_rfl
theorem tBytes75 : tBytes Tryz.prog 75 = some 48 := by kernel_rfl
theorem tZero75 : tZero Tryz.prog 75 = some [.sl none 0 (some 0), .sl none 0 (some 0)] := by kernel_rfl
theorem tPlaces75 : tPlaces Tryz.prog 75 = some [(0, 1), (1, 1)] := by kernel_rfl
theorem tFld75_0 : tFld Tryz.prog 75 0 = some (0, 47) := by kernel_rfl
theorem tFld75_1 : tFld Tryz.prog 75 1 = some (1, 22) := by kernel_rfl
theorem tGuard75 : Tryz.prog.eqGuardType Tryz.prog.depth 75 = false := by kernel_rfl
theorem tAgg76 : tAgg Tryz.prog 76 = some true := by kernel_rfl
theorem tSz76 : tSz Tryz.prog 76 = some 2 := by kernel_rfl
theorem tBytes76 : tBytes Tryz.prog 76 = some 48 := by kernel_rfl
theorem tZero76 : tZero Tryz.prog 76 = some [.sl none 0 (some 0), .sl none 0 (some 0)] := by kernel_rfl
theorem tPlaces76 : tPlaces Tryz.prog 76 = some [(0, 1), (1, 1)] := by kernel_rfl
theorem tFld76_0 : tFld Tryz.prog 76 0 = some (0, 47) := by kernel_rfl
theorem tFld76_1 : tFld Tryz.prog 76 1 = some (1, 22) := by kernel_rfl
theorem tGuard76 : Tryz.prog.eqGuardType Tryz.prog.depth 76 = false := by kernel_rfl
theorem tAgg79 : tAgg Tryz.prog 79 = some true := by kernel_rfl
theorem tSz79 : tSz Tryz.prog 79 = some 2 := by kernel_rfl
theorem tBytes79 : tBytes Tryz.prog 79 = some 16 := by kernel_rfl
theorem tZero79 : tZero Tryz.prog 79 = some [.int .i64 0, .int .i64 0] := by kernel_rfl
theorem tPlaces79 : tPlaces Tryz.prog 79 = some [(0, 1), (1, 1)] := by kernel_rfl
theorem tFld79_0 : tFld Tryz.prog 79 0 = some (0, 3) := by kernel_rfl
theorem tFld79_1 : tFld Tryz.prog 79 1 = some (1, 3) := by kernel_rfl
theorem tGuard79 : Tryz.prog.eqGuardType Tryz.prog.depth 79 = false := by kernel_rfl
theorem tEq79 (a0 a1 b0 b1 : Int) : aEq Tryz.prog 20 79 [.int .i64 a0, .int .i64 a1] [.int .i64 b0, .int .i64 b1] = some ((a0 == b0) && ((a1 == b1) && true)) := by kernel_rfl
theorem tAgg84 : tAgg Tryz.prog 84 = some false := by kernel_rfl
theorem tSz84 : tSz Tryz.prog 84 = some 1 := by kernel_rfl
theorem tBytes84 : tBytes Tryz.prog 84 = some 24 := by kernel_rfl
theorem tZero84 : tZero Tryz.prog 84 = some [.sl none 0 (some 0)] := by kernel_rfl
theorem tElem84 : tElem Tryz.prog 84 = some 28 := by kernel_rfl
theorem tIsSlice84 : tIsSlice Tryz.prog 84 = true := by kernel_rfl
theorem tAgg93 : tAgg Tryz.prog 93 = some false := by kernel_rfl
theorem tSz93 : tSz Tryz.prog 93 = some 1 := by kernel_rfl
theorem tBytes93 : tBytes Tryz.prog 93 = some 24 := by kernel_rfl
theorem tZero93 : tZero Tryz.prog 93 = some [.sl none 0 (some 0)] := by kernel_rfl
theorem tElem93 : tElem Tryz.prog 93 = some 100 := by kernel_rfl
theorem tIsSlice93 : tIsSlice Tryz.prog 93 = true := by kernel_rfl
theorem tAgg94 : tAgg Tryz.prog 94 = some false := by kernel_rfl
theorem tSz94 : tSz Tryz.prog 94 = some 1 := by kernel_rfl
theorem tBytes94 : tBytes Tryz.prog 94 = some 8 := by kernel_rfl
theorem tZero94 : tZero Tryz.prog 94 = some [.ptr none] := by kernel_rfl
theorem tAgg97 : tAgg Tryz.prog 97 = some true := by kernel_rfl
theorem tSz97 : tSz Tryz.prog 97 = some 5 := by kernel_rfl
theorem tBytes97 : tBytes Tryz.prog 97 = some 56 := by kernel_rfl
theorem tZero97 : tZero Tryz.prog 97 = some [.int .i64 0, .int .i64 0, .int .i64 0, .bool false, .sl none 0 (some 0)] := by kernel_rfl
theorem tPlaces97 : tPlaces Tryz.prog 97 = some [(0, 1), (1, 2), (3, 1), (4, 1)] := by kernel_rfl
theorem tFld97_0 : tFld Tryz.prog 97 0 = some (0, 3) := by kernel_rfl
theorem tFld97_1 : tFld Tryz.prog 97 1 = some (1, 28) := by kernel_rfl
theorem tFld97_2 : tFld Tryz.prog 97 2 = some (3, 4) := by kernel_rfl
theorem tFld97_3 : tFld Tryz.prog 97 3 = some (4, 38) := by kernel_rfl
theorem tGuard97 : Tryz.prog.eqGuardType Tryz.prog.depth 97 = false := by kernel_rfl
theorem tAgg98 : tAgg Tryz.prog 98 = some true := by kernel_rfl
theorem tSz98 : tSz Tryz.prog 98 = some 5 := by kernel_rfl
theorem tBytes98 : tBytes Tryz.prog 98 = some 56 := by kernel_rfl
theorem tZero98 : tZero Tryz.prog 98 = some [.int .i64 0, .int .i64 0, .int .i64 0, .bool false, .sl none 0 (some 0)] := by kernel_rfl
theorem tPlaces98 : tPlaces Tryz.prog 98 = some [(0, 1), (1, 2), (3, 1), (4, 1)] := by kernel_rfl
theorem tFld98_0 : tFld Tryz.prog 98 0 = some (0, 3) := by kernel_rfl
theorem tFld98_1 : tFld Tryz.prog 98 1 = some (1, 28) := by kernel_rfl
theorem tFld98_2 : tFld Tryz.prog 98 2 = some (3, 4) := by kernel_rfl
theorem tFld98_3 : tFld Tryz.prog 98 3 = some (4, 38) := by kernel_rfl
theorem tGuard98 : Tryz.prog.eqGuardType Tryz.prog.depth 98 = false := by kernel_rfl
theorem tAgg99 : tAgg Tryz.prog 99 = some true := by kernel_rfl
theorem tSz99 : tSz Tryz.prog 99 = some 8 := by kernel_rfl
theorem tBytes99 : tBytes Tryz.prog 99 = some 80 := by kernel_rfl
theorem tZero99 : tZero Tryz.prog 99 = some [.int .i64 0, .int .i64 0, .int .i64 0, .bool false, .sl none 0 (some 0), .int .i64 0, .int .i64 0, .int .i64 0] := by kernel_rfl
theorem tPlaces99 : tPlaces Tryz.prog 99 = some [(0, 5), (5, 3)] := by kernel_rfl
theorem tFld99_0 : tFld Tryz.prog 99 0 = some (0, 98) := by kernel_rfl
theorem tFld99_1 : tFld Tryz.prog 99 1 = some (5, 26) := by kernel_rfl
theorem tGuard99 : Tryz.prog.eqGuardType Tryz.prog.depth 99 = false := by kernel_rfl
theorem tAgg100 : tAgg Tryz.prog 100 = some true := by kernel_rfl
theorem tSz100 : tSz Tryz.prog 100 = some 8 := by kernel_rfl
theorem tBytes100 : tBytes Tryz.prog 100 = some 80 := by kernel_rfl
theorem tZero100 : tZero Tryz.prog 100 = some [.int .i64 0, .int .i64 0, .int .i64 0, .bool false, .sl none 0 (some 0), .int .i64 0, .int .i64 0, .int .i64 0] := by kernel_rfl
theorem tPlaces100 : tPlaces Tryz.prog 100 = some [(0, 5), (5, 3)] := by kernel_rfl
theorem tFld100_0 : tFld Tryz.prog 100 0 = some (0, 98) := by kernel_rfl
theorem tFld100_1 : tFld Tryz.prog 100 1 = some (5, 26) := by kernel_rfl
theorem tGuard100 : Tryz.prog.eqGuardType Tryz.prog.depth 100 = false := by kernel_rfl
theorem tAgg108 : tAgg Tryz.prog 108 = some false := by kernel_rfl
theorem tSz108 : tSz Tryz.prog 108 = some 1 := by kernel_rfl
theorem tBytes108 : tBytes Tryz.prog 108 = some 24 := by kernel_rfl
theorem tZero108 : tZero Tryz.prog 108 = some [.sl none 0 (some 0)] := by kernel_rfl
theorem tElem108 : tElem Tryz.prog 108 = some 33 := by kernel_rfl
theorem tIsSlice108 : tIsSlice Tryz.prog 108 = true := by kernel_rfl
theorem tAgg110 : tAgg Tryz.prog 110 = some false := by kernel_rfl
theorem tSz110 : tSz Tryz.prog 110 = some 1 := by kernel_rfl
theorem tBytes110 : tBytes Tryz.prog 110 = some 24 := by kernel_rfl
theorem tZero110 : tZero Tryz.prog 110 = some [.sl none 0 (some 0)] := by kernel_rfl
theorem tElem110 : tElem Tryz.prog 110 = some 98 := by kernel_rfl
theorem tIsSlice110 : tIsSlice Tryz.prog 110 = true := by kernel_rfl
theorem tAgg111 : tAgg Tryz.prog 111 = some false := by kernel_rfl
theorem tSz111 : tSz Tryz.prog 111 = some 1 := by kernel_rfl
theorem tBytes111 : tBytes Tryz.prog 111 = some 24 := by kernel_rfl
theorem tZero111 : tZero Tryz.prog 111 = some [.sl none 0 (some 0)] := by kernel_rfl
theorem tElem111 : tElem Tryz.prog 111 = some 26 := by kernel_rfl
theorem tIsSlice111 : tIsSlice Tryz.prog 111 = true := by kernel_rfl
theorem tAgg117 : tAgg Tryz.prog 117 = some false := by kernel_rfl
theorem tSz117 : tSz Tryz.prog 117 = some 1 := by kernel_rfl
theorem tBytes117 : tBytes Tryz.prog 117 = some 8 := by kernel_rfl
theorem tZero117 : tZero Tryz.prog 117 = some [.ptr none] := by kernel_rfl
theorem tAgg138 : tAgg Tryz.prog 138 = some false := by kernel_rfl
theorem tSz138 : tSz Tryz.prog 138 = some 1 := by kernel_rfl
theorem tBytes138 : tBytes Tryz.prog 138 = some 8 := by kernel_rfl
theorem tZero138 : tZero Tryz.prog 138 = some [.ptr none] := by kernel_rfl
theorem tAgg161 : tAgg Tryz.prog 161 = some true := by kernel_rfl
theorem tSz161 : tSz Tryz.prog 161 = some 2 := by kernel_rfl
theorem tBytes161 : tBytes Tryz.prog 161 = some 16 := by kernel_rfl
theorem tZero161 : tZero Tryz.prog 161 = some [.int .i64 0, .int .i64 0] := by kernel_rfl
theorem tPlaces161 : tPlaces Tryz.prog 161 = some [(0, 1), (1, 1)] := by kernel_rfl
theorem tFld161_0 : tFld Tryz.prog 161 0 = some (0, 3) := by kernel_rfl
theorem tFld161_1 : tFld Tryz.prog 161 1 = some (1, 3) := by kernel_rfl
theorem tGuard161 : Tryz.prog.eqGuardType Tryz.prog.depth 161 = false := by kernel_rfl
theorem tEq161 (a0 a1 b0 b1 : Int) : aEq Tryz.prog 20 161 [.int .i64 a0, .int .i64 a1] [.int .i64 b0, .int .i64 b1] = some ((a0 == b0) && ((a1 == b1) && true)) := by kernel_rfl
theorem tAgg162 : tAgg Tryz.prog 162 = some true := by kernel_rfl
theorem tSz162 : tSz Tryz.prog 162 = some 2 := by kernel_rfl
theorem tBytes162 : tBytes Tryz.prog 162 = some 16 := by kernel_rfl
theorem tZero162 : tZero Tryz.prog 162 = some [.int .i64 0, .int .i64 0] := by kernel_rfl
theorem tPlaces162 : tPlaces Tryz.prog 162 = some [(0, 1), (1, 1)] := by kernel_rfl
theorem tFld162_0 : tFld Tryz.prog 162 0 = some (0, 3) := by kernel_rfl
theorem tFld162_1 : tFld Tryz.prog 162 1 = some (1, 3) := by kernel_rfl
theorem tGuard162 : Tryz.prog.eqGuardType Tryz.prog.depth 162 = false := by kernel_rfl
theorem tEq162 (a0 a1 b0 b1 : Int) : aEq Tryz.prog 20 162 [.int .i64 a0, .int .i64 a1] [.int .i64 b0, .int .i64 b1] = some ((a0 == b0) && ((a1 == b1) && true)) := by kernel_rfl
theorem tAgg167 : tAgg Tryz.prog 167 = some true := by kernel_rfl
theorem tSz167 : tSz Tryz.prog 167 = some 4 := by kernel_rfl
theorem tBytes167 : tBytes Tryz.prog 167 = some 32 := by kernel_rfl
theorem tZero167 : tZero Tryz.prog 167 = some [.int .i64 0, .int .i64 0, .int .i64 0, .int .i64 0] := by kernel_rfl
theorem tPlaces167 : tPlaces Tryz.prog 167 = some [(0, 1), (1, 1), (2, 1), (3, 1)] := by kernel_rfl
theorem tFld167_0 : tFld Tryz.prog 167 0 = some (0, 3) := by kernel_rfl
theorem tFld167_1 : tFld Tryz.prog 167 1 = some (1, 3) := by kernel_rfl
theorem tFld167_2 : tFld Tryz.prog 167 2 = some (2, 3) := by kernel_rfl
theorem tFld167_3 : tFld Tryz.prog 167 3 = some (3, 3) := by kernel_rfl
theorem tGuard167 : Tryz.prog.eqGuardType Tryz.prog.depth 167 = false := by kernel_rfl
theorem tEq167 (a0 a1 a2 a3 b0 b1 b2 b3 : Int) : aEq Tryz.prog 20 167 [.int .i64 a0, .int .i64 a1, .int .i64 a2, .int .i64 a3] [.int .i64 b0, .int .i64 b1, .int .i64 b2, .int .i64 b3] = some ((a0 == b0) && ((a1 == b1) && ((a2 == b2) && ((a3 == b3) && true)))) := by kernel_rfl
theorem tAgg168 : tAgg Tryz.prog 168 = some true := by kernel_rfl
theorem tSz168 : tSz Tryz.prog 168 = some 4 := by kernel_rfl
theorem tBytes168 : tBytes Tryz.prog 168 = some 32 := by kernel_rfl
theorem tZero168 : tZero Tryz.prog 168 = some [.int .i64 0, .int .i64 0, .int .i64 0, .int .i64 0] := by kernel_rfl
theorem tPlaces168 : tPlaces Tryz.prog 168 = some [(0, 1), (1, 1), (2, 1), (3, 1)] := by kernel_rfl
theorem tFld168_0 : tFld Tryz.prog 168 0 = some (0, 3) := by kernel_rfl
theorem tFld168_1 : tFld Tryz.prog 168 1 = some (1, 3) := by kernel_rfl
theorem tFld168_2 : tFld Tryz.prog 168 2 = some (2, 3) := by kernel_rfl
theorem tFld168_3 : tFld Tryz.prog 168 3 = some (3, 3) := by kernel_rfl
theorem tGuard168 : Tryz.prog.eqGuardType Tryz.prog.depth 168 = false := by kernel_rfl
theorem tEq168 (a0 a1 a2 a3 b0 b1 b2 b3 : Int) : aEq Tryz.prog 20 168 [.int .i64 a0, .int .i64 a1, .int .i64 a2, .int .i64 a3] [.int .i64 b0, .int .i64 b1, .int .i64 b2, .int .i64 b3] = some ((a0 == b0) && ((a1 == b1) && ((a2 == b2) && ((a3 == b3) && true)))) := by kernel_rfl
theorem tAgg185 : tAgg Tryz.prog 185 = some true := by kernel_rfl
theorem tSz185 : tSz Tryz.prog 185 = some 9 := by kernel_rfl
theorem tBytes185 : tBytes Tryz.prog 185 = some 104 := by kernel_rfl
theorem tZero185 : tZero Tryz.prog 185 = some [.int .i64 0, .int .i64 0, .sl none 0 (some 0), .sl none 0 (some 0), .int .i64 0, .int .i64 0, .int .i64 0, .int .i64 0, .bool false] := by kernel_rfl
theorem tPlaces185 : tPlaces Tryz.prog 185 = some [(0, 3), (3, 1), (4, 4), (8, 1)] := by kernel_rfl
theorem tFld185_0 : tFld Tryz.prog 185 0 = some (0, 24) := by kernel_rfl
theorem tFld185_1 : tFld Tryz.prog 185 1 = some (3, 47) := by kernel_rfl
theorem tFld185_2 : tFld Tryz.prog 185 2 = some (4, 72) := by kernel_rfl
theorem tFld185_3 : tFld Tryz.prog 185 3 = some (8, 4) := by kernel_rfl
theorem tGuard185 : Tryz.prog.eqGuardType Tryz.prog.depth 185 = false := by kernel_rfl
theorem tAgg186 : tAgg Tryz.prog 186 = some true := by kernel_rfl
theorem tSz186 : tSz Tryz.prog 186 = some 9 := by kernel_rfl
theorem tBytes186 : tBytes Tryz.prog 186 = some 104 := by kernel_rfl
theorem tZero186 : tZero Tryz.prog 186 = some [.int .i64 0, .int .i64 0, .sl none 0 (some 0), .sl none 0 (some 0), .int .i64 0, .int .i64 0, .int .i64 0, .int .i64 0, .bool false] := by kernel_rfl
theorem tPlaces186 : tPlaces Tryz.prog 186 = some [(0, 3), (3, 1), (4, 4), (8, 1)] := by kernel_rfl
theorem tFld186_0 : tFld Tryz.prog 186 0 = some (0, 24) := by kernel_rfl
theorem tFld186_1 : tFld Tryz.prog 186 1 = some (3, 47) := by kernel_rfl
theorem tFld186_2 : tFld Tryz.prog 186 2 = some (4, 72) := by kernel_rfl
theorem tFld186_3 : tFld Tryz.prog 186 3 = some (8, 4) := by kernel_rfl
theorem tGuard186 : Tryz.prog.eqGuardType Tryz.prog.depth 186 = false := by kernel_rfl
theorem tAgg191 : tAgg Tryz.prog 191 = some false := by kernel_rfl
theorem tSz191 : tSz Tryz.prog 191 = some 1 := by kernel_rfl
theorem tBytes191 : tBytes Tryz.prog 191 = some 8 := by kernel_rfl
theorem tZero191 : tZero Tryz.prog 191 = some [.ptr none] := by kernel_rfl
theorem tAgg198 : tAgg Tryz.prog 198 = some true := by kernel_rfl
theorem tSz198 : tSz Tryz.prog 198 = some 9 := by kernel_rfl
theorem tBytes198 : tBytes Tryz.prog 198 = some 104 := by kernel_rfl
theorem tZero198 : tZero Tryz.prog 198 = some [.int .i64 0, .int .i64 0, .sl none 0 (some 0), .sl none 0 (some 0), .int .i64 0, .int .i64 0, .int .i64 0, .int .i64 0, .bool false] := by kernel_rfl
theorem tPlaces198 : tPlaces Tryz.prog 198 = some [(0, 3), (3, 1), (4, 4), (8, 1)] := by kernel_rfl
theorem tFld198_0 : tFld Tryz.prog 198 0 = some (0, 24) := by kernel_rfl
theorem tFld198_1 : tFld Tryz.prog 198 1 = some (3, 47) := by kernel_rfl
theorem tFld198_2 : tFld Tryz.prog 198 2 = some (4, 72) := by kernel_rfl
theorem tFld198_3 : tFld Tryz.prog 198 3 = some (8, 4) := by kernel_rfl
theorem tGuard198 : Tryz.prog.eqGuardType Tryz.prog.depth 198 = false := by kernel_rfl
theorem tAgg199 : tAgg Tryz.prog 199 = some true := by kernel_rfl
theorem tSz199 : tSz Tryz.prog 199 = some 9 := by kernel_rfl
theorem tBytes199 : tBytes Tryz.prog 199 = some 104 := by kernel_rfl
theorem tZero199 : tZero Tryz.prog 199 = some [.int .i64 0, .int .i64 0, .sl none 0 (some 0), .sl none 0 (some 0), .int .i64 0, .int .i64 0, .int .i64 0, .int .i64 0, .bool false] := by kernel_rfl
theorem tPlaces199 : tPlaces Tryz.prog 199 = some [(0, 3), (3, 1), (4, 4), (8, 1)] := by kernel_rfl
theorem tFld199_0 : tFld Tryz.prog 199 0 = some (0, 24) := by kernel_rfl
theorem tFld199_1 : tFld Tryz.prog 199 1 = some (3, 47) := by kernel_rfl
theorem tFld199_2 : tFld Tryz.prog 199 2 = some (4, 72) := by kernel_rfl
theorem tFld199_3 : tFld Tryz.prog 199 3 = some (8, 4) := by kernel_rfl
theorem tGuard199 : Tryz.prog.eqGuardType Tryz.prog.depth 199 = false := by kernel_rfl
theorem tAgg200 : tAgg Tryz.prog 200 = some true := by kernel_rfl
theorem tSz200 : tSz Tryz.prog 200 = some 12 := by kernel_rfl
theorem tBytes200 : tBytes Tryz.prog 200 = some 112 := by kernel_rfl
theorem tZero200 : tZero Tryz.prog 200 = some [.int .i64 0, .int .i64 0, .sl none 0 (some 0), .int .i64 0, .int .i64 0, .int .i64 0, .int .i64 0, .int .i64 0, .int .i64 0, .int .i64 0, .int .i64 0, .int .i64 0] := by kernel_rfl
theorem tPlaces200 : tPlaces Tryz.prog 200 = some [(0, 3), (3, 4), (7, 3), (10, 1), (11, 1)] := by kernel_rfl
theorem tFld200_0 : tFld Tryz.prog 200 0 = some (0, 24) := by kernel_rfl
theorem tFld200_1 : tFld Tryz.prog 200 1 = some (3, 72) := by kernel_rfl
theorem tFld200_2 : tFld Tryz.prog 200 2 = some (7, 26) := by kernel_rfl
theorem tFld200_3 : tFld Tryz.prog 200 3 = some (10, 3) := by kernel_rfl
theorem tFld200_4 : tFld Tryz.prog 200 4 = some (11, 3) := by kernel_rfl
theorem tGuard200 : Tryz.prog.eqGuardType Tryz.prog.depth 200 = false := by kernel_rfl
theorem tAgg201 : tAgg Tryz.prog 201 = some true := by kernel_rfl
theorem tSz201 : tSz Tryz.prog 201 = some 12 := by kernel_rfl
theorem tBytes201 : tBytes Tryz.prog 201 = some 112 := by kernel_rfl
theorem tZero201 : tZero Tryz.prog 201 = some [.int .i64 0, .int .i64 0, .sl none 0 (some 0), .int .i64 0, .int .i64 0, .int .i64 0, .int .i64 0, .int .i64 0, .int .i64 0, .int .i64 0, .int .i64 0, .int .i64 0] := by kernel_rfl
theorem tPlaces201 : tPlaces Tryz.prog 201 = some [(0, 3), (3, 4), (7, 3), (10, 1), (11, 1)] := by kernel_rfl
theorem tFld201_0 : tFld Tryz.prog 201 0 = some (0, 24) := by kernel_rfl
theorem tFld201_1 : tFld Tryz.prog 201 1 = some (3, 72) := by kernel_rfl
theorem tFld201_2 : tFld Tryz.prog 201 2 = some (7, 26) := by kernel_rfl
theorem tFld201_3 : tFld Tryz.prog 201 3 = some (10, 3) := by kernel_rfl
theorem tFld201_4 : tFld Tryz.prog 201 4 = some (11, 3) := by kernel_rfl
theorem tGuard201 : Tryz.prog.eqGuardType Tryz.prog.depth 201 = false := by kernel_rfl
theorem tAgg206 : tAgg Tryz.prog 206 = some true := by kernel_rfl
theorem tSz206 : tSz Tryz.prog 206 = some 2 := by kernel_rfl
theorem tBytes206 : tBytes Tryz.prog 206 = some 16 := by kernel_rfl
theorem tZero206 : tZero Tryz.prog 206 = some [.int .i64 0, .int .i64 0] := by kernel_rfl
theorem tPlaces206 : tPlaces Tryz.prog 206 = some [(0, 1), (1, 1)] := by kernel_rfl
theorem tFld206_0 : tFld Tryz.prog 206 0 = some (0, 3) := by kernel_rfl
theorem tFld206_1 : tFld Tryz.prog 206 1 = some (1, 3) := by kernel_rfl
theorem tGuard206 : Tryz.prog.eqGuardType Tryz.prog.depth 206 = false := by kernel_rfl
theorem tEq206 (a0 a1 b0 b1 : Int) : aEq Tryz.prog 20 206 [.int .i64 a0, .int .i64 a1] [.int .i64 b0, .int .i64 b1] = some ((a0 == b0) && ((a1 == b1) && true)) := by kernel_rfl
theorem tAgg207 : tAgg Tryz.prog 207 = some true := by kernel_rfl
theorem tSz207 : tSz Tryz.prog 207 = some 2 := by kernel_rfl
theorem tBytes207 : tBytes Tryz.prog 207 = some 16 := by kernel_rfl
theorem tZero207 : tZero Tryz.prog 207 = some [.int .i64 0, .int .i64 0] := by kernel_rfl
theorem tPlaces207 : tPlaces Tryz.prog 207 = some [(0, 1), (1, 1)] := by kernel_rfl
theorem tFld207_0 : tFld Tryz.prog 207 0 = some (0, 3) := by kernel_rfl
theorem tFld207_1 : tFld Tryz.prog 207 1 = some (1, 3) := by kernel_rfl
theorem tGuard207 : Tryz.prog.eqGuardType Tryz.prog.depth 207 = false := by kernel_rfl
theorem tEq207 (a0 a1 b0 b1 : Int) : aEq Tryz.prog 20 207 [.int .i64 a0, .int .i64 a1] [.int .i64 b0, .int .i64 b1] = some ((a0 == b0) && ((a1 == b1) && true)) := by kernel_rfl
theorem tAgg210 : tAgg Tryz.prog 210 = some true := by kernel_rfl
theorem tSz210 : tSz Tryz.prog 210 = some 3 := by kernel_rfl
theorem tBytes210 : tBytes Tryz.prog 210 = some 24 := by kernel_rfl
theorem tZero210 : tZero Tryz.prog 210 = some [.int .i64 0, .int .i64 0, .int .i64 0] := by kernel_rfl
theorem tPlaces210 : tPlaces Tryz.prog 210 = some [(0, 1), (1, 1), (2, 1)] := by kernel_rfl
theorem tFld210_0 : tFld Tryz.prog 210 0 = some (0, 3) := by kernel_rfl
theorem tFld210_1 : tFld Tryz.prog 210 1 = some (1, 3) := by kernel_rfl
theorem tFld210_2 : tFld Tryz.prog 210 2 = some (2, 3) := by kernel_rfl
theorem tGuard210 : Tryz.prog.eqGuardType Tryz.prog.depth 210 = false := by kernel_rfl
theorem tEq210 (a0 a1 a2 b0 b1 b2 : Int) : aEq Tryz.prog 20 210 [.int .i64 a0, .int .i64 a1, .int .i64 a2] [.int .i64 b0, .int .i64 b1, .int .i64 b2] = some ((a0 == b0) && ((a1 == b1) && ((a2 == b2) && true))) := by kernel_rfl
theorem tAgg211 : tAgg Tryz.prog 211 = some true := by kernel_rfl
theorem tSz211 : tSz Tryz.prog 211 = some 3 := by kernel_rfl
theorem tBytes211 : tBytes Tryz.prog 211 = some 24 := by kernel_rfl
theorem tZero211 : tZero Tryz.prog 211 = some [.int .i64 0, .int .i64 0, .int .i64 0] := by kernel_rfl
theorem tPlaces211 : tPlaces Tryz.prog 211 = some [(0, 1), (1, 1), (2, 1)] := by kernel_rfl
theorem tFld211_0 : tFld Tryz.prog 211 0 = some (0, 3) := by kernel_rfl
theorem tFld211_1 : tFld Tryz.prog 211 1 = some (1, 3) := by kernel_rfl
theorem tFld211_2 : tFld Tryz.prog 211 2 = some (2, 3) := by kernel_rfl
theorem tGuard211 : Tryz.prog.eqGuardType Tryz.prog.depth 211 = false := by kernel_rfl
theorem tEq211 (a0 a1 a2 b0 b1 b2 : Int) : aEq Tryz.prog 20 211 [.int .i64 a0, .int .i64 a1, .int .i64 a2] [.int .i64 b0, .int .i64 b1, .int .i64 b2] = some ((a0 == b0) && ((a1 == b1) && ((a2 == b2) && true))) := by kernel_rfl
theorem tAgg220 : tAgg Tryz.prog 220 = some false := by kernel_rfl
theorem tSz220 : tSz Tryz.prog 220 = some 1 := by kernel_rfl
theorem tBytes220 : tBytes Tryz.prog 220 = some 24 := by kernel_rfl
theorem tZero220 : tZero Tryz.prog 220 = some [.sl none 0 (some 0)] := by kernel_rfl
theorem tElem220 : tElem Tryz.prog 220 = some 223 := by kernel_rfl
theorem tIsSlice220 : tIsSlice Tryz.prog 220 = true := by kernel_rfl
theorem tAgg222 : tAgg Tryz.prog 222 = some true := by kernel_rfl
theorem tSz222 : tSz Tryz.prog 222 = some 9 := by kernel_rfl
theorem tBytes222 : tBytes Tryz.prog 222 = some 72 := by kernel_rfl
theorem tZero222 : tZero Tryz.prog 222 = some [.int .i64 0, .int .i64 0, .int .i64 0, .int .i64 0, .int .i64 0, .int .i64 0, .int .i64 0, .int .i64 0, .int .i64 0] := by kernel_rfl
theorem tPlaces222 : tPlaces Tryz.prog 222 = some [(0, 6), (6, 3)] := by kernel_rfl
theorem tFld222_0 : tFld Tryz.prog 222 0 = some (0, 45) := by kernel_rfl
theorem tFld222_1 : tFld Tryz.prog 222 1 = some (6, 211) := by kernel_rfl
theorem tGuard222 : Tryz.prog.eqGuardType Tryz.prog.depth 222 = false := by kernel_rfl
theorem tEq222 (a0 a1 a2 a3 a4 a5 a6 a7 a8 b0 b1 b2 b3 b4 b5 b6 b7 b8 : Int) : aEq Tryz.prog 20 222 [.int .i64 a0, .int .i64 a1, .int .i64 a2, .int .i64 a3, .int .i64 a4, .int .i64 a5, .int .i64 a6, .int .i64 a7, .int .i64 a8] [.int .i64 b0, .int .i64 b1, .int .i64 b2, .int .i64 b3, .int .i64 b4, .int .i64 b5, .int .i64 b6, .int .i64 b7, .int .i64 b8] = some (((a0 == b0) && ((a1 == b1) && ((a2 == b2) && ((a3 == b3) && ((a4 == b4) && ((a5 == b5) && true)))))) && (((a6 == b6) && ((a7 == b7) && ((a8 == b8) && true))) && true)) := by kernel_rfl
theorem tAgg223 : tAgg Tryz.prog 223 = some true := by kernel_rfl
theorem tSz223 : tSz Tryz.prog 223 = some 9 := by kernel_rfl
theorem tBytes223 : tBytes Tryz.prog 223 = some 72 := by kernel_rfl
theorem tZero223 : tZero Tryz.prog 223 = some [.int .i64 0, .int .i64 0, .int .i64 0, .int .i64 0, .int .i64 0, .int .i64 0, .int .i64 0, .int .i64 0, .int .i64 0] := by kernel_rfl
theorem tPlaces223 : tPlaces Tryz.prog 223 = some [(0, 6), (6, 3)] := by kernel_rfl
theorem tFld223_0 : tFld Tryz.prog 223 0 = some (0, 45) := by kernel_rfl
theorem tFld223_1 : tFld Tryz.prog 223 1 = some (6, 211) := by kernel_rfl
theorem tGuard223 : Tryz.prog.eqGuardType Tryz.prog.depth 223 = false := by kernel_rfl
theorem tEq223 (a0 a1 a2 a3 a4 a5 a6 a7 a8 b0 b1 b2 b3 b4 b5 b6 b7 b8 : Int) : aEq Tryz.prog 20 223 [.int .i64 a0, .int .i64 a1, .int .i64 a2, .int .i64 a3, .int .i64 a4, .int .i64 a5, .int .i64 a6, .int .i64 a7, .int .i64 a8] [.int .i64 b0, .int .i64 b1, .int .i64 b2, .int .i64 b3, .int .i64 b4, .int .i64 b5, .int .i64 b6, .int .i64 b7, .int .i64 b8] = some (((a0 == b0) && ((a1 == b1) && ((a2 == b2) && ((a3 == b3) && ((a4 == b4) && ((a5 == b5) && true)))))) && (((a6 == b6) && ((a7 == b7) && ((a8 == b8) && true))) && true)) := by kernel_rfl
theorem tAgg239 : tAgg Tryz.prog 239 = some false := by kernel_rfl
theorem tSz239 : tSz Tryz.prog 239 = some 1 := by kernel_rfl
theorem tBytes239 : tBytes Tryz.prog 239 = some 24 := by kernel_rfl
theorem tZero239 : tZero Tryz.prog 239 = some [.sl none 0 (some 0)] := by kernel_rfl
theorem tElem239 : tElem Tryz.prog 239 = some 79 := by kernel_rfl
theorem tIsSlice239 : tIsSlice Tryz.prog 239 = true := by kernel_rfl
theorem tAgg240 : tAgg Tryz.prog 240 = some true := by kernel_rfl
theorem tSz240 : tSz Tryz.prog 240 = some 3 := by kernel_rfl
theorem tBytes240 : tBytes Tryz.prog 240 = some 40 := by kernel_rfl
theorem tZero240 : tZero Tryz.prog 240 = some [.int .i64 0, .int .i64 0, .sl none 0 (some 0)] := by kernel_rfl
theorem tPlaces240 : tPlaces Tryz.prog 240 = some [(0, 1), (1, 1), (2, 1)] := by kernel_rfl
theorem tFld240_0 : tFld Tryz.prog 240 0 = some (0, 3) := by kernel_rfl
theorem tFld240_1 : tFld Tryz.prog 240 1 = some (1, 3) := by kernel_rfl
theorem tFld240_2 : tFld Tryz.prog 240 2 = some (2, 239) := by kernel_rfl
theorem tGuard240 : Tryz.prog.eqGuardType Tryz.prog.depth 240 = false := by kernel_rfl
theorem tAgg241 : tAgg Tryz.prog 241 = some true := by kernel_rfl
theorem tSz241 : tSz Tryz.prog 241 = some 3 := by kernel_rfl
theorem tBytes241 : tBytes Tryz.prog 241 = some 40 := by kernel_rfl
theorem tZero241 : tZero Tryz.prog 241 = some [.int .i64 0, .int .i64 0, .sl none 0 (some 0)] := by kernel_rfl
theorem tPlaces241 : tPlaces Tryz.prog 241 = some [(0, 1), (1, 1), (2, 1)] := by kernel_rfl
theorem tFld241_0 : tFld Tryz.prog 241 0 = some (0, 3) := by kernel_rfl
theorem tFld241_1 : tFld Tryz.prog 241 1 = some (1, 3) := by kernel_rfl
theorem tFld241_2 : tFld Tryz.prog 241 2 = some (2, 239) := by kernel_rfl
theorem tGuard241 : Tryz.prog.eqGuardType Tryz.prog.depth 241 = false := by kernel_rfl
theorem tAgg249 : tAgg Tryz.prog 249 = some false := by kernel_rfl
theorem tSz249 : tSz Tryz.prog 249 = some 1 := by kernel_rfl
theorem tBytes249 : tBytes Tryz.prog 249 = some 8 := by kernel_rfl
theorem tZero249 : tZero Tryz.prog 249 = some [.int .u64 0] := by kernel_rfl
theorem tInt249 : tInt Tryz.prog 249 = some .u64 := by kernel_rfl
theorem tUnd249 : Tryz.prog.underlying 249 = some (.int .u64) := by kernel_rfl
theorem tAgg256 : tAgg Tryz.prog 256 = some true := by kernel_rfl
theorem tSz256 : tSz Tryz.prog 256 = some 12 := by kernel_rfl
theorem tBytes256 : tBytes Tryz.prog 256 = some 112 := by kernel_rfl
theorem tZero256 : tZero Tryz.prog 256 = some [.int .i64 0, .int .i64 0, .sl none 0 (some 0), .int .i64 0, .int .i64 0, .int .i64 0, .int .i64 0, .int .i64 0, .int .i64 0, .int .i64 0, .int .i64 0, .int .i64 0] := by kernel_rfl
theorem tPlaces256 : tPlaces Tryz.prog 256 = some [(0, 3), (3, 4), (7, 3), (10, 1), (11, 1)] := by kernel_rfl
theorem tFld256_0 : tFld Tryz.prog 256 0 = some (0, 24) := by kernel_rfl
theorem tFld256_1 : tFld Tryz.prog 256 1 = some (3, 72) := by kernel_rfl
theorem tFld256_2 : tFld Tryz.prog 256 2 = some (7, 26) := by kernel_rfl
theorem tFld256_3 : tFld Tryz.prog 256 3 = some (10, 3) := by kernel_rfl
theorem tFld256_4 : tFld Tryz.prog 256 4 = some (11, 3) := by kernel_rfl
theorem tGuard256 : Tryz.prog.eqGuardType Tryz.prog.depth 256 = false := by kernel_rfl
theorem tAgg257 : tAgg Tryz.prog 257 = some true := by kernel_rfl
theorem tSz257 : tSz Tryz.prog 257 = some 12 := by kernel_rfl
theorem tBytes257 : tBytes Tryz.prog 257 = some 112 := by kernel_rfl
theorem tZero257 : tZero Tryz.prog 257 = some [.int .i64 0, .int .i64 0, .sl none 0 (some 0), .int .i64 0, .int .i64 0, .int .i64 0, .int .i64 0, .int .i64 0, .int .i64 0, .int .i64 0, .int .i64 0, .int .i64 0] := by kernel_rfl
theorem tPlaces257 : tPlaces Tryz.prog 257 = some [(0, 3), (3, 4), (7, 3), (10, 1), (11, 1)] := by kernel_rfl
theorem tFld257_0 : tFld Tryz.prog 257 0 = some (0, 24) := by kernel_rfl
theorem tFld257_1 : tFld Tryz.prog 257 1 = some (3, 72) := by kernel_rfl
theorem tFld257_2 : tFld Tryz.prog 257 2 = some (7, 26) := by kernel_rfl
theorem tFld257_3 : tFld Tryz.prog 257 3 = some (10, 3) := by kernel_rfl
theorem tFld257_4 : tFld Tryz.prog 257 4 = some (11, 3) := by kernel_rfl
theorem tGuard257 : Tryz.prog.eqGuardType Tryz.prog.depth 257 = false := by kernel_rfl
theorem tAgg288 : tAgg Tryz.prog 288 = some true := by kernel_rfl
theorem tSz288 : tSz Tryz.prog 288 = some 8 := by kernel_rfl
theorem tBytes288 : tBytes Tryz.prog 288 = some 64 := by kernel_rfl
theorem tZero288 : tZero Tryz.prog 288 = some [.int .i64 0, .int .i64 0, .int .i64 0, .int .i64 0, .int .i64 0, .int .i64 0, .int .i64 0, .int .i64 0] := by kernel_rfl
theorem tIdx288 : tIdx Tryz.prog 288 = some (some 4, 79) := by kernel_rfl
theorem tPlaces288 : tPlaces Tryz.prog 288 = some [(0, 2), (2, 2), (4, 2), (6, 2)] := by kernel_rfl
theorem tAgg303 : tAgg Tryz.prog 303 = some true := by kernel_rfl
theorem tSz303 : tSz Tryz.prog 303 = some 6 := by kernel_rfl
theorem tBytes303 : tBytes Tryz.prog 303 = some 40 := by kernel_rfl
theorem tZero303 : tZero Tryz.prog 303 = some [.int .i64 0, .int .i64 0, .int .i64 0, .int .i64 0, .bool false, .bool false] := by kernel_rfl
theorem tPlaces303 : tPlaces Tryz.prog 303 = some [(0, 1), (1, 1), (2, 1), (3, 1), (4, 1), (5, 1)] := by kernel_rfl
theorem tFld303_0 : tFld Tryz.prog 303 0 = some (0, 3) := by kernel_rfl
theorem tFld303_1 : tFld Tryz.prog 303 1 = some (1, 3) := by kernel_rfl
theorem tFld303_2 : tFld Tryz.prog 303 2 = some (2, 3) := by kernel_rfl
theorem tFld303_3 : tFld Tryz.prog 303 3 = some (3, 3) := by kernel_rfl
theorem tFld303_4 : tFld Tryz.prog 303 4 = some (4, 4) := by kernel_rfl
theorem tFld303_5 : tFld Tryz.prog 303 5 = some (5, 4) := by kernel_rfl
theorem tGuard303 : Tryz.prog.eqGuardType Tryz.prog.depth 303 = false := by kernel_rfl
theorem tAgg304 : tAgg Tryz.prog 304 = some true := by kernel_rfl
theorem tSz304 : tSz Tryz.prog 304 = some 6 := by kernel_rfl
theorem tBytes304 : tBytes Tryz.prog 304 = some 40 := by kernel_rfl
theorem tZero304 : tZero Tryz.prog 304 = some [.int .i64 0, .int .i64 0, .int .i64 0, .int .i64 0, .bool false, .bool false] := by kernel_rfl
theorem tPlaces304 : tPlaces Tryz.prog 304 = some [(0, 1), (1, 1), (2, 1), (3, 1), (4, 1), (5, 1)] := by kernel_rfl
theorem tFld304_0 : tFld Tryz.prog 304 0 = some (0, 3) := by kernel_rfl
theorem tFld304_1 : tFld Tryz.prog 304 1 = some (1, 3) := by kernel_rfl
theorem tFld304_2 : tFld Tryz.prog 304 2 = some (2, 3) := by kernel_rfl
theorem tFld304_3 : tFld Tryz.prog 304 3 = some (3, 3) := by kernel_rfl
theorem tFld304_4 : tFld Tryz.prog 304 4 = some (4, 4) := by kernel_rfl
theorem tFld304_5 : tFld Tryz.prog 304 5 = some (5, 4) := by kernel_rfl
theorem tGuard304 : Tryz.prog.eqGuardType Tryz.prog.depth 304 = false := by kernel_rfl
theorem tAgg310 : tAgg Tryz.prog 310 = some false := by kernel_rfl
theorem tSz310 : tSz Tryz.prog 310 = some 1 := by kernel_rfl
theorem tBytes310 : tBytes Tryz.prog 310 = some 8 := by kernel_rfl
theorem tZero310 : tZero Tryz.prog 310 = some [.int .i64 0] := by kernel_rfl
theorem tInt310 : tInt Tryz.prog 310 = some .i64 := by kernel_rfl
theorem tUnd310 : Tryz.prog.underlying 310 = some (.int .i64) := by kernel_rfl
theorem tAgg318 : tAgg Tryz.prog 318 = some false := by kernel_rfl
theorem tSz318 : tSz Tryz.prog 318 = some 1 := by kernel_rfl
theorem tBytes318 : tBytes Tryz.prog 318 = some 4 := by kernel_rfl
theorem tZero318 : tZero Tryz.prog 318 = some [.int .u32 0] := by kernel_rfl
theorem tInt318 : tInt Tryz.prog 318 = some .u32 := by kernel_rfl
theorem tUnd318 : Tryz.prog.underlying 318 = some (.int .u32) := by kernel_rfl
theorem tAgg320 : tAgg Tryz.prog 320 = some false := by kernel_rfl
theorem tSz320 : tSz Tryz.prog 320 = some 1 := by kernel_rfl
theorem tBytes320 : tBytes Tryz.prog 320 = some 8 := by kernel_rfl
theorem tZero320 : tZero Tryz.prog 320 = some [.int .u64 0] := by kernel_rfl
theorem tInt320 : tInt Tryz.prog 320 = some .u64 := by kernel_rfl
theorem tUnd320 : Tryz.prog.underlying 320 = some (.int .u64) := by kernel_rfl
theorem tAgg326 : tAgg Tryz.prog 326 = some true := by kernel_rfl
theorem tSz326 : tSz Tryz.prog 326 = some 4 := by kernel_rfl
theorem tBytes326 : tBytes Tryz.prog 326 = some 32 := by kernel_rfl
theorem tZero326 : tZero Tryz.prog 326 = some [.int .i64 0, .int .i64 0, .int .i64 0, .int .i64 0] := by kernel_rfl
theorem tIdx326 : tIdx Tryz.prog 326 = some (some 4, 3) := by kernel_rfl
theorem tPlaces326 : tPlaces Tryz.prog 326 = some [(0, 1), (1, 1), (2, 1), (3, 1)] := by kernel_rfl
theorem tAgg329 : tAgg Tryz.prog 329 = some true := by kernel_rfl
theorem tSz329 : tSz Tryz.prog 329 = some 2 := by kernel_rfl
theorem tBytes329 : tBytes Tryz.prog 329 = some 16 := by kernel_rfl
theorem tZero329 : tZero Tryz.prog 329 = some [.int .i64 0, .int .i64 0] := by kernel_rfl
theorem tIdx329 : tIdx Tryz.prog 329 = some (some 2, 3) := by kernel_rfl
theorem tPlaces329 : tPlaces Tryz.prog 329 = some [(0, 1), (1, 1)] := by kernel_rfl
theorem tAgg343 : tAgg Tryz.prog 343 = some false := by kernel_rfl
theorem tSz343 : tSz Tryz.prog 343 = some 1 := by kernel_rfl
theorem tBytes343 : tBytes Tryz.prog 343 = some 24 := by kernel_rfl
theorem tZero343 : tZero Tryz.prog 343 = some [.sl none 0 (some 0)] := by kernel_rfl
theorem tElem343 : tElem Tryz.prog 343 = some 4 := by kernel_rfl
theorem tIsSlice343 : tIsSlice Tryz.prog 343 = true := by kernel_rfl
theorem tAgg348 : tAgg Tryz.prog 348 = some true := by kernel_rfl
theorem tSz348 : tSz Tryz.prog 348 = some 4 := by kernel_rfl
theorem tBytes348 : tBytes Tryz.prog 348 = some 32 := by kernel_rfl
theorem tZero348 : tZero Tryz.prog 348 = some [.int .i64 0, .int .i64 0, .int .i64 0, .int .i64 0] := by kernel_rfl
theorem tPlaces348 : tPlaces Tryz.prog 348 = some [(0, 2), (2, 2)] := by kernel_rfl
theorem tFld348_0 : tFld Tryz.prog 348 0 = some (0, 207) := by kernel_rfl
theorem tFld348_1 : tFld Tryz.prog 348 1 = some (2, 207) := by kernel_rfl
theorem tGuard348 : Tryz.prog.eqGuardType Tryz.prog.depth 348 = false := by kernel_rfl
theorem tEq348 (a0 a1 a2 a3 b0 b1 b2 b3 : Int) : aEq Tryz.prog 20 348 [.int .i64 a0, .int .i64 a1, .int .i64 a2, .int .i64 a3] [.int .i64 b0, .int .i64 b1, .int .i64 b2, .int .i64 b3] = some (((a0 == b0) && ((a1 == b1) && true)) && (((a2 == b2) && ((a3 == b3) && true)) && true)) := by kernel_rfl
theorem tAgg349 : tAgg Tryz.prog 349 = some true := by kernel_rfl
theorem tSz349 : tSz Tryz.prog 349 = some 4 := by kernel_rfl
theorem tBytes349 : tBytes Tryz.prog 349 = some 32 := by kernel_rfl
theorem tZero349 : tZero Tryz.prog 349 = some [.int .i64 0, .int .i64 0, .int .i64 0, .int .i64 0] := by kernel_rfl
theorem tPlaces349 : tPlaces Tryz.prog 349 = some [(0, 2), (2, 2)] := by kernel_rfl
theorem tFld349_0 : tFld Tryz.prog 349 0 = some (0, 207) := by kernel_rfl
theorem tFld349_1 : tFld Tryz.prog 349 1 = some (2, 207) := by kernel_rfl
theorem tGuard349 : Tryz.prog.eqGuardType Tryz.prog.depth 349 = false := by kernel_rfl
theorem tEq349 (a0 a1 a2 a3 b0 b1 b2 b3 : Int) : aEq Tryz.prog 20 349 [.int .i64 a0, .int .i64 a1, .int .i64 a2, .int .i64 a3] [.int .i64 b0, .int .i64 b1, .int .i64 b2, .int .i64 b3] = some (((a0 == b0) && ((a1 == b1) && true)) && (((a2 == b2) && ((a3 == b3) && true)) && true)) := by kernel_rfl
theorem tAgg352 : tAgg Tryz.prog 352 = some false := by kernel_rfl
theorem tSz352 : tSz Tryz.prog 352 = some 1 := by kernel_rfl
theorem tBytes352 : tBytes Tryz.prog 352 = some 8 := by kernel_rfl
theorem tZero352 : tZero Tryz.prog 352 = some [.int .u64 0] := by kernel_rfl
theorem tInt352 : tInt Tryz.prog 352 = some .u64 := by kernel_rfl
theorem tUnd352 : Tryz.prog.underlying 352 = some (.int .u64) := by kernel_rfl
theorem tAgg356 : tAgg Tryz.prog 356 = some false := by kernel_rfl
theorem tSz356 : tSz Tryz.prog 356 = some 1 := by kernel_rfl
theorem tBytes356 : tBytes Tryz.prog 356 = some 8 := by kernel_rfl
theorem tZero356 : tZero Tryz.prog 356 = some [.ptr none] := by kernel_rfl
theorem tAgg360 : tAgg Tryz.prog 360 = some false := by kernel_rfl
theorem tSz360 : tSz Tryz.prog 360 = some 1 := by kernel_rfl
theorem tBytes360 : tBytes Tryz.prog 360 = some 24 := by kernel_rfl
theorem tZero360 : tZero Tryz.prog 360 = some [.sl none 0 (some 0)] := by kernel_rfl
theorem tElem360 : tElem Tryz.prog 360 = some 239 := by kernel_rfl
theorem tIsSlice360 : tIsSlice Tryz.prog 360 = true := by kernel_rfl
theorem tAgg369 : tAgg Tryz.prog 369 = some false := by kernel_rfl
theorem tSz369 : tSz Tryz.prog 369 = some 1 := by kernel_rfl
theorem tBytes369 : tBytes Tryz.prog 369 = some 8 := by kernel_rfl
theorem tZero369 : tZero Tryz.prog 369 = some [.ptr none] := by kernel_rfl
theorem tAgg373 : tAgg Tryz.prog 373 = some false := by kernel_rfl
theorem tSz373 : tSz Tryz.prog 373 = some 1 := by kernel_rfl
theorem tBytes373 : tBytes Tryz.prog 373 = some 8 := by kernel_rfl
theorem tZero373 : tZero Tryz.prog 373 = some [.ptr none] := by kernel_rfl
theorem tAgg383 : tAgg Tryz.prog 383 = some true := by kernel_rfl
theorem tSz383 : tSz Tryz.prog 383 = some 4 := by kernel_rfl
theorem tBytes383 : tBytes Tryz.prog 383 = some 40 := by kernel_rfl
theorem tZero383 : tZero Tryz.prog 383 = some [.ptr none, .ptr none, .ptr none, .str []] := by kernel_rfl
theorem tPlaces383 : tPlaces Tryz.prog 383 = some [(0, 1), (1, 1), (2, 1), (3, 1)] := by kernel_rfl
theorem tFld383_0 : tFld Tryz.prog 383 0 = some (0, 17) := by kernel_rfl
theorem tFld383_1 : tFld Tryz.prog 383 1 = some (1, 17) := by kernel_rfl
theorem tFld383_2 : tFld Tryz.prog 383 2 = some (2, 17) := by kernel_rfl
theorem tFld383_3 : tFld Tryz.prog 383 3 = some (3, 9) := by kernel_rfl
theorem tGuard383 : Tryz.prog.eqGuardType Tryz.prog.depth 383 = false := by kernel_rfl
theorem tAgg393 : tAgg Tryz.prog 393 = some true := by kernel_rfl
theorem tSz393 : tSz Tryz.prog 393 = some 11 := by kernel_rfl
theorem tBytes393 : tBytes Tryz.prog 393 = some 48 := by kernel_rfl
theorem tZero393 : tZero Tryz.prog 393 = some [.int .u64 0, .int .u64 0, .int .u32 0, .int .u8 0, .int .u8 0, .int .u8 0, .int .u8 0, .nilfn, .ptr none, .int .i32 0, .int .i32 0] := by kernel_rfl
theorem tPlaces393 : tPlaces Tryz.prog 393 = some [(0, 1), (1, 1), (2, 1), (3, 1), (4, 1), (5, 1), (6, 1), (7, 1), (8, 1), (9, 1), (10, 1)] := by kernel_rfl
theorem tFld393_0 : tFld Tryz.prog 393 0 = some (0, 12) := by kernel_rfl
theorem tFld393_1 : tFld Tryz.prog 393 1 = some (1, 12) := by kernel_rfl
theorem tFld393_2 : tFld Tryz.prog 393 2 = some (2, 318) := by kernel_rfl
theorem tFld393_3 : tFld Tryz.prog 393 3 = some (3, 388) := by kernel_rfl
theorem tFld393_4 : tFld Tryz.prog 393 4 = some (4, 5) := by kernel_rfl
theorem tFld393_5 : tFld Tryz.prog 393 5 = some (5, 5) := by kernel_rfl
theorem tFld393_6 : tFld Tryz.prog 393 6 = some (6, 389) := by kernel_rfl
theorem tFld393_7 : tFld Tryz.prog 393 7 = some (7, 390) := by kernel_rfl
theorem tFld393_8 : tFld Tryz.prog 393 8 = some (8, 138) := by kernel_rfl
theorem tFld393_9 : tFld Tryz.prog 393 9 = some (9, 391) := by kernel_rfl
theorem tFld393_10 : tFld Tryz.prog 393 10 = some (10, 392) := by kernel_rfl
theorem tGuard393 : Tryz.prog.eqGuardType Tryz.prog.depth 393 = false := by kernel_rfl
theorem tyset0 : type_of% (And.intro (@tAgg2) <| And.intro (@tSz2) <| And.intro (@tBytes2) <| And.intro (@tZero2) <| And.intro (@tInt2) <| And.intro (@tUnd2) <| And.intro (@tAgg3) <| And.intro (@tSz3) <| And.intro (@tBytes3) <| And.intro (@tZero3) <| And.intro (@tInt3) <| And.intro (@tUnd3) <| And.intro (@tAgg4) <| And.intro (@tSz4) <| And.intro (@tBytes4) <| And.intro (@tZero4) <| And.intro (@tIsBool4) <| And.intro (@tAgg5) <| And.intro (@tSz5) <| And.intro (@tBytes5) <| And.intro (@tZero5) <| And.intro (@tInt5) <| And.intro (@tUnd5) <| (@tAgg7)) :=
  And.intro (@tAgg2) <| And.intro (@tSz2) <| And.intro (@tBytes2) <| And.intro (@tZero2) <| And.intro (@tInt2) <| And.intro (@tUnd2) <| And.intro (@tAgg3) <| And.intro (@tSz3) <| And.intro (@tBytes3) <| And.intro (@tZero3) <| And.intro (@tInt3) <| And.intro (@tUnd3) <| And.intro (@tAgg4) <| And.intro (@tSz4) <| And.intro (@tBytes4) <| And.intro (@tZero4) <| And.intro (@tIsBool4) <| And.intro (@tAgg5) <| And.intro (@tSz5) <| And.intro (@tBytes5) <| And.intro (@tZero5) <| And.intro (@tInt5) <| And.intro (@tUnd5) <| (@tAgg7)
theorem tyset1 : type_of% (And.intro (@tSz7) <| And.intro (@tBytes7) <| And.intro (@tZero7) <| And.intro (@tPlaces7) <| And.intro (@tFld7_0) <| And.intro (@tFld7_1) <| And.intro (@tFld7_2) <| And.intro (@tFld7_3) <| And.intro (@tGuard7) <| And.intro (@tAgg9) <| And.intro (@tSz9) <| And.intro (@tBytes9) <| And.intro (@tZero9) <| And.intro (@tAgg12) <| And.intro (@tSz12) <| And.intro (@tBytes12) <| And.intro (@tZero12) <| And.intro (@tInt12) <| And.intro (@tUnd12) <| And.intro (@tAgg13) <| And.intro (@tSz13) <| And.intro (@tBytes13) <| And.intro (@tZero13) <| (@tPlaces13)) :=
  And.intro (@tSz7) <| And.intro (@tBytes7) <| And.intro (@tZero7) <| And.intro (@tPlaces7) <| And.intro (@tFld7_0) <| And.intro (@tFld7_1) <| And.intro (@tFld7_2) <| And.intro (@tFld7_3) <| And.intro (@tGuard7) <| And.intro (@tAgg9) <| And.intro (@tSz9) <| And.intro (@tBytes9) <| And.intro (@tZero9) <| And.intro (@tAgg12) <| And.intro (@tSz12) <| And.intro (@tBytes12) <| And.intro (@tZero12) <| And.intro (@tInt12) <| And.intro (@tUnd12) <| And.intro (@tAgg13) <| And.intro (@tSz13) <| And.intro (@tBytes13) <| And.intro (@tZero13) <| (@tPlaces13)
theorem tyset2 : type_of% (And.intro (@tFld13_0) <| And.intro (@tFld13_1) <| And.intro (@tGuard13) <| And.intro (@tAgg17) <| And.intro (@tSz17) <| And.intro (@tBytes17) <| And.intro (@tZero17) <| And.intro (@tAgg18) <| And.intro (@tSz18) <| And.intro (@tBytes18) <| And.intro (@tZero18) <| And.intro (@tPlaces18) <| And.intro (@tFld18_0) <| And.intro (@tGuard18) <| And.intro (@tAgg21) <| And.intro (@tSz21) <| And.intro (@tBytes21) <| And.intro (@tZero21) <| And.intro (@tInt21) <| And.intro (@tUnd21) <| And.intro (@tAgg22) <| And.intro (@tSz22) <| And.intro (@tBytes22) <| (@tZero22)) :=
  And.intro (@tFld13_0) <| And.intro (@tFld13_1) <| And.intro (@tGuard13) <| And.intro (@tAgg17) <| And.intro (@tSz17) <| And.intro (@tBytes17) <| And.intro (@tZero17) <| And.intro (@tAgg18) <| And.intro (@tSz18) <| And.intro (@tBytes18) <| And.intro (@tZero18) <| And.intro (@tPlaces18) <| And.intro (@tFld18_0) <| And.intro (@tGuard18) <| And.intro (@tAgg21) <| And.intro (@tSz21) <| And.intro (@tBytes21) <| And.intro (@tZero21) <| And.intro (@tInt21) <| And.intro (@tUnd21) <| And.intro (@tAgg22) <| And.intro (@tSz22) <| And.intro (@tBytes22) <| (@tZero22)
theorem tyset3 : type_of% (And.intro (@tElem22) <| And.intro (@tIsSlice22) <| And.intro (@tAgg23) <| And.intro (@tSz23) <| And.intro (@tBytes23) <| And.intro (@tZero23) <| And.intro (@tPlaces23) <| And.intro (@tFld23_0) <| And.intro (@tFld23_1) <| And.intro (@tFld23_2) <| And.intro (@tGuard23) <| And.intro (@tAgg24) <| And.intro (@tSz24) <| And.intro (@tBytes24) <| And.intro (@tZero24) <| And.intro (@tPlaces24) <| And.intro (@tFld24_0) <| And.intro (@tFld24_1) <| And.intro (@tFld24_2) <| And.intro (@tGuard24) <| And.intro (@tAgg25) <| And.intro (@tSz25) <| And.intro (@tBytes25) <| (@tZero25)) :=
  And.intro (@tElem22) <| And.intro (@tIsSlice22) <| And.intro (@tAgg23) <| And.intro (@tSz23) <| And.intro (@tBytes23) <| And.intro (@tZero23) <| And.intro (@tPlaces23) <| And.intro (@tFld23_0) <| And.intro (@tFld23_1) <| And.intro (@tFld23_2) <| And.intro (@tGuard23) <| And.intro (@tAgg24) <| And.intro (@tSz24) <| And.intro (@tBytes24) <| And.intro (@tZero24) <| And.intro (@tPlaces24) <| And.intro (@tFld24_0) <| And.intro (@tFld24_1) <| And.intro (@tFld24_2) <| And.intro (@tGuard24) <| And.intro (@tAgg25) <| And.intro (@tSz25) <| And.intro (@tBytes25) <| (@tZero25)
theorem tyset4 : type_of% (And.intro (@tPlaces25) <| And.intro (@tFld25_0) <| And.intro (@tFld25_1) <| And.intro (@tFld25_2) <| And.intro (@tGuard25) <| And.intro (@tEq25) <| And.intro (@tAgg26) <| And.intro (@tSz26) <| And.intro (@tBytes26) <| And.intro (@tZero26) <| And.intro (@tPlaces26) <| And.intro (@tFld26_0) <| And.intro (@tFld26_1) <| And.intro (@tFld26_2) <| And.intro (@tGuard26) <| And.intro (@tEq26) <| And.intro (@tAgg27) <| And.intro (@tSz27) <| And.intro (@tBytes27) <| And.intro (@tZero27) <| And.intro (@tPlaces27) <| And.intro (@tFld27_0) <| And.intro (@tFld27_1) <| (@tGuard27)) :=
  And.intro (@tPlaces25) <| And.intro (@tFld25_0) <| And.intro (@tFld25_1) <| And.intro (@tFld25_2) <| And.intro (@tGuard25) <| And.intro (@tEq25) <| And.intro (@tAgg26) <| And.intro (@tSz26) <| And.intro (@tBytes26) <| And.intro (@tZero26) <| And.intro (@tPlaces26) <| And.intro (@tFld26_0) <| And.intro (@tFld26_1) <| And.intro (@tFld26_2) <| And.intro (@tGuard26) <| And.intro (@tEq26) <| And.intro (@tAgg27) <| And.intro (@tSz27) <| And.intro (@tBytes27) <| And.intro (@tZero27) <| And.intro (@tPlaces27) <| And.intro (@tFld27_0) <| And.intro (@tFld27_1) <| (@tGuard27)
theorem tyset5 : type_of% (And.intro (@tEq27) <| And.intro (@tAgg28) <| And.intro (@tSz28) <| And.intro (@tBytes28) <| And.intro (@tZero28) <| And.intro (@tPlaces28) <| And.intro (@tFld28_0) <| And.intro (@tFld28_1) <| And.intro (@tGuard28) <| And.intro (@tEq28) <| And.intro (@tAgg29) <| And.intro (@tSz29) <| And.intro (@tBytes29) <| And.intro (@tZero29) <| And.intro (@tPlaces29) <| And.intro (@tFld29_0) <| And.intro (@tFld29_1) <| And.intro (@tFld29_2) <| And.intro (@tFld29_3) <| And.intro (@tGuard29) <| And.intro (@tEq29) <| And.intro (@tAgg30) <| And.intro (@tSz30) <| (@tBytes30)) :=
  And.intro (@tEq27) <| And.intro (@tAgg28) <| And.intro (@tSz28) <| And.intro (@tBytes28) <| And.intro (@tZero28) <| And.intro (@tPlaces28) <| And.intro (@tFld28_0) <| And.intro (@tFld28_1) <| And.intro (@tGuard28) <| And.intro (@tEq28) <| And.intro (@tAgg29) <| And.intro (@tSz29) <| And.intro (@tBytes29) <| And.intro (@tZero29) <| And.intro (@tPlaces29) <| And.intro (@tFld29_0) <| And.intro (@tFld29_1) <| And.intro (@tFld29_2) <| And.intro (@tFld29_3) <| And.intro (@tGuard29) <| And.intro (@tEq29) <| And.intro (@tAgg30) <| And.intro (@tSz30) <| (@tBytes30)
theorem tyset6 : type_of% (And.intro (@tZero30) <| And.intro (@tPlaces30) <| And.intro (@tFld30_0) <| And.intro (@tFld30_1) <| And.intro (@tFld30_2) <| And.intro (@tFld30_3) <| And.intro (@tGuard30) <| And.intro (@tEq30) <| And.intro (@tAgg31) <| And.intro (@tSz31) <| And.intro (@tBytes31) <| And.intro (@tZero31) <| And.intro (@tElem31) <| And.intro (@tIsSlice31) <| And.intro (@tAgg32) <| And.intro (@tSz32) <| And.intro (@tBytes32) <| And.intro (@tZero32) <| And.intro (@tPlaces32) <| And.intro (@tFld32_0) <| And.intro (@tFld32_1) <| And.intro (@tFld32_2) <| And.intro (@tFld32_3) <| (@tGuard32)) :=
  And.intro (@tZero30) <| And.intro (@tPlaces30) <| And.intro (@tFld30_0) <| And.intro (@tFld30_1) <| And.intro (@tFld30_2) <| And.intro (@tFld30_3) <| And.intro (@tGuard30) <| And.intro (@tEq30) <| And.intro (@tAgg31) <| And.intro (@tSz31) <| And.intro (@tBytes31) <| And.intro (@tZero31) <| And.intro (@tElem31) <| And.intro (@tIsSlice31) <| And.intro (@tAgg32) <| And.intro (@tSz32) <| And.intro (@tBytes32) <| And.intro (@tZero32) <| And.intro (@tPlaces32) <| And.intro (@tFld32_0) <| And.intro (@tFld32_1) <| And.intro (@tFld32_2) <| And.intro (@tFld32_3) <| (@tGuard32)
theorem tyset7 : type_of% (And.intro (@tAgg33) <| And.intro (@tSz33) <| And.intro (@tBytes33) <| And.intro (@tZero33) <| And.intro (@tPlaces33) <| And.intro (@tFld33_0) <| And.intro (@tFld33_1) <| And.intro (@tFld33_2) <| And.intro (@tFld33_3) <| And.intro (@tGuard33) <| And.intro (@tAgg38) <| And.intro (@tSz38) <| And.intro (@tBytes38) <| And.intro (@tZero38) <| And.intro (@tElem38) <| And.intro (@tIsSlice38) <| And.intro (@tAgg39) <| And.intro (@tSz39) <| And.intro (@tBytes39) <| And.intro (@tZero39) <| And.intro (@tInt39) <| And.intro (@tUnd39) <| And.intro (@tAgg44) <| (@tSz44)) :=
  And.intro (@tAgg33) <| And.intro (@tSz33) <| And.intro (@tBytes33) <| And.intro (@tZero33) <| And.intro (@tPlaces33) <| And.intro (@tFld33_0) <| And.intro (@tFld33_1) <| And.intro (@tFld33_2) <| And.intro (@tFld33_3) <| And.intro (@tGuard33) <| And.intro (@tAgg38) <| And.intro (@tSz38) <| And.intro (@tBytes38) <| And.intro (@tZero38) <| And.intro (@tElem38) <| And.intro (@tIsSlice38) <| And.intro (@tAgg39) <| And.intro (@tSz39) <| And.intro (@tBytes39) <| And.intro (@tZero39) <| And.intro (@tInt39) <| And.intro (@tUnd39) <| And.intro (@tAgg44) <| (@tSz44)
theorem tyset8 : type_of% (And.intro (@tBytes44) <| And.intro (@tZero44) <| And.intro (@tPlaces44) <| And.intro (@tFld44_0) <| And.intro (@tFld44_1) <| And.intro (@tFld44_2) <| And.intro (@tFld44_3) <| And.intro (@tFld44_4) <| And.intro (@tFld44_5) <| And.intro (@tGuard44) <| And.intro (@tEq44) <| And.intro (@tAgg45) <| And.intro (@tSz45) <| And.intro (@tBytes45) <| And.intro (@tZero45) <| And.intro (@tPlaces45) <| And.intro (@tFld45_0) <| And.intro (@tFld45_1) <| And.intro (@tFld45_2) <| And.intro (@tFld45_3) <| And.intro (@tFld45_4) <| And.intro (@tFld45_5) <| And.intro (@tGuard45) <| (@tEq45)) :=
  And.intro (@tBytes44) <| And.intro (@tZero44) <| And.intro (@tPlaces44) <| And.intro (@tFld44_0) <| And.intro (@tFld44_1) <| And.intro (@tFld44_2) <| And.intro (@tFld44_3) <| And.intro (@tFld44_4) <| And.intro (@tFld44_5) <| And.intro (@tGuard44) <| And.intro (@tEq44) <| And.intro (@tAgg45) <| And.intro (@tSz45) <| And.intro (@tBytes45) <| And.intro (@tZero45) <| And.intro (@tPlaces45) <| And.intro (@tFld45_0) <| And.intro (@tFld45_1) <| And.intro (@tFld45_2) <| And.intro (@tFld45_3) <| And.intro (@tFld45_4) <| And.intro (@tFld45_5) <| And.intro (@tGuard45) <| (@tEq45)
theorem tyset9 : type_of% (And.intro (@tAgg47) <| And.intro (@tSz47) <| And.intro (@tBytes47) <| And.intro (@tZero47) <| And.intro (@tElem47) <| And.intro (@tIsSlice47) <| And.intro (@tAgg50) <| And.intro (@tSz50) <| And.intro (@tBytes50) <| And.intro (@tZero50) <| And.intro (@tPlaces50) <| And.intro (@tFld50_0) <| And.intro (@tFld50_1) <| And.intro (@tGuard50) <| And.intro (@tEq50) <| And.intro (@tAgg51) <| And.intro (@tSz51) <| And.intro (@tBytes51) <| And.intro (@tZero51) <| And.intro (@tPlaces51) <| And.intro (@tFld51_0) <| And.intro (@tFld51_1) <| And.intro (@tGuard51) <| (@tEq51)) :=
  And.intro (@tAgg47) <| And.intro (@tSz47) <| And.intro (@tBytes47) <| And.intro (@tZero47) <| And.intro (@tElem47) <| And.intro (@tIsSlice47) <| And.intro (@tAgg50) <| And.intro (@tSz50) <| And.intro (@tBytes50) <| And.intro (@tZero50) <| And.intro (@tPlaces50) <| And.intro (@tFld50_0) <| And.intro (@tFld50_1) <| And.intro (@tGuard50) <| And.intro (@tEq50) <| And.intro (@tAgg51) <| And.intro (@tSz51) <| And.intro (@tBytes51) <| And.intro (@tZero51) <| And.intro (@tPlaces51) <| And.intro (@tFld51_0) <| And.intro (@tFld51_1) <| And.intro (@tGuard51) <| (@tEq51)
theorem tyset10 : type_of% (And.intro (@tAgg52) <| And.intro (@tSz52) <| And.intro (@tBytes52) <| And.intro (@tZero52) <| And.intro (@tElem52) <| And.intro (@tIsSlice52) <| And.intro (@tAgg57) <| And.intro (@tSz57) <| And.intro (@tBytes57) <| And.intro (@tZero57) <| And.intro (@tPlaces57) <| And.intro (@tFld57_0) <| And.intro (@tFld57_1) <| And.intro (@tGuard57) <| And.intro (@tEq57) <| And.intro (@tAgg58) <| And.intro (@tSz58) <| And.intro (@tBytes58) <| And.intro (@tZero58) <| And.intro (@tPlaces58) <| And.intro (@tFld58_0) <| And.intro (@tFld58_1) <| And.intro (@tGuard58) <| (@tEq58)) :=
  And.intro (@tAgg52) <| And.intro (@tSz52) <| And.intro (@tBytes52) <| And.intro (@tZero52) <| And.intro (@tElem52) <| And.intro (@tIsSlice52) <| And.intro (@tAgg57) <| And.intro (@tSz57) <| And.intro (@tBytes57) <| And.intro (@tZero57) <| And.intro (@tPlaces57) <| And.intro (@tFld57_0) <| And.intro (@tFld57_1) <| And.intro (@tGuard57) <| And.intro (@tEq57) <| And.intro (@tAgg58) <| And.intro (@tSz58) <| And.intro (@tBytes58) <| And.intro (@tZero58) <| And.intro (@tPlaces58) <| And.intro (@tFld58_0) <| And.intro (@tFld58_1) <| And.intro (@tGuard58) <| (@tEq58)
theorem tyset11 : type_of% (And.intro (@tAgg59) <| And.intro (@tSz59) <| And.intro (@tBytes59) <| And.intro (@tZero59) <| And.intro (@tPlaces59) <| And.intro (@tFld59_0) <| And.intro (@tFld59_1) <| And.intro (@tFld59_2) <| And.intro (@tFld59_3) <| And.intro (@tFld59_4) <| And.intro (@tFld59_5) <| And.intro (@tGuard59) <| And.intro (@tAgg60) <| And.intro (@tSz60) <| And.intro (@tBytes60) <| And.intro (@tZero60) <| And.intro (@tPlaces60) <| And.intro (@tFld60_0) <| And.intro (@tFld60_1) <| And.intro (@tFld60_2) <| And.intro (@tFld60_3) <| And.intro (@tFld60_4) <| And.intro (@tFld60_5) <| (@tGuard60)) :=
  And.intro (@tAgg59) <| And.intro (@tSz59) <| And.intro (@tBytes59) <| And.intro (@tZero59) <| And.intro (@tPlaces59) <| And.intro (@tFld59_0) <| And.intro (@tFld59_1) <| And.intro (@tFld59_2) <| And.intro (@tFld59_3) <| And.intro (@tFld59_4) <| And.intro (@tFld59_5) <| And.intro (@tGuard59) <| And.intro (@tAgg60) <| And.intro (@tSz60) <| And.intro (@tBytes60) <| And.intro (@tZero60) <| And.intro (@tPlaces60) <| And.intro (@tFld60_0) <| And.intro (@tFld60_1) <| And.intro (@tFld60_2) <| And.intro (@tFld60_3) <| And.intro (@tFld60_4) <| And.intro (@tFld60_5) <| (@tGuard60)
theorem tyset12 : type_of% (And.intro (@tAgg71) <| And.intro (@tSz71) <| And.intro (@tBytes71) <| And.intro (@tZero71) <| And.intro (@tPlaces71) <| And.intro (@tFld71_0) <| And.intro (@tFld71_1) <| And.intro (@tFld71_2) <| And.intro (@tFld71_3) <| And.intro (@tGuard71) <| And.intro (@tEq71) <| And.intro (@tAgg72) <| And.intro (@tSz72) <| And.intro (@tBytes72) <| And.intro (@tZero72) <| And.intro (@tPlaces72) <| And.intro (@tFld72_0) <| And.intro (@tFld72_1) <| And.intro (@tFld72_2) <| And.intro (@tFld72_3) <| And.intro (@tGuard72) <| And.intro (@tEq72) <| And.intro (@tAgg73) <| (@tSz73)) :=
  And.intro (@tAgg71) <| And.intro (@tSz71) <| And.intro (@tBytes71) <| And.intro (@tZero71) <| And.intro (@tPlaces71) <| And.intro (@tFld71_0) <| And.intro (@tFld71_1) <| And.intro (@tFld71_2) <| And.intro (@tFld71_3) <| And.intro (@tGuard71) <| And.intro (@tEq71) <| And.intro (@tAgg72) <| And.intro (@tSz72) <| And.intro (@tBytes72) <| And.intro (@tZero72) <| And.intro (@tPlaces72) <| And.intro (@tFld72_0) <| And.intro (@tFld72_1) <| And.intro (@tFld72_2) <| And.intro (@tFld72_3) <| And.intro (@tGuard72) <| And.intro (@tEq72) <| And.intro (@tAgg73) <| (@tSz73)
theorem tyset13 : type_of% (And.intro (@tBytes73) <| And.intro (@tZero73) <| And.intro (@tPlaces73) <| And.intro (@tFld73_0) <| And.intro (@tFld73_1) <| And.intro (@tFld73_2) <| And.intro (@tGuard73) <| And.intro (@tAgg74) <| And.intro (@tSz74) <| And.intro (@tBytes74) <| And.intro (@tZero74) <| And.intro (@tPlaces74) <| And.intro (@tFld74_0) <| And.intro (@tFld74_1) <| And.intro (@tFld74_2) <| And.intro (@tGuard74) <| And.intro (@tAgg75) <| And.intro (@tSz75) <| And.intro (@tBytes75) <| And.intro (@tZero75) <| And.intro (@tPlaces75) <| And.intro (@tFld75_0) <| And.intro (@tFld75_1) <| (@tGuard75)) :=
  And.intro (@tBytes73) <| And.intro (@tZero73) <| And.intro (@tPlaces73) <| And.intro (@tFld73_0) <| And.intro (@tFld73_1) <| And.intro (@tFld73_2) <| And.intro (@tGuard73) <| And.intro (@tAgg74) <| And.intro (@tSz74) <| And.intro (@tBytes74) <| And.intro (@tZero74) <| And.intro (@tPlaces74) <| And.intro (@tFld74_0) <| And.intro (@tFld74_1) <| And.intro (@tFld74_2) <| And.intro (@tGuard74) <| And.intro (@tAgg75) <| And.intro (@tSz75) <| And.intro (@tBytes75) <| And.intro (@tZero75) <| And.intro (@tPlaces75) <| And.intro (@tFld75_0) <| And.intro (@tFld75_1) <| (@tGuard75)
theorem tyset14 : type_of% (And.intro (@tAgg76) <| And.intro (@tSz76) <| And.intro (@tBytes76) <| And.intro (@tZero76) <| And.intro (@tPlaces76) <| And.intro (@tFld76_0) <| And.intro (@tFld76_1) <| And.intro (@tGuard76) <| And.intro (@tAgg79) <| And.intro (@tSz79) <| And.intro (@tBytes79) <| And.intro (@tZero79) <| And.intro (@tPlaces79) <| And.intro (@tFld79_0) <| And.intro (@tFld79_1) <| And.intro (@tGuard79) <| And.intro (@tEq79) <| And.intro (@tAgg84) <| And.intro (@tSz84) <| And.intro (@tBytes84) <| And.intro (@tZero84) <| And.intro (@tElem84) <| And.intro (@tIsSlice84) <| (@tAgg93)) :=
  And.intro (@tAgg76) <| And.intro (@tSz76) <| And.intro (@tBytes76) <| And.intro (@tZero76) <| And.intro (@tPlaces76) <| And.intro (@tFld76_0) <| And.intro (@tFld76_1) <| And.intro (@tGuard76) <| And.intro (@tAgg79) <| And.intro (@tSz79) <| And.intro (@tBytes79) <| And.intro (@tZero79) <| And.intro (@tPlaces79) <| And.intro (@tFld79_0) <| And.intro (@tFld79_1) <| And.intro (@tGuard79) <| And.intro (@tEq79) <| And.intro (@tAgg84) <| And.intro (@tSz84) <| And.intro (@tBytes84) <| And.intro (@tZero84) <| And.intro (@tElem84) <| And.intro (@tIsSlice84) <| (@tAgg93)
theorem tyset15 : type_of% (And.intro (@tSz93) <| And.intro (@tBytes93) <| And.intro (@tZero93) <| And.intro (@tElem93) <| And.intro (@tIsSlice93) <| And.intro (@tAgg94) <| And.intro (@tSz94) <| And.intro (@tBytes94) <| And.intro (@tZero94) <| And.intro (@tAgg97) <| And.intro (@tSz97) <| And.intro (@tBytes97) <| And.intro (@tZero97) <| And.intro (@tPlaces97) <| And.intro (@tFld97_0) <| And.intro (@tFld97_1) <| And.intro (@tFld97_2) <| And.intro (@tFld97_3) <| And.intro (@tGuard97) <| And.intro (@tAgg98) <| And.intro (@tSz98) <| And.intro (@tBytes98) <| And.intro (@tZero98) <| (@tPlaces98)) :=
  And.intro (@tSz93) <| And.intro (@tBytes93) <| And.intro (@tZero93) <| And.intro (@tElem93) <| And.intro (@tIsSlice93) <| And.intro (@tAgg94) <| And.intro (@tSz94) <| And.intro (@tBytes94) <| And.intro (@tZero94) <| And.intro (@tAgg97) <| And.intro (@tSz97) <| And.intro (@tBytes97) <| And.intro (@tZero97) <| And.intro (@tPlaces97) <| And.intro (@tFld97_0) <| And.intro (@tFld97_1) <| And.intro (@tFld97_2) <| And.intro (@tFld97_3) <| And.intro (@tGuard97) <| And.intro (@tAgg98) <| And.intro (@tSz98) <| And.intro (@tBytes98) <| And.intro (@tZero98) <| (@tPlaces98)
theorem tyset16 : type_of% (And.intro (@tFld98_0) <| And.intro (@tFld98_1) <| And.intro (@tFld98_2) <| And.intro (@tFld98_3) <| And.intro (@tGuard98) <| And.intro (@tAgg99) <| And.intro (@tSz99) <| And.intro (@tBytes99) <| And.intro (@tZero99) <| And.intro (@tPlaces99) <| And.intro (@tFld99_0) <| And.intro (@tFld99_1) <| And.intro (@tGuard99) <| And.intro (@tAgg100) <| And.intro (@tSz100) <| And.intro (@tBytes100) <| And.intro (@tZero100) <| And.intro (@tPlaces100) <| And.intro (@tFld100_0) <| And.intro (@tFld100_1) <| And.intro (@tGuard100) <| And.intro (@tAgg108) <| And.intro (@tSz108) <| (@tBytes108)) :=
  And.intro (@tFld98_0) <| And.intro (@tFld98_1) <| And.intro (@tFld98_2) <| And.intro (@tFld98_3) <| And.intro (@tGuard98) <| And.intro (@tAgg99) <| And.intro (@tSz99) <| And.intro (@tBytes99) <| And.intro (@tZero99) <| And.intro (@tPlaces99) <| And.intro (@tFld99_0) <| And.intro (@tFld99_1) <| And.intro (@tGuard99) <| And.intro (@tAgg100) <| And.intro (@tSz100) <| And.intro (@tBytes100) <| And.intro (@tZero100) <| And.intro (@tPlaces100) <| And.intro (@tFld100_0) <| And.intro (@tFld100_1) <| And.intro (@tGuard100) <| And.intro (@tAgg108) <| And.intro (@tSz108) <| (@tBytes108)
theorem tyset17 : type_of% (And.intro (@tZero108) <| And.intro (@tElem108) <| And.intro (@tIsSlice108) <| And.intro (@tAgg110) <| And.intro (@tSz110) <| And.intro (@tBytes110) <| And.intro (@tZero110) <| And.intro (@tElem110) <| And.intro (@tIsSlice110) <| And.intro (@tAgg111) <| And.intro (@tSz111) <| And.intro (@tBytes111) <| And.intro (@tZero111) <| And.intro (@tElem111) <| And.intro (@tIsSlice111) <| And.intro (@tAgg117) <| And.intro (@tSz117) <| And.intro (@tBytes117) <| And.intro (@tZero117) <| And.intro (@tAgg138) <| And.intro (@tSz138) <| And.intro (@tBytes138) <| And.intro (@tZero138) <| (@tAgg161)) :=
  And.intro (@tZero108) <| And.intro (@tElem108) <| And.intro (@tIsSlice108) <| And.intro (@tAgg110) <| And.intro (@tSz110) <| And.intro (@tBytes110) <| And.intro (@tZero110) <| And.intro (@tElem110) <| And.intro (@tIsSlice110) <| And.intro (@tAgg111) <| And.intro (@tSz111) <| And.intro (@tBytes111) <| And.intro (@tZero111) <| And.intro (@tElem111) <| And.intro (@tIsSlice111) <| And.intro (@tAgg117) <| And.intro (@tSz117) <| And.intro (@tBytes117) <| And.intro (@tZero117) <| And.intro (@tAgg138) <| And.intro (@tSz138) <| And.intro (@tBytes138) <| And.intro (@tZero138) <| (@tAgg161)
theorem tyset18 : type_of% (And.intro (@tSz161) <| And.intro (@tBytes161) <| And.intro (@tZero161) <| And.intro (@tPlaces161) <| And.intro (@tFld161_0) <| And.intro (@tFld161_1) <| And.intro (@tGuard161) <| And.intro (@tEq161) <| And.intro (@tAgg162) <| And.intro (@tSz162) <| And.intro (@tBytes162) <| And.intro (@tZero162) <| And.intro (@tPlaces162) <| And.intro (@tFld162_0) <| And.intro (@tFld162_1) <| And.intro (@tGuard162) <| And.intro (@tEq162) <| And.intro (@tAgg167) <| And.intro (@tSz167) <| And.intro (@tBytes167) <| And.intro (@tZero167) <| And.intro (@tPlaces167) <| And.intro (@tFld167_0) <| (@tFld167_1)) :=
  And.intro (@tSz161) <| And.intro (@tBytes161) <| And.intro (@tZero161) <| And.intro (@tPlaces161) <| And.intro (@tFld161_0) <| And.intro (@tFld161_1) <| And.intro (@tGuard161) <| And.intro (@tEq161) <| And.intro (@tAgg162) <| And.intro (@tSz162) <| And.intro (@tBytes162) <| And.intro (@tZero162) <| And.intro (@tPlaces162) <| And.intro (@tFld162_0) <| And.intro (@tFld162_1) <| And.intro (@tGuard162) <| And.intro (@tEq162) <| And.intro (@tAgg167) <| And.intro (@tSz167) <| And.intro (@tBytes167) <| And.intro (@tZero167) <| And.intro (@tPlaces167) <| And.intro (@tFld167_0) <| (@tFld167_1)
theorem tyset19 : type_of% (And.intro (@tFld167_2) <| And.intro (@tFld167_3) <| And.intro (@tGuard167) <| And.intro (@tEq167) <| And.intro (@tAgg168) <| And.intro (@tSz168) <| And.intro (@tBytes168) <| And.intro (@tZero168) <| And.intro (@tPlaces168) <| And.intro (@tFld168_0) <| And.intro (@tFld168_1) <| And.intro (@tFld168_2) <| And.intro (@tFld168_3) <| And.intro (@tGuard168) <| And.intro (@tEq168) <| And.intro (@tAgg185) <| And.intro (@tSz185) <| And.intro (@tBytes185) <| And.intro (@tZero185) <| And.intro (@tPlaces185) <| And.intro (@tFld185_0) <| And.intro (@tFld185_1) <| And.intro (@tFld185_2) <| (@tFld185_3)) :=
  And.intro (@tFld167_2) <| And.intro (@tFld167_3) <| And.intro (@tGuard167) <| And.intro (@tEq167) <| And.intro (@tAgg168) <| And.intro (@tSz168) <| And.intro (@tBytes168) <| And.intro (@tZero168) <| And.intro (@tPlaces168) <| And.intro (@tFld168_0) <| And.intro (@tFld168_1) <| And.intro (@tFld168_2) <| And.intro (@tFld168_3) <| And.intro (@tGuard168) <| And.intro (@tEq168) <| And.intro (@tAgg185) <| And.intro (@tSz185) <| And.intro (@tBytes185) <| And.intro (@tZero185) <| And.intro (@tPlaces185) <| And.intro (@tFld185_0) <| And.intro (@tFld185_1) <| And.intro (@tFld185_2) <| (@tFld185_3)
theorem tyset20 : type_of% (And.intro (@tGuard185) <| And.intro (@tAgg186) <| And.intro (@tSz186) <| And.intro (@tBytes186) <| And.intro (@tZero186) <| And.intro (@tPlaces186) <| And.intro (@tFld186_0) <| And.intro (@tFld186_1) <| And.intro (@tFld186_2) <| And.intro (@tFld186_3) <| And.intro (@tGuard186) <| And.intro (@tAgg191) <| And.intro (@tSz191) <| And.intro (@tBytes191) <| And.intro (@tZero191) <| And.intro (@tAgg198) <| And.intro (@tSz198) <| And.intro (@tBytes198) <| And.intro (@tZero198) <| And.intro (@tPlaces198) <| And.intro (@tFld198_0) <| And.intro (@tFld198_1) <| And.intro (@tFld198_2) <| (@tFld198_3)) :=
  And.intro (@tGuard185) <| And.intro (@tAgg186) <| And.intro (@tSz186) <| And.intro (@tBytes186) <| And.intro (@tZero186) <| And.intro (@tPlaces186) <| And.intro (@tFld186_0) <| And.intro (@tFld186_1) <| And.intro (@tFld186_2) <| And.intro (@tFld186_3) <| And.intro (@tGuard186) <| And.intro (@tAgg191) <| And.intro (@tSz191) <| And.intro (@tBytes191) <| And.intro (@tZero191) <| And.intro (@tAgg198) <| And.intro (@tSz198) <| And.intro (@tBytes198) <| And.intro (@tZero198) <| And.intro (@tPlaces198) <| And.intro (@tFld198_0) <| And.intro (@tFld198_1) <| And.intro (@tFld198_2) <| (@tFld198_3)
theorem tyset21 : type_of% (And.intro (@tGuard198) <| And.intro (@tAgg199) <| And.intro (@tSz199) <| And.intro (@tBytes199) <| And.intro (@tZero199) <| And.intro (@tPlaces199) <| And.intro (@tFld199_0) <| And.intro (@tFld199_1) <| And.intro (@tFld199_2) <| And.intro (@tFld199_3) <| And.intro (@tGuard199) <| And.intro (@tAgg200) <| And.intro (@tSz200) <| And.intro (@tBytes200) <| And.intro (@tZero200) <| And.intro (@tPlaces200) <| And.intro (@tFld200_0) <| And.intro (@tFld200_1) <| And.intro (@tFld200_2) <| And.intro (@tFld200_3) <| And.intro (@tFld200_4) <| And.intro (@tGuard200) <| And.intro (@tAgg201) <| (@tSz201)) :=
  And.intro (@tGuard198) <| And.intro (@tAgg199) <| And.intro (@tSz199) <| And.intro (@tBytes199) <| And.intro (@tZero199) <| And.intro (@tPlaces199) <| And.intro (@tFld199_0) <| And.intro (@tFld199_1) <| And.intro (@tFld199_2) <| And.intro (@tFld199_3) <| And.intro (@tGuard199) <| And.intro (@tAgg200) <| And.intro (@tSz200) <| And.intro (@tBytes200) <| And.intro (@tZero200) <| And.intro (@tPlaces200) <| And.intro (@tFld200_0) <| And.intro (@tFld200_1) <| And.intro (@tFld200_2) <| And.intro (@tFld200_3) <| And.intro (@tFld200_4) <| And.intro (@tGuard200) <| And.intro (@tAgg201) <| (@tSz201)
theorem tyset22 : type_of% (And.intro (@tBytes201) <| And.intro (@tZero201) <| And.intro (@tPlaces201) <| And.intro (@tFld201_0) <| And.intro (@tFld201_1) <| And.intro (@tFld201_2) <| And.intro (@tFld201_3) <| And.intro (@tFld201_4) <| And.intro (@tGuard201) <| And.intro (@tAgg206) <| And.intro (@tSz206) <| And.intro (@tBytes206) <| And.intro (@tZero206) <| And.intro (@tPlaces206) <| And.intro (@tFld206_0) <| And.intro (@tFld206_1) <| And.intro (@tGuard206) <| And.intro (@tEq206) <| And.intro (@tAgg207) <| And.intro (@tSz207) <| And.intro (@tBytes207) <| And.intro (@tZero207) <| And.intro (@tPlaces207) <| (@tFld207_0)) :=
  And.intro (@tBytes201) <| And.intro (@tZero201) <| And.intro (@tPlaces201) <| And.intro (@tFld201_0) <| And.intro (@tFld201_1) <| And.intro (@tFld201_2) <| And.intro (@tFld201_3) <| And.intro (@tFld201_4) <| And.intro (@tGuard201) <| And.intro (@tAgg206) <| And.intro (@tSz206) <| And.intro (@tBytes206) <| And.intro (@tZero206) <| And.intro (@tPlaces206) <| And.intro (@tFld206_0) <| And.intro (@tFld206_1) <| And.intro (@tGuard206) <| And.intro (@tEq206) <| And.intro (@tAgg207) <| And.intro (@tSz207) <| And.intro (@tBytes207) <| And.intro (@tZero207) <| And.intro (@tPlaces207) <| (@tFld207_0)
theorem tyset23 : type_of% (And.intro (@tFld207_1) <| And.intro (@tGuard207) <| And.intro (@tEq207) <| And.intro (@tAgg210) <| And.intro (@tSz210) <| And.intro (@tBytes210) <| And.intro (@tZero210) <| And.intro (@tPlaces210) <| And.intro (@tFld210_0) <| And.intro (@tFld210_1) <| And.intro (@tFld210_2) <| And.intro (@tGuard210) <| And.intro (@tEq210) <| And.intro (@tAgg211) <| And.intro (@tSz211) <| And.intro (@tBytes211) <| And.intro (@tZero211) <| And.intro (@tPlaces211) <| And.intro (@tFld211_0) <| And.intro (@tFld211_1) <| And.intro (@tFld211_2) <| And.intro (@tGuard211) <| And.intro (@tEq211) <| (@tAgg220)) :=
  And.intro (@tFld207_1) <| And.intro (@tGuard207) <| And.intro (@tEq207) <| And.intro (@tAgg210) <| And.intro (@tSz210) <| And.intro (@tBytes210) <| And.intro (@tZero210) <| And.intro (@tPlaces210) <| And.intro (@tFld210_0) <| And.intro (@tFld210_1) <| And.intro (@tFld210_2) <| And.intro (@tGuard210) <| And.intro (@tEq210) <| And.intro (@tAgg211) <| And.intro (@tSz211) <| And.intro (@tBytes211) <| And.intro (@tZero211) <| And.intro (@tPlaces211) <| And.intro (@tFld211_0) <| And.intro (@tFld211_1) <| And.intro (@tFld211_2) <| And.intro (@tGuard211) <| And.intro (@tEq211) <| (@tAgg220)
theorem tyset24 : type_of% (And.intro (@tSz220) <| And.intro (@tBytes220) <| And.intro (@tZero220) <| And.intro (@tElem220) <| And.intro (@tIsSlice220) <| And.intro (@tAgg222) <| And.intro (@tSz222) <| And.intro (@tBytes222) <| And.intro (@tZero222) <| And.intro (@tPlaces222) <| And.intro (@tFld222_0) <| And.intro (@tFld222_1) <| And.intro (@tGuard222) <| And.intro (@tEq222) <| And.intro (@tAgg223) <| And.intro (@tSz223) <| And.intro (@tBytes223) <| And.intro (@tZero223) <| And.intro (@tPlaces223) <| And.intro (@tFld223_0) <| And.intro (@tFld223_1) <| And.intro (@tGuard223) <| And.intro (@tEq223) <| (@tAgg239)) :=
  And.intro (@tSz220) <| And.intro (@tBytes220) <| And.intro (@tZero220) <| And.intro (@tElem220) <| And.intro (@tIsSlice220) <| And.intro (@tAgg222) <| And.intro (@tSz222) <| And.intro (@tBytes222) <| And.intro (@tZero222) <| And.intro (@tPlaces222) <| And.intro (@tFld222_0) <| And.intro (@tFld222_1) <| And.intro (@tGuard222) <| And.intro (@tEq222) <| And.intro (@tAgg223) <| And.intro (@tSz223) <| And.intro (@tBytes223) <| And.intro (@tZero223) <| And.intro (@tPlaces223) <| And.intro (@tFld223_0) <| And.intro (@tFld223_1) <| And.intro (@tGuard223) <| And.intro (@tEq223) <| (@tAgg239)
theorem tyset25 : type_of% (And.intro (@tSz239) <| And.intro (@tBytes239) <| And.intro (@tZero239) <| And.intro (@tElem239) <| And.intro (@tIsSlice239) <| And.intro (@tAgg240) <| And.intro (@tSz240) <| And.intro (@tBytes240) <| And.intro (@tZero240) <| And.intro (@tPlaces240) <| And.intro (@tFld240_0) <| And.intro (@tFld240_1) <| And.intro (@tFld240_2) <| And.intro (@tGuard240) <| And.intro (@tAgg241) <| And.intro (@tSz241) <| And.intro (@tBytes241) <| And.intro (@tZero241) <| And.intro (@tPlaces241) <| And.intro (@tFld241_0) <| And.intro (@tFld241_1) <| And.intro (@tFld241_2) <| And.intro (@tGuard241) <| (@tAgg249)) :=
  And.intro (@tSz239) <| And.intro (@tBytes239) <| And.intro (@tZero239) <| And.intro (@tElem239) <| And.intro (@tIsSlice239) <| And.intro (@tAgg240) <| And.intro (@tSz240) <| And.intro (@tBytes240) <| And.intro (@tZero240) <| And.intro (@tPlaces240) <| And.intro (@tFld240_0) <| And.intro (@tFld240_1) <| And.intro (@tFld240_2) <| And.intro (@tGuard240) <| And.intro (@tAgg241) <| And.intro (@tSz241) <| And.intro (@tBytes241) <| And.intro (@tZero241) <| And.intro (@tPlaces241) <| And.intro (@tFld241_0) <| And.intro (@tFld241_1) <| And.intro (@tFld241_2) <| And.intro (@tGuard241) <| (@tAgg249)
theorem tyset26 : type_of% (And.intro (@tSz249) <| And.intro (@tBytes249) <| And.intro (@tZero249) <| And.intro (@tInt249) <| And.intro (@tUnd249) <| And.intro (@tAgg256) <| And.intro (@tSz256) <| And.intro (@tBytes256) <| And.intro (@tZero256) <| And.intro (@tPlaces256) <| And.intro (@tFld256_0) <| And.intro (@tFld256_1) <| And.intro (@tFld256_2) <| And.intro (@tFld256_3) <| And.intro (@tFld256_4) <| And.intro (@tGuard256) <| And.intro (@tAgg257) <| And.intro (@tSz257) <| And.intro (@tBytes257) <| And.intro (@tZero257) <| And.intro (@tPlaces257) <| And.intro (@tFld257_0) <| And.intro (@tFld257_1) <| (@tFld257_2)) :=
  And.intro (@tSz249) <| And.intro (@tBytes249) <| And.intro (@tZero249) <| And.intro (@tInt249) <| And.intro (@tUnd249) <| And.intro (@tAgg256) <| And.intro (@tSz256) <| And.intro (@tBytes256) <| And.intro (@tZero256) <| And.intro (@tPlaces256) <| And.intro (@tFld256_0) <| And.intro (@tFld256_1) <| And.intro (@tFld256_2) <| And.intro (@tFld256_3) <| And.intro (@tFld256_4) <| And.intro (@tGuard256) <| And.intro (@tAgg257) <| And.intro (@tSz257) <| And.intro (@tBytes257) <| And.intro (@tZero257) <| And.intro (@tPlaces257) <| And.intro (@tFld257_0) <| And.intro (@tFld257_1) <| (@tFld257_2)
theorem tyset27 : type_of% (And.intro (@tFld257_3) <| And.intro (@tFld257_4) <| And.intro (@tGuard257) <| And.intro (@tAgg288) <| And.intro (@tSz288) <| And.intro (@tBytes288) <| And.intro (@tZero288) <| And.intro (@tIdx288) <| And.intro (@tPlaces288) <| And.intro (@tAgg303) <| And.intro (@tSz303) <| And.intro (@tBytes303) <| And.intro (@tZero303) <| And.intro (@tPlaces303) <| And.intro (@tFld303_0) <| And.intro (@tFld303_1) <| And.intro (@tFld303_2) <| And.intro (@tFld303_3) <| And.intro (@tFld303_4) <| And.intro (@tFld303_5) <| And.intro (@tGuard303) <| And.intro (@tAgg304) <| And.intro (@tSz304) <| (@tBytes304)) :=
  And.intro (@tFld257_3) <| And.intro (@tFld257_4) <| And.intro (@tGuard257) <| And.intro (@tAgg288) <| And.intro (@tSz288) <| And.intro (@tBytes288) <| And.intro (@tZero288) <| And.intro (@tIdx288) <| And.intro (@tPlaces288) <| And.intro (@tAgg303) <| And.intro (@tSz303) <| And.intro (@tBytes303) <| And.intro (@tZero303) <| And.intro (@tPlaces303) <| And.intro (@tFld303_0) <| And.intro (@tFld303_1) <| And.intro (@tFld303_2) <| And.intro (@tFld303_3) <| And.intro (@tFld303_4) <| And.intro (@tFld303_5) <| And.intro (@tGuard303) <| And.intro (@tAgg304) <| And.intro (@tSz304) <| (@tBytes304)
theorem tyset28 : type_of% (And.intro (@tZero304) <| And.intro (@tPlaces304) <| And.intro (@tFld304_0) <| And.intro (@tFld304_1) <| And.intro (@tFld304_2) <| And.intro (@tFld304_3) <| And.intro (@tFld304_4) <| And.intro (@tFld304_5) <| And.intro (@tGuard304) <| And.intro (@tAgg310) <| And.intro (@tSz310) <| And.intro (@tBytes310) <| And.intro (@tZero310) <| And.intro (@tInt310) <| And.intro (@tUnd310) <| And.intro (@tAgg318) <| And.intro (@tSz318) <| And.intro (@tBytes318) <| And.intro (@tZero318) <| And.intro (@tInt318) <| And.intro (@tUnd318) <| And.intro (@tAgg320) <| And.intro (@tSz320) <| (@tBytes320)) :=
  And.intro (@tZero304) <| And.intro (@tPlaces304) <| And.intro (@tFld304_0) <| And.intro (@tFld304_1) <| And.intro (@tFld304_2) <| And.intro (@tFld304_3) <| And.intro (@tFld304_4) <| And.intro (@tFld304_5) <| And.intro (@tGuard304) <| And.intro (@tAgg310) <| And.intro (@tSz310) <| And.intro (@tBytes310) <| And.intro (@tZero310) <| And.intro (@tInt310) <| And.intro (@tUnd310) <| And.intro (@tAgg318) <| And.intro (@tSz318) <| And.intro (@tBytes318) <| And.intro (@tZero318) <| And.intro (@tInt318) <| And.intro (@tUnd318) <| And.intro (@tAgg320) <| And.intro (@tSz320) <| (@tBytes320)
theorem tyset29 : type_of% (And.intro (@tZero320) <| And.intro (@tInt320) <| And.intro (@tUnd320) <| And.intro (@tAgg326) <| And.intro (@tSz326) <| And.intro (@tBytes326) <| And.intro (@tZero326) <| And.intro (@tIdx326) <| And.intro (@tPlaces326) <| And.intro (@tAgg329) <| And.intro (@tSz329) <| And.intro (@tBytes329) <| And.intro (@tZero329) <| And.intro (@tIdx329) <| And.intro (@tPlaces329) <| And.intro (@tAgg343) <| And.intro (@tSz343) <| And.intro (@tBytes343) <| And.intro (@tZero343) <| And.intro (@tElem343) <| And.intro (@tIsSlice343) <| And.intro (@tAgg348) <| And.intro (@tSz348) <| (@tBytes348)) :=
  And.intro (@tZero320) <| And.intro (@tInt320) <| And.intro (@tUnd320) <| And.intro (@tAgg326) <| And.intro (@tSz326) <| And.intro (@tBytes326) <| And.intro (@tZero326) <| And.intro (@tIdx326) <| And.intro (@tPlaces326) <| And.intro (@tAgg329) <| And.intro (@tSz329) <| And.intro (@tBytes329) <| And.intro (@tZero329) <| And.intro (@tIdx329) <| And.intro (@tPlaces329) <| And.intro (@tAgg343) <| And.intro (@tSz343) <| And.intro (@tBytes343) <| And.intro (@tZero343) <| And.intro (@tElem343) <| And.intro (@tIsSlice343) <| And.intro (@tAgg348) <| And.intro (@tSz348) <| (@tBytes348)
theorem tyset30 : type_of% (And.intro (@tZero348) <| And.intro (@tPlaces348) <| And.intro (@tFld348_0) <| And.intro (@tFld348_1) <| And.intro (@tGuard348) <| And.intro (@tEq348) <| And.intro (@tAgg349) <| And.intro (@tSz349) <| And.intro (@tBytes349) <| And.intro (@tZero349) <| And.intro (@tPlaces349) <| And.intro (@tFld349_0) <| And.intro (@tFld349_1) <| And.intro (@tGuard349) <| And.intro (@tEq349) <| And.intro (@tAgg352) <| And.intro (@tSz352) <| And.intro (@tBytes352) <| And.intro (@tZero352) <| And.intro (@tInt352) <| And.intro (@tUnd352) <| And.intro (@tAgg356) <| And.intro (@tSz356) <| (@tBytes356)) :=
  And.intro (@tZero348) <| And.intro (@tPlaces348) <| And.intro (@tFld348_0) <| And.intro (@tFld348_1) <| And.intro (@tGuard348) <| And.intro (@tEq348) <| And.intro (@tAgg349) <| And.intro (@tSz349) <| And.intro (@tBytes349) <| And.intro (@tZero349) <| And.intro (@tPlaces349) <| And.intro (@tFld349_0) <| And.intro (@tFld349_1) <| And.intro (@tGuard349) <| And.intro (@tEq349) <| And.intro (@tAgg352) <| And.intro (@tSz352) <| And.intro (@tBytes352) <| And.intro (@tZero352) <| And.intro (@tInt352) <| And.intro (@tUnd352) <| And.intro (@tAgg356) <| And.intro (@tSz356) <| (@tBytes356)
theorem tyset31 : type_of% (And.intro (@tZero356) <| And.intro (@tAgg360) <| And.intro (@tSz360) <| And.intro (@tBytes360) <| And.intro (@tZero360) <| And.intro (@tElem360) <| And.intro (@tIsSlice360) <| And.intro (@tAgg369) <| And.intro (@tSz369) <| And.intro (@tBytes369) <| And.intro (@tZero369) <| And.intro (@tAgg373) <| And.intro (@tSz373) <| And.intro (@tBytes373) <| And.intro (@tZero373) <| And.intro (@tAgg383) <| And.intro (@tSz383) <| And.intro (@tBytes383) <| And.intro (@tZero383) <| And.intro (@tPlaces383) <| And.intro (@tFld383_0) <| And.intro (@tFld383_1) <| And.intro (@tFld383_2) <| (@tFld383_3)) :=
  And.intro (@tZero356) <| And.intro (@tAgg360) <| And.intro (@tSz360) <| And.intro (@tBytes360) <| And.intro (@tZero360) <| And.intro (@tElem360) <| And.intro (@tIsSlice360) <| And.intro (@tAgg369) <| And.intro (@tSz369) <| And.intro (@tBytes369) <| And.intro (@tZero369) <| And.intro (@tAgg373) <| And.intro (@tSz373) <| And.intro (@tBytes373) <| And.intro (@tZero373) <| And.intro (@tAgg383) <| And.intro (@tSz383) <| And.intro (@tBytes383) <| And.intro (@tZero383) <| And.intro (@tPlaces383) <| And.intro (@tFld383_0) <| And.intro (@tFld383_1) <| And.intro (@tFld383_2) <| (@tFld383_3)
theorem tyset32 : type_of% (And.intro (@tGuard383) <| And.intro (@tAgg393) <| And.intro (@tSz393) <| And.intro (@tBytes393) <| And.intro (@tZero393) <| And.intro (@tPlaces393) <| And.intro (@tFld393_0) <| And.intro (@tFld393_1) <| And.intro (@tFld393_2) <| And.intro (@tFld393_3) <| And.intro (@tFld393_4) <| And.intro (@tFld393_5) <| And.intro (@tFld393_6) <| And.intro (@tFld393_7) <| And.intro (@tFld393_8) <| And.intro (@tFld393_9) <| And.intro (@tFld393_10) <| (@tGuard393)) :=
  And.intro (@tGuard383) <| And.intro (@tAgg393) <| And.intro (@tSz393) <| And.intro (@tBytes393) <| And.intro (@tZero393) <| And.intro (@tPlaces393) <| And.intro (@tFld393_0) <| And.intro (@tFld393_1) <| And.intro (@tFld393_2) <| And.intro (@tFld393_3) <| And.intro (@tFld393_4) <| And.intro (@tFld393_5) <| And.intro (@tFld393_6) <| And.intro (@tFld393_7) <| And.intro (@tFld393_8) <| And.intro (@tFld393_9) <| And.intro (@tFld393_10) <| (@tGuard393)
theorem tyset : type_of% (And.intro (@tyset0) <| And.intro (@tyset1) <| And.intro (@tyset2) <| And.intro (@tyset3) <| And.intro (@tyset4) <| And.intro (@tyset5) <| And.intro (@tyset6) <| And.intro (@tyset7) <| And.intro (@tyset8) <| And.intro (@tyset9) <| And.intro (@tyset10) <| And.intro (@tyset11) <| And.intro (@tyset12) <| And.intro (@tyset13) <| And.intro (@tyset14) <| And.intro (@tyset15) <| And.intro (@tyset16) <| And.intro (@tyset17) <| And.intro (@tyset18) <| And.intro (@tyset19) <| And.intro (@tyset20) <| And.intro (@tyset21) <| And.intro (@tyset22) <| And.intro (@tyset23) <| And.intro (@tyset24) <| And.intro (@tyset25) <| And.intro (@tyset26) <| And.intro (@tyset27) <| And.intro (@tyset28) <| And.intro (@tyset29) <| And.intro (@tyset30) <| And.intro (@tyset31) <| (@tyset32)) :=
  And.intro (@tyset0) <| And.intro (@tyset1) <| And.intro (@tyset2) <| And.intro (@tyset3) <| And.intro (@tyset4) <| And.intro (@tyset5) <| And.intro (@tyset6) <| And.intro (@tyset7) <| And.intro (@tyset8) <| And.intro (@tyset9) <| And.intro (@tyset10) <| And.intro (@tyset11) <| And.intro (@tyset12) <| And.intro (@tyset13) <| And.intro (@tyset14) <| And.intro (@tyset15) <| And.intro (@tyset16) <| And.intro (@tyset17) <| And.intro (@tyset18) <| And.intro (@tyset19) <| And.intro (@tyset20) <| And.intro (@tyset21) <| And.intro (@tyset22) <| And.intro (@tyset23) <| And.intro (@tyset24) <| And.intro (@tyset25) <| And.intro (@tyset26) <| And.intro (@tyset27) <| And.intro (@tyset28) <| And.intro (@tyset29) <| And.intro (@tyset30) <| And.intro (@tyset31) <| (@tyset32)

set_option linter.unusedSimpArgs false
set_option linter.unusedVariables false
open Go.RowKit
theorem own : ownKnob Tryz.prog.godebug = none := by kernel_rfl
theorem laidOut : laidOutB Tryz.prog = true := by kernel_rfl
open Go.RowKit
/-- A slice of n elements that are the whole of a block, or an empty one. -/
def Sl (H : AHeap) (sz : Nat) (s : AV) (n : Nat) (xs : List AV) : Prop := ∃ b own cap, s = .sl (some (b, 0)) n cap ∧ H[b]? = some (.cells own sz xs)
theorem Sl.app {H : AHeap} {sz n : Nat} {s : AV} {xs : List AV} (h : Sl H sz s n xs) (l : AHeap) : Sl (H ++ l) sz s n xs := by
  obtain ⟨b, own, cap, h1, h2⟩ := h
  exact ⟨b, own, cap, h1, get_app h2⟩
abbrev SlP (H : AHeap) (s : AV) (l : List (Int × Int)) : Prop := Sl H 2 s l.length (prs l)
abbrev SlI (H : AHeap) (k : IntKind) (s : AV) (l : List Int) : Prop := Sl H 1 s l.length (ints k l)
/-- A row that began as nil and has grown: its capacity, and whether its block is the function's own. -/
def capG (n : Nat) : Option Nat := match n with | 0 => some 0 | _ + 1 => none
def ownG (n : Nat) : Bool := match n with | 0 => false | _ + 1 => true
theorem capG_0 : capG 0 = some 0 := rfl
theorem ownG_0 : ownG 0 = false := rfl
theorem capG_s {n : Nat} : capG (n + 1) = none := rfl
theorem ownG_s {n : Nat} : ownG (n + 1) = true := rfl
theorem capG_p {n : Nat} (h : 0 < n) : capG n = none := by cases n <;> first | rfl | omega
theorem ownG_p {n : Nat} (h : 0 < n) : ownG n = true := by cases n <;> first | rfl | omega
theorem aApp_nil {P : Program} {t : TypeId} {n : Nat} {c : Option Nat} {x : AV} {H : AHeap} : aAppend P t (.sl none n c) x H = (tElem P t).bind fun e => (tSz P e).bind fun sz => (tBytes P e).bind fun by_ => (tZero P e).bind fun z => (aElems sz x H).bind fun mx =>
    (need (z.length = sz ∧ 0 < sz ∧ 0 < by_)).bind fun _ => (need (n = 0)).bind fun _ => bif mx.1 == 0 then some (.sl none 0 (some 0), H) else (need (mx.1 * by_ ≤ 140737488355328)).map fun _ => (.sl (some (H.length, 0)) mx.1 none, H ++ [.cells true sz mx.2]) := rfl
theorem aApp_none {P : Program} {t : TypeId} {b o n : Nat} {x : AV} {H : AHeap} : aAppend P t (.sl (some (b, o)) n none) x H = (tElem P t).bind fun e => (tSz P e).bind fun sz => (tBytes P e).bind fun by_ => (tZero P e).bind fun z => (aElems sz x H).bind fun mx =>
    (need (z.length = sz ∧ 0 < sz ∧ 0 < by_)).bind fun _ => (ards H b o (n * sz)).bind fun olds => (need ((n + mx.1) * by_ ≤ 140737488355328)).bind fun _ =>
      bif n + mx.1 == 0 then some (.sl (some (b, o)) 0 none, H)
      else match H[b]? with
        | some (.cells true es _) => (need (es = sz)).map fun _ => (.sl (some (H.length, 0)) (n + mx.1) none, H.set b .dead ++ [.cells true sz (olds ++ mx.2)])
        | _ => none := rfl
theorem aApp_some {P : Program} {t : TypeId} {b o n c : Nat} {x : AV} {H : AHeap} : aAppend P t (.sl (some (b, o)) n (some c)) x H = (tElem P t).bind fun e => (tSz P e).bind fun sz => (tBytes P e).bind fun by_ => (tZero P e).bind fun z => (aElems sz x H).bind fun mx =>
    (need (z.length = sz ∧ 0 < sz ∧ 0 < by_)).bind fun _ => (ards H b o (n * sz)).bind fun olds => (need ((n + mx.1) * by_ ≤ 140737488355328)).bind fun _ =>
      bif n + mx.1 == 0 then some (.sl (some (b, o)) 0 (some c), H)
      else bif decide (c < n + mx.1) then some (.sl (some (H.length, 0)) (n + mx.1) none, H ++ [.cells true sz (olds ++ mx.2)])
      else match H[b]? with
        | some (.cells true es _) => (need (es = sz)).map fun _ => (.sl (some (H.length, 0)) (n + mx.1) none, H.set b .dead ++ [.cells true sz (olds ++ mx.2)])
        | _ => none := rfl
/-- What is left of the elder block. -/
def killG (n : Nat) (X : ABlk) : ABlk := match n with | 0 => X | _ + 1 => .dead
/-- More is appended to a row that grows. -/
theorem aApp_grown {P : Program} {t : TypeId} {b n : Nat} {x : AV} {H : AHeap} : aAppend P t (.sl (some (b, 0)) n (capG n)) x H = (tElem P t).bind fun e => (tSz P e).bind fun sz => (tBytes P e).bind fun by_ => (tZero P e).bind fun z => (aElems sz x H).bind fun mx =>
    (need (z.length = sz ∧ 0 < sz ∧ 0 < by_)).bind fun _ => match H[b]? with
      | some (.cells own es xs) => bif (own == ownG n) && (decide (es = sz) && (decide (xs.length = n * sz) && (decide (0 < mx.1) && xs.all AV.one))) then
          (need ((n + mx.1) * by_ ≤ 140737488355328)).map fun _ => (.sl (some (H.length, 0)) (n + mx.1) none, H.set b (killG n (.cells own es xs)) ++ [.cells true sz (xs ++ mx.2)])
        else aAppend P t (.sl (some (b, 0)) n (capG n)) x H
      | _ => aAppend P t (.sl (some (b, 0)) n (capG n)) x H := by
  cases h1 : tElem P t with
  | none => simp [aAppend, h1]
  | some e =>
  cases h2 : tSz P e with
  | none => simp [aAppend, h1, h2]
  | some sz =>
  cases h3 : tBytes P e with
  | none => simp [aAppend, h1, h2, h3]
  | some by_ =>
  cases h4 : tZero P e with
  | none => simp [aAppend, h1, h2, h3, h4]
  | some z =>
  cases h5 : aElems sz x H with
  | none => simp [aAppend, h1, h2, h3, h4, h5]
  | some mx =>
  simp only [Option.bind_some, h2, h3, h4, h5]
  by_cases hz : z.length = sz ∧ 0 < sz ∧ 0 < by_
  · have hn : need (z.length = sz ∧ 0 < sz ∧ 0 < by_) = some () := if_pos hz
    rw [hn, Option.bind_some]
    split
    · rename_i own es xs hb
      cases hc : (own == ownG n) && (decide (es = sz) && (decide (xs.length = n * sz) && (decide (0 < mx.1) && xs.all AV.one))) with
      | false => rfl
      | true =>
        rw [cond_true]
        simp only [Bool.and_eq_true, beq_iff_eq, decide_eq_true_eq] at hc
        obtain ⟨rfl, rfl, hl, hm, ho⟩ := hc
        have hard : ards H b 0 (n * es) = some xs := by
          unfold ards
          rw [hb]
          simp only
          rw [List.drop_zero, List.take_of_length_le (by omega)]
          simp [hl, ho]
        cases n with
        | zero =>
          simp only [aAppend, h1, h2, h3, h4, h5, Option.bind_some, hn, hard, capG, killG]
          have e0 : (0 + mx.1 == 0) = false := beq_eq_false_iff_ne.2 (by omega)
          rw [e0, cond_false, decide_eq_true (by omega : (0 : Nat) < 0 + mx.1), cond_true]
          have hs : H.set b (.cells (ownG 0) es xs) = H := by
            refine List.ext_getElem? fun i => ?_
            rw [List.getElem?_set]
            split
            · rename_i e; subst e
              split
              · rw [hb]
              · rename_i hh; exact absurd (getElem?_lt hb) hh
            · rfl
          rw [hs]
          unfold need
          split <;> rfl
        | succ n =>
          simp only [aAppend, h1, h2, h3, h4, h5, Option.bind_some, hn, hard, capG, killG, hb, ownG]
          have e0 : (n + 1 + mx.1 == 0) = false := beq_eq_false_iff_ne.2 (by omega)
          rw [e0, cond_false, cond_false]
          have e1 : need True = some () := if_pos trivial
          rw [e1]
          unfold need
          split <;> rfl
    · rfl
  · have hn : need (z.length = sz ∧ 0 < sz ∧ 0 < by_) = none := if_neg hz
    simp only [aAppend, h1, h2, h3, h4, h5, Option.bind_some, hn, Option.bind_none]
theorem prs_one {l : List (Int × Int)} : (prs l).all AV.one = true := by
  induction l with
  | nil => rfl
  | cons p l ih => rw [prs_cons]; simp [AV.one, ih]
theorem ints_ones {k : IntKind} {l : List Int} : (ints k l).all AV.one = true := by simp [ints, AV.one]
section
variable {P : Program} {f : FuncId} {args : List AV} {H l1 : AHeap} {x : AV}
/-- What a call leaves, seen in another way. -/
theorem ACalls.weak (h : ACalls P f args H fun y H1 => y = x ∧ H1 = H ++ l1) (G : AHeap) (hG : G.all phant = true) (sel : List Nat) (hnd : sel.Nodup) (x2 : AV) (l2 : AHeap)
    (hw : W (H.length + (l1 ++ G).length) x (x2.mv (sig H.length (l1 ++ G).length sel)) ∧ absH (H.length + (l1 ++ G).length) (sig H.length (l1 ++ G).length sel) (l1 ++ G) sel l2) :
    ACalls P f args H fun y H1 => y = x2 ∧ H1 = H ++ l2 := fun E w vs hE hv => by
  refine (h E w vs hE hv).mono ?_
  rintro e w' ⟨E', v, H', x', he, ⟨rfl, rfl⟩, hle, hr, hemb⟩
  have hab := Abs.of (n := H.length) (H0 := H) (l1 := l1) (l2 := l2) (F1 := [(0, x')]) (F2 := [(0, x2)]) G hG rfl hE.bel sel hnd (fun p hp => by simp at hp; subst hp; exact hw.1) (absH_get hw.2).1 (absH_get hw.2).2
  obtain ⟨E2, l, f2, e2⟩ := hab.emb (a := ⟨#[v], []⟩) (by rw [hemb.n]; simp) (fun t => by
    unfold look
    cases t with
    | zero => simpa using hr
    | succ t => simp [look]; exact .any _) hemb
  refine ⟨E2, v, _, x2, he, ⟨rfl, rfl⟩, ?_, by have := f2 0; simpa [look] using this, e2⟩
  have hn := hE.n
  exact ⟨l.B.trans hle.B, l.w0.trans hle.w0, by rw [hn]; exact l.n, fun b hb => (l.loc b (by rw [← hn]; exact hb)).trans (hle.loc b hb)⟩
theorem ACalls.weak0 (h : ACalls P f args H fun y H1 => y = x ∧ H1 = H) (G : AHeap) (hG : G.all phant = true) (sel : List Nat) (hnd : sel.Nodup) (x2 : AV) (l2 : AHeap)
    (hw : W (H.length + G.length) x (x2.mv (sig H.length G.length sel)) ∧ absH (H.length + G.length) (sig H.length G.length sel) G sel l2) :
    ACalls P f args H fun y H1 => y = x2 ∧ H1 = H ++ l2 :=
  ACalls.weak (l1 := []) (h.mono fun y H1 ⟨a, b⟩ => ⟨a, by rw [b, List.append_nil]⟩) G hG sel hnd x2 l2 hw
end
section
variable {P : Program} {f : FuncId} {H : AHeap}
/-- An empty slice is nil, or it is none: a call at it. -/
theorem ACalls.nilsplit {b es : Nat} {cap : Option Nat} {x x2 : AV} {l1 l2 : AHeap} (h1 : ACalls P f [.sl none 0 (some 0)] H fun y H1 => y = x2 ∧ H1 = H ++ l2) (h2 : ∀ c, 0 < c → ACalls P f [.sl (some (b, 0)) 0 (some c)] H fun y H1 => y = x2 ∧ H1 = H ++ l2)
    (h3 : ACalls P f [.sl (some (H.length, 1)) 0 (some 0)] (H ++ [.cells false es []]) fun y H1 => y = x ∧ H1 = H ++ l1) (G : AHeap) (hG : G.all phant = true) (sel : List Nat) (hnd : sel.Nodup)
    (hw : W (H.length + (l1 ++ G).length) x (x2.mv (sig H.length (l1 ++ G).length sel)) ∧ absH (H.length + (l1 ++ G).length) (sig H.length (l1 ++ G).length sel) (l1 ++ G) sel l2) :
    ACalls P f [.sl (some (b, 0)) 0 cap] H fun y H1 => y = x2 ∧ H1 = H ++ l2 := fun E w vs hE hv => by
  obtain ⟨v1, l1, rfl, k1, h1'⟩ := rels_cons hv
  obtain rfl := rels_nil h1'
  cases k1 with
  | nils _ _ hb hc => exact h1 E w _ hE (.cons .nilsl (.nil E))
  | sl _ _ _ _ c a hb q1 q2 q3 q4 q5 =>
    rcases Nat.eq_zero_or_pos c with rfl | h0
    · have hn := hE.n
      have hX : Emb (E.push ⟨0, 0, 1, es⟩) (H ++ [.cells false es []]) w := by
        have hle := E.le_push ⟨0, 0, 1, es⟩
        have e1 : (E.push ⟨0, 0, 1, es⟩).loc H.length = ⟨0, 0, 1, es⟩ := by rw [← hn]; exact Env.push_new _ _
        refine ⟨by simp [Env.push, hn], hE.below, hE.base, fun b x hbx => ?_, fun b c x y hbx hcy ox oy hbc => ?_⟩
        · by_cases hbl : b < H.length
          · rw [List.getElem?_append_left hbl] at hbx
            rw [Env.push_old _ _ (by omega)]
            exact (hE.blk b x hbx).mono hle (Nat.le_refl _) (fun _ => rfl) (fun _ => rfl)
          · have hbe : b = H.length := by have := getElem?_lt hbx; simp at this; omega
            subst hbe
            rw [List.getElem?_append_right (Nat.le_refl _), Nat.sub_self] at hbx
            simp at hbx; subst hbx
            rw [e1]
            exact ⟨fun j x hj => by simp at hj, (fun h => by cases h), fun _ h0 => by simp at h0, rfl⟩
        · by_cases hbl : b < H.length
          · by_cases hcl : c < H.length
            · rw [List.getElem?_append_left hbl] at hbx
              rw [List.getElem?_append_left hcl] at hcy
              rw [Env.push_old _ _ (by omega), Env.push_old _ _ (by omega)]
              exact hE.inj b c x y hbx hcy ox oy hbc
            · have hbe : c = H.length := by have := getElem?_lt hcy; simp at this; omega
              subst hbe
              rw [List.getElem?_append_right (Nat.le_refl _), Nat.sub_self] at hcy
              simp at hcy; subst hcy; cases oy
          · have hbe : b = H.length := by have := getElem?_lt hbx; simp at this; omega
            subst hbe
            rw [List.getElem?_append_right (Nat.le_refl _), Nat.sub_self] at hbx
            simp at hbx; subst hbx; cases ox
      refine (h3 (E.push ⟨0, 0, 1, es⟩) w _ hX (.cons (.sl H.length 1 0 (some 0) 0 a (by simp [Env.push, hn]) (Nat.le_refl _) (by simp) (.inr rfl) (.inl rfl) ?_) (.nil _))).mono ?_
      · have e1 : (E.push ⟨0, 0, 1, es⟩).loc H.length = ⟨0, 0, 1, es⟩ := by rw [← hn]; exact Env.push_new _ _
        rw [e1]; simp
      · rintro e w' ⟨E', v, H', x', he, ⟨rfl, rfl⟩, hle, hr, hemb⟩
        have hab := Abs.of (n := H.length) (H0 := H) (l1 := l1) (l2 := l2) (F1 := [(0, x')]) (F2 := [(0, x2)]) G hG rfl hE.bel sel hnd (fun p hp => by simp at hp; subst hp; exact hw.1) (absH_get hw.2).1 (absH_get hw.2).2
        obtain ⟨E2, l, f2, e2⟩ := hab.emb (a := ⟨#[v], []⟩) (by rw [hemb.n]; simp) (fun t => by
          unfold look
          cases t with
          | zero => simpa using hr
          | succ t => simp [look]; exact .any _) hemb
        have hle' := (E.le_push ⟨0, 0, 1, es⟩).trans hle
        exact ⟨E2, v, _, x2, he, ⟨rfl, rfl⟩, ⟨l.B.trans hle'.B, l.w0.trans hle'.w0, by rw [hn]; exact l.n, fun b hb => (l.loc b (by rw [← hn]; exact hb)).trans (hle'.loc b hb)⟩, by have := f2 0; simpa [look] using this, e2⟩
    · exact h2 c h0 E w _ hE (.cons (.sl b 0 0 (some c) c a hb q1 q2 (.inr rfl) q4 q5) (.nil E))
end
theorem Abs.byN {H0 l1 : AHeap} {F1 F2 : Fr} (hsc : HBel H0.length H0) (h : absF (H0.length + l1.length) (sig H0.length l1.length []) F1 F2) : Abs H0.length (sig H0.length l1.length []) F1 (H0 ++ l1) F2 H0 := by
  have := Abs.by (l1 := l1) (l2 := []) (F1 := F1) (F2 := F2) hsc [] (by simp) ⟨h, trivial⟩
  simpa using this
theorem end_byE {P : Program} {fn : Func} {H l2 : AHeap} {R : AV → AHeap → Prop} {F : Fr} {e : Exit} (he : e = .ret ∨ e = .normal) (hbel : HBel H.length H) {x1 : AV} (x2 : AV) (hx : aResult P fn F H = some x1) (G : AHeap) (hG : G.all phant = true) (sel : List Nat) (hnd : sel.Nodup) (hR : R x2 (H ++ l2))
    (h : W (H.length + G.length) x1 (x2.mv (sig H.length G.length sel)) ∧ absH (H.length + G.length) (sig H.length G.length sel) G sel l2) : AEnd P fn H.length R e F H := by
  have h1 := end_byG (P := P) (fn := fn) (l1 := []) (l2 := l2) (R := R) (F := F) he hbel x2 (by simpa using hx) G hG sel hnd hR h
  simpa using h1
theorem ints_app {k : IntKind} {l m : List Int} : ints k (l ++ m) = ints k l ++ ints k m := by simp [ints]
theorem ints_cons {k : IntKind} {x : Int} {l : List Int} : ints k (x :: l) = .int k x :: ints k l := rfl
theorem ints_nil {k : IntKind} : ints k [] = [] := rfl
theorem bools_app {l m : List Bool} : bools (l ++ m) = bools l ++ bools m := by simp [bools]
theorem bools_cons {x : Bool} {l : List Bool} : bools (x :: l) = .bool x :: bools l := rfl
theorem bools_nil : bools [] = [] := rfl
set_option linter.unusedSimpArgs false
set_option linter.unusedVariables false
open Go.RowKit
/-- append, where nothing more is said of it. -/
def aAppendX (P : Program) (t : TypeId) (s x : AV) (H : AHeap) : Option (AV × AHeap) := aAppend P t s x H
/-- More is appended to a row that grows. -/
theorem aApp_grw {P : Program} {t : TypeId} {b n : Nat} {x : AV} {H : AHeap} : aAppend P t (.sl (some (b, 0)) n (capG n)) x H = (tElem P t).bind fun e => (tSz P e).bind fun sz => (tBytes P e).bind fun by_ => (tZero P e).bind fun z => (aElems sz x H).bind fun mx =>
    (need (z.length = sz ∧ 0 < sz ∧ 0 < by_)).bind fun _ => match H[b]? with
      | some (.cells own es xs) => bif (own == ownG n) && (decide (es = sz) && (decide (xs.length = n * sz) && (decide (0 < mx.1) && xs.all AV.one))) then
          (need ((n + mx.1) * by_ ≤ 140737488355328)).map fun _ => (.sl (some (H.length, 0)) (n + mx.1) none, H.set b (killG n (.cells own es xs)) ++ [.cells true sz (xs ++ mx.2)])
        else aAppendX P t (.sl (some (b, 0)) n (capG n)) x H
      | _ => aAppendX P t (.sl (some (b, 0)) n (capG n)) x H := aApp_grown
theorem W_nil0 {m b : Nat} (h : b < m) : W m (.sl none 0 (some 0)) (.sl (some (b, 0)) 0 none) = True := eq_true (W_nils h (.inl rfl))
theorem W_nil1 {m b : Nat} (h : b < m) : W m (.sl none 0 (some 0)) (.sl (some (b, 0)) 0 (some 0)) = True := eq_true (W_nils h (.inr rfl))
theorem W_cap' {m n : Nat} {p : Nat × Nat} {c : Option Nat} : W m (.sl (some p) n c) (.sl (some p) n none) = True := eq_true W_cap
theorem Wc_nil0 {m b : Nat} (h : b < m) : Wc m (.sl none 0 (some 0)) (.sl (some (b, 0)) 0 none) = True := eq_true (Wc_nils h (.inl rfl))
theorem Wc_nil1 {m b : Nat} (h : b < m) : Wc m (.sl none 0 (some 0)) (.sl (some (b, 0)) 0 (some 0)) = True := eq_true (Wc_nils h (.inr rfl))
theorem Wc_cap' {m n : Nat} {p : Nat × Nat} {c : Option Nat} : Wc m (.sl (some p) n c) (.sl (some p) n none) = True := eq_true Wc_cap
theorem int_beq (a b : Int) : (a == b) = decide (a = b) := rfl
theorem int_bne (a b : Int) : (a != b) = !decide (a = b) := rfl
theorem rem_nat (a b : Nat) : Int.tmod (a : Int) (b : Int) = ((a % b : Nat) : Int) := rfl
section
variable {P : Program} {H : AHeap} {n : Nat}
theorem LTy.intsU {t e : TypeId} {k : IntKind} {x : AV} (ht : P.underlying t = some (.slice e)) (he : P.underlying e = some (.int k)) (hl : leafs P (n + 1) e = some [e]) (h : LTy P H (n + 2) t x) : ∃ l : List Int, SlI H k x l ∧ l.length ≤ maxLen ∧ ∀ z ∈ l, (Lit.int k z).wf = true := by
  obtain ⟨b, rows, rfl, h1, h2, h3⟩ := h.slice ht hl
  obtain ⟨l, k1, k2, k3⟩ := rows_ints he rows h3
  exact ⟨l, ⟨b, false, none, by rw [k1], by rw [← k2]; exact h2⟩, by omega, k3⟩
end
/-- The machine steps on by its rules; what must hold is small arithmetic. -/
theorem runT {p q : Prop} (hq : q) (h : q → p := by
  intro hq
  simp -implicitDefEqProofs (disch := omega) only [aApp_nil, aApp_none, aApp_some, aApp_grw, simprocAttr, amset, tyset, Function.comp_apply, one1, lenV, calleeOf, lateOk, belowV, aop, AV.ofValue, AV.ofCell, AV.cells, AV.flat, AV.one, arep, aBin, aConv]
  repeat refine And.intro (by clear hq; omega) ?_
  exact hq) : p := h hq
theorem runTf {p q r : Prop} (f : r) (hq : q) (h : r → q → p := by
  intro hs hq
  simp -implicitDefEqProofs (disch := omega) only [hs, aApp_nil, aApp_none, aApp_some, aApp_grw, simprocAttr, amset, tyset, Function.comp_apply, one1, lenV, calleeOf, lateOk, belowV, aop, AV.ofValue, AV.ofCell, AV.cells, AV.flat, AV.one, arep, aBin, aConv]
  repeat refine And.intro (by clear hq; omega) ?_
  exact hq) : p := h f hq
theorem runDf {p q r : Prop} (f : r) (hq : q) (h : r → q → p := by
  intro hs hq
  simp -implicitDefEqProofs (disch := omega) only [hs, pickL, aApp_nil, aApp_none, aApp_some, aApp_grw, simprocAttr, amset, tyset, Function.comp_apply, one1, lenV, calleeOf, lateOk, belowV, aop, AV.ofValue, AV.ofCell, AV.cells, AV.flat, AV.one, arep, aBin, aConv]
  repeat refine And.intro (by clear hq; omega) ?_
  exact hq) : p := h f hq
/-- A known truth in plain words. -/
theorem bsT {p q : Prop} (h : p) (e : p → q := by
  intro h
  try simp only [boolset, beq_iff_eq, ne_eq] at h
  exact h) : q := e h
theorem bnT {p q : Prop} (h : p) (e : p → q := by
  intro h
  try simp only [int_bne, int_beq, Bool.not_eq_true', Bool.not_eq_false', Bool.not_not] at h
  exact h) : q := e h
set_option linter.unusedSimpArgs false
set_option linter.unusedVariables false
open Go.RowKit
abbrev T6 := Int × Int × Int × Int × Int × Int
def r6 (l : List T6) : List AV := l.flatMap fun p => [.int .i64 p.1, .int .i64 p.2.1, .int .i64 p.2.2.1, .int .i64 p.2.2.2.1, .int .i64 p.2.2.2.2.1, .int .i64 p.2.2.2.2.2]
def g6 (l : List T6) (j : Nat) : T6 := l.getD j (0, 0, 0, 0, 0, 0)
def g61 (l : List T6) (j : Nat) : Int := (g6 l j).1
def g62 (l : List T6) (j : Nat) : Int := (g6 l j).2.1
def g63 (l : List T6) (j : Nat) : Int := (g6 l j).2.2.1
def g64 (l : List T6) (j : Nat) : Int := (g6 l j).2.2.2.1
def g65 (l : List T6) (j : Nat) : Int := (g6 l j).2.2.2.2.1
def g66 (l : List T6) (j : Nat) : Int := (g6 l j).2.2.2.2.2
theorem g6_eq {l : List T6} {j : Nat} (h : j < l.length) : (g61 l j, g62 l j, g63 l j, g64 l j, g65 l j, g66 l j) = l[j] := by
  simp [g61, g62, g63, g64, g65, g66, g6, h, List.getD_eq_getElem?_getD]
theorem r6_cons {p : T6} {l : List T6} : r6 (p :: l) = .int .i64 p.1 :: .int .i64 p.2.1 :: .int .i64 p.2.2.1 :: .int .i64 p.2.2.2.1 :: .int .i64 p.2.2.2.2.1 :: .int .i64 p.2.2.2.2.2 :: r6 l := rfl
theorem r6_len : ∀ {l : List T6}, (r6 l).length = l.length * 6
  | [] => rfl
  | p :: l => by rw [r6_cons]; simp only [List.length_cons, r6_len (l := l)]; omega
theorem r6_at : ∀ {l : List T6} {j : Nat} (_h : j < l.length), (r6 l).drop (j * 6) = .int .i64 (g61 l j) :: .int .i64 (g62 l j) :: .int .i64 (g63 l j) :: .int .i64 (g64 l j) :: .int .i64 (g65 l j) :: .int .i64 (g66 l j) :: (r6 l).drop ((j + 1) * 6)
  | [], j, h => by simp at h
  | p :: l, 0, _ => by rw [r6_cons]; simp [g61, g62, g63, g64, g65, g66, g6]
  | p :: l, j + 1, h => by
    rw [r6_cons, show (j + 1) * 6 = j * 6 + 1 + 1 + 1 + 1 + 1 + 1 by omega, List.drop_succ_cons, List.drop_succ_cons, List.drop_succ_cons, List.drop_succ_cons, List.drop_succ_cons, List.drop_succ_cons, r6_at (l := l) (by simpa using h), show (j + 1 + 1) * 6 = (j + 1) * 6 + 1 + 1 + 1 + 1 + 1 + 1 by omega, List.drop_succ_cons, List.drop_succ_cons, List.drop_succ_cons, List.drop_succ_cons, List.drop_succ_cons, List.drop_succ_cons]
    rfl
theorem r6_at5 {l : List T6} {j : Nat} (h : j < l.length) : (r6 l)[j * 6 + 5]? = some (.int .i64 (g66 l j)) := by
  have := congrArg (fun x => x[5]?) (r6_at h)
  simpa using this
theorem r6_load {l : List T6} {j : Nat} (h : j < l.length) : ((r6 l).drop (j * 6)).take 6 = [.int .i64 (g61 l j), .int .i64 (g62 l j), .int .i64 (g63 l j), .int .i64 (g64 l j), .int .i64 (g65 l j), .int .i64 (g66 l j)] := by rw [r6_at h]; rfl
theorem r6_load0 {l : List T6} (h : 0 < l.length) : (r6 l).take 6 = [.int .i64 (g61 l 0), .int .i64 (g62 l 0), .int .i64 (g63 l 0), .int .i64 (g64 l 0), .int .i64 (g65 l 0), .int .i64 (g66 l 0)] := by
  have := r6_load h
  rwa [Nat.zero_mul, List.drop_zero] at this
theorem r6_load1 {l : List T6} {j : Nat} (h : j + 1 < l.length) : ((r6 l).drop (6 + j * 6)).take 6 = [.int .i64 (g61 l (j + 1)), .int .i64 (g62 l (j + 1)), .int .i64 (g63 l (j + 1)), .int .i64 (g64 l (j + 1)), .int .i64 (g65 l (j + 1)), .int .i64 (g66 l (j + 1))] := by
  rw [show 6 + j * 6 = (j + 1) * 6 by omega]; exact r6_load h
theorem r6_one {l : List T6} : (r6 l).all AV.one = true := by
  induction l with
  | nil => rfl
  | cons p l ih => rw [r6_cons]; simp [AV.one, ih]
section
variable {P : Program} {H : AHeap} {n : Nat}
theorem rows_r6 {t1 t2 t3 t4 t5 t6 : TypeId} (h1 : P.underlying t1 = some (.int .i64)) (h2 : P.underlying t2 = some (.int .i64)) (h3 : P.underlying t3 = some (.int .i64)) (h4 : P.underlying t4 = some (.int .i64)) (h5 : P.underlying t5 = some (.int .i64)) (h6 : P.underlying t6 = some (.int .i64)) : ∀ rows : List (List AV), (∀ r : List AV, r ∈ rows → RTy P H (n + 1) [t1, t2, t3, t4, t5, t6] r) → ∃ l : List T6, l.length = rows.length ∧ rows.flatten = r6 l ∧ ∀ p ∈ l, (Lit.int .i64 p.1).wf = true ∧ (Lit.int .i64 p.2.1).wf = true ∧ (Lit.int .i64 p.2.2.1).wf = true ∧ (Lit.int .i64 p.2.2.2.1).wf = true ∧ (Lit.int .i64 p.2.2.2.2.1).wf = true ∧ (Lit.int .i64 p.2.2.2.2.2).wf = true
  | [], _ => ⟨[], rfl, rfl, fun z h => by simp at h⟩
  | r :: rows, h => by
    obtain ⟨l, h1', h2', h3'⟩ := rows_r6 h1 h2 h3 h4 h5 h6 rows fun r' hr => h r' (by simp [hr])
    have hr := h r (by simp)
    obtain ⟨y1, r', rfl, hy1, hr⟩ := hr.cons
    obtain ⟨y2, r', rfl, hy2, hr⟩ := hr.cons
    obtain ⟨y3, r', rfl, hy3, hr⟩ := hr.cons
    obtain ⟨y4, r', rfl, hy4, hr⟩ := hr.cons
    obtain ⟨y5, r', rfl, hy5, hr⟩ := hr.cons
    obtain ⟨y6, r', rfl, hy6, hr⟩ := hr.cons
    obtain rfl := hr.nil
    obtain ⟨z1, rfl, hz1⟩ := hy1.int h1
    obtain ⟨z2, rfl, hz2⟩ := hy2.int h2
    obtain ⟨z3, rfl, hz3⟩ := hy3.int h3
    obtain ⟨z4, rfl, hz4⟩ := hy4.int h4
    obtain ⟨z5, rfl, hz5⟩ := hy5.int h5
    obtain ⟨z6, rfl, hz6⟩ := hy6.int h6
    exact ⟨(z1, z2, z3, z4, z5, z6) :: l, by simp [h1'], by simp [h2', r6_cons], fun z' h' => by
      rcases List.mem_cons.1 h' with rfl | h'
      · exact ⟨hz1, hz2, hz3, hz4, hz5, hz6⟩
      · exact h3' _ h'⟩
abbrev Sl6 (H : AHeap) (s : AV) (l : List T6) : Prop := Sl H 6 s l.length (r6 l)
theorem LTy.rec6 {t e t1 t2 t3 t4 t5 t6 : TypeId} {x : AV} (ht : P.underlying t = some (.slice e)) (h1 : P.underlying t1 = some (.int .i64)) (h2 : P.underlying t2 = some (.int .i64)) (h3 : P.underlying t3 = some (.int .i64)) (h4 : P.underlying t4 = some (.int .i64)) (h5 : P.underlying t5 = some (.int .i64)) (h6 : P.underlying t6 = some (.int .i64)) (hl : leafs P (n + 1) e = some [t1, t2, t3, t4, t5, t6]) (h : LTy P H (n + 2) t x) :
    ∃ l : List T6, Sl6 H x l ∧ l.length ≤ maxLen ∧ ∀ p ∈ l, (Lit.int .i64 p.1).wf = true ∧ (Lit.int .i64 p.2.1).wf = true ∧ (Lit.int .i64 p.2.2.1).wf = true ∧ (Lit.int .i64 p.2.2.2.1).wf = true ∧ (Lit.int .i64 p.2.2.2.2.1).wf = true ∧ (Lit.int .i64 p.2.2.2.2.2).wf = true := by
  obtain ⟨b, rows, rfl, k1, k2, k3⟩ := h.slice ht hl
  obtain ⟨l, q1, q2, q3⟩ := rows_r6 h1 h2 h3 h4 h5 h6 rows k3
  exact ⟨l, ⟨b, false, none, by rw [q1], by rw [← q2]; exact k2⟩, by omega, q3⟩
end
set_option linter.unusedSimpArgs false
set_option linter.unusedVariables false
open Go.RowKit

def vldB (W H : Int) (xs : List Int) : Bool := decide (1 ≤ W ∧ W ≤ 64 ∧ 1 ≤ H ∧ H ≤ 64 ∧ (xs.length : Int) = W * H ∧ ∀ v ∈ xs, v ≤ 2)
def inB (W H x y : Int) : Bool := decide (0 ≤ x ∧ x < W ∧ 0 ≤ y ∧ y < H)
def atI (W H : Int) (xs : List Int) (x y : Int) : Int := if inB W H x y then gi xs (y * W + x).toNat else 2
structure Vld (W H : Int) (xs : List Int) : Prop where
  w0 : 1 ≤ W
  w1 : W ≤ 64
  h0 : 1 ≤ H
  h1 : H ≤ 64
  len : (xs.length : Int) = W * H
  le : ∀ v ∈ xs, v ≤ 2
theorem vld_iff {W H : Int} {xs : List Int} : vldB W H xs = true ↔ Vld W H xs := by
  unfold vldB
  rw [decide_eq_true_iff]
  exact ⟨fun ⟨a, b, c, d, e, f⟩ => ⟨a, b, c, d, e, f⟩, fun ⟨a, b, c, d, e, f⟩ => ⟨a, b, c, d, e, f⟩⟩
theorem vld_false {W H : Int} {xs : List Int} : vldB W H xs = false ↔ ¬ Vld W H xs := by
  rw [← vld_iff]; simp
theorem inB_iff {W H x y : Int} : inB W H x y = true ↔ 0 ≤ x ∧ x < W ∧ 0 ≤ y ∧ y < H := by
  unfold inB; rw [decide_eq_true_iff]
theorem inB_false {W H x y : Int} : inB W H x y = false ↔ ¬ (0 ≤ x ∧ x < W ∧ 0 ≤ y ∧ y < H) := by
  unfold inB; rw [decide_eq_false_iff_not]

theorem mul_le_64 {a b : Int} (h0 : 0 ≤ a) (h1 : a ≤ 64) (h2 : 0 ≤ b) (h3 : b ≤ 64) : 0 ≤ a * b ∧ a * b ≤ 4096 :=
  ⟨Int.mul_nonneg h0 h2, Int.le_trans (Int.mul_le_mul h1 h3 h2 (by omega)) (by omega)⟩
theorem Vld.pos {W H : Int} {xs : List Int} (h : Vld W H xs) : 1 ≤ W * H ∧ W * H ≤ 4096 ∧ 0 < xs.length ∧ xs.length ≤ 4096 := by
  have h1 : 1 * 1 ≤ W * H := Int.mul_le_mul h.w0 h.h0 (by omega) (by have := h.w0; omega)
  have h2 := mul_le_64 (a := W) (b := H) (by have := h.w0; omega) h.w1 (by have := h.h0; omega) h.h1
  have h3 := h.len
  omega
/-- The number of a cell. -/
theorem idx_bd {W H x y : Int} (h : inB W H x y = true) : 0 ≤ y * W ∧ 0 ≤ y * W + x ∧ y * W + x < W * H := by
  obtain ⟨a, b, c, d⟩ := inB_iff.1 h
  have h1 : 0 ≤ y * W := Int.mul_nonneg c (by omega)
  have h2 : (y + 1) * W ≤ H * W := Int.mul_le_mul_of_nonneg_right (by omega) (by omega)
  rw [Int.add_mul, Int.one_mul] at h2
  rw [Int.mul_comm W H]
  omega
theorem Vld.idx {W H x y : Int} {xs : List Int} (hv : Vld W H xs) (h : inB W H x y = true) : 0 ≤ y * W ∧ y * W ≤ 4096 ∧ 0 ≤ y * W + x ∧ y * W + x < W * H ∧ (y * W + x).toNat < xs.length ∧ 0 ≤ x ∧ x < 64 ∧ 0 ≤ y ∧ y < 64 := by
  have h1 := idx_bd h
  have h2 := hv.pos
  have h3 := hv.len
  obtain ⟨a, b, c, d⟩ := inB_iff.1 h
  have := hv.w1
  have := hv.h1
  omega
open Go.RowKit
section
variable (H : AHeap)
theorem psize_c (x : Int) : ACalls Tryz.prog 188 [.int .i64 x] H (fun v H' => v = .bool (decide (1 ≤ x) && decide (x ≤ 64)) ∧ H' = H) := by
  (refine ACalls_run try_mixed Tryz.func188 true _ rfl (Nat.le_of_ble_eq_true (by kernel_rfl)) (by kernel_rfl) ?_; intro hbel Q hQ hQ' c hc; unfold Tryz.f188 at hc; simp only [Option.some.injEq] at hc; subst hc; clear hQ')
  by_cases h1 : 1 ≤ x
  · simp -implicitDefEqProofs (disch := omega) only [h1, simprocAttr, amset, tyset, Function.comp_apply, one1, lenV, calleeOf, lateOk, belowV, aop, AV.ofValue, AV.ofCell, AV.cells, AV.flat, AV.one, arep, aBin, aAppend, aConv]
    exact hQ _ _ (end_plain0 (.inl rfl) hbel (x := .bool (decide (x ≤ 64))) (resT Tryz.results188) rfl ⟨by simp only [h1, decide_true, Bool.true_and], rfl⟩)
  · simp -implicitDefEqProofs (disch := omega) only [h1, simprocAttr, amset, tyset, Function.comp_apply, one1, lenV, calleeOf, lateOk, belowV, aop, AV.ofValue, AV.ofCell, AV.cells, AV.flat, AV.one, arep, aBin, aAppend, aConv]
    exact hQ _ _ (end_plain0 (.inl rfl) hbel (x := .bool false) (resT Tryz.results188) rfl ⟨by simp only [h1, decide_false, Bool.false_and], rfl⟩)
set_option maxRecDepth 100000 in
theorem max_c (xs : List Int) (b : Nat) (own : Bool) (cap : Option Nat) (hb : H[b]? = some (.cells own 1 (ints .u8 xs))) (h0 : 0 < xs.length) (hn : xs.length ≤ 1000000) : ACalls Tryz.prog 189 [.sl (some (b, 0)) xs.length cap] H (fun v H' => ∃ m, v = .int .u8 m ∧ m ∈ xs ∧ (∀ x ∈ xs, x ≤ m) ∧ H' = H) := by
  have hbl := getElem?_lt hb
  have hg0 := ints_get (k := .u8) (xs := xs) (j := 0) h0
  (refine ACalls_run try_mixed Tryz.func189 true _ rfl (Nat.le_of_ble_eq_true (by kernel_rfl)) (by kernel_rfl) ?_; intro hbel Q hQ hQ' c hc; unfold Tryz.f189 at hc; simp only [Option.some.injEq] at hc; subst hc; clear hQ')
  have h1 : ¬ (xs.length : Int) < 1 := by omega
  simp -implicitDefEqProofs (disch := omega) only [h1, hb, hg0, simprocAttr, amset, tyset, Function.comp_apply, one1, lenV, calleeOf, lateOk, belowV, aop, AV.ofValue, AV.ofCell, AV.cells, AV.flat, AV.one, arep, aBin, aAppend, aConv]
  repeat refine And.intro (by omega) ?_
  refine go_loop try_mixed (by kernel_rfl) (fun k F Hx => ∃ (i : Nat) (m : Int), i + k = xs.length ∧ 1 ≤ i ∧ m ∈ xs ∧ (∀ j, j < i → gi xs j ≤ m) ∧ F = [(0, .sl (some (b, 0)) xs.length none), (3, .int .u8 m), (4, .int .i64 (i : Nat))] ∧ Hx = H) (xs.length - 1) ?_ ?_
  · refine ⟨_, _, _, ⟨1, gi xs 0, by omega, by omega, gi_mem h0, fun j hj => by obtain rfl : j = 0 := by omega
                                                                                exact Int.le_refl _, rfl, rfl⟩, Abs.by0 hbel ?_⟩
    exact absT
  · rintro k F Hx ⟨i, m, hik, hi1, hm, hle, rfl, rfl⟩ J hJ
    by_cases hi : i < xs.length
    · have hii : (i : Int) < (xs.length : Int) := by omega
      have hg := ints_get (k := .u8) (xs := xs) (j := i) hi
      simp -implicitDefEqProofs (disch := omega) only [hii, hb, hg, simprocAttr, amset, tyset, Function.comp_apply, one1, lenV, calleeOf, lateOk, belowV, aop, AV.ofValue, AV.ofCell, AV.cells, AV.flat, AV.one, arep, aBin, aAppend, aConv]
      repeat refine And.intro (by omega) ?_
      refine hJ _ _ ⟨k - 1, by omega, _, _, _, ⟨i + 1, if m < gi xs i then gi xs i else m, by omega, by omega, by split; exact gi_mem hi; exact hm, fun j hj => ?_, rfl, rfl⟩, Abs.by0 hbel ?_⟩
      · by_cases hji : j = i
        · subst hji; split <;> omega
        · have := hle j (by omega); split <;> omega
      · exact absT
    · have hnn : ¬ ((i : Int) < (xs.length : Int)) := by omega
      simp -implicitDefEqProofs (disch := omega) only [hnn, simprocAttr, amset, tyset, Function.comp_apply, one1, lenV, calleeOf, lateOk, belowV, aop, AV.ofValue, AV.ofCell, AV.cells, AV.flat, AV.one, arep, aBin, aAppend, aConv]
      exact hQ _ _ (end_plain0 (.inl rfl) hbel (x := .int .u8 m) (resT Tryz.results189) rfl ⟨m, rfl, hm, fun x hx => by
        obtain ⟨j, hj, rfl⟩ := List.getElem_of_mem hx
        rw [← gi_lt hj]; exact hle j (by omega), rfl⟩)
theorem vldB_neg {W Hh : Int} {xs : List Int} (h : ¬ (1 ≤ W ∧ W ≤ 64 ∧ 1 ≤ Hh ∧ Hh ≤ 64 ∧ (xs.length : Int) = W * Hh)) : vldB W Hh xs = false := vld_false.2 fun v => h ⟨v.w0, v.w1, v.h0, v.h1, v.len⟩
set_option maxRecDepth 100000 in
theorem valid_a (W Hh : Int) (s : AV) (xs : List Int) (hs : IsI H .u8 s xs) : ACalls Tryz.prog 104 [.agg [.int .i64 W, .int .i64 Hh, s]] H (fun v H' => v = .bool (vldB W Hh xs) ∧ H' = H) := by
  have hs1 : ∃ a c, s = .sl a xs.length c := by
    rcases hs with ⟨rfl, rfl⟩ | ⟨b, own, cap, rfl, hb⟩
    · exact ⟨_, _, rfl⟩
    · exact ⟨_, _, rfl⟩
  obtain ⟨a1, c1, rfl⟩ := hs1
  (refine ACalls_run try_mixed Tryz.func104 true _ rfl (Nat.le_of_ble_eq_true (by kernel_rfl)) (by kernel_rfl) ?_; intro hbel Q hQ hQ' c hc; unfold Tryz.f104 at hc; simp only [Option.some.injEq] at hc; subst hc; clear hQ')
  simp -implicitDefEqProofs (disch := omega) only [simprocAttr, amset, tyset, Function.comp_apply, one1, lenV, calleeOf, lateOk, belowV, aop, AV.ofValue, AV.ofCell, AV.cells, AV.flat, AV.one, arep, aBin, aAppend, aConv]
  refine call_v (by kernel_rfl) (psize_c _ _) ?_
  cases h1 : (decide (1 ≤ W) && decide (W ≤ 64))
  · simp only [Bool.and_eq_false_iff, decide_eq_false_iff_not] at h1
    simp -implicitDefEqProofs (disch := omega) only [simprocAttr, amset, tyset, Function.comp_apply, one1, lenV, calleeOf, lateOk, belowV, aop, AV.ofValue, AV.ofCell, AV.cells, AV.flat, AV.one, arep, aBin, aAppend, aConv]
    exact hQ _ _ (end_plain (.inl rfl) hbel (x := .bool false) (resT Tryz.results104) rfl ⟨by rw [vldB_neg (by omega)], rfl⟩)
  simp only [Bool.and_eq_true, decide_eq_true_eq] at h1
  simp -implicitDefEqProofs (disch := omega) only [simprocAttr, amset, tyset, Function.comp_apply, one1, lenV, calleeOf, lateOk, belowV, aop, AV.ofValue, AV.ofCell, AV.cells, AV.flat, AV.one, arep, aBin, aAppend, aConv]
  refine call_v (by kernel_rfl) (psize_c _ _) ?_
  cases h2 : (decide (1 ≤ Hh) && decide (Hh ≤ 64))
  · simp only [Bool.and_eq_false_iff, decide_eq_false_iff_not] at h2
    simp -implicitDefEqProofs (disch := omega) only [simprocAttr, amset, tyset, Function.comp_apply, one1, lenV, calleeOf, lateOk, belowV, aop, AV.ofValue, AV.ofCell, AV.cells, AV.flat, AV.one, arep, aBin, aAppend, aConv]
    exact hQ _ _ (end_plain (.inl rfl) hbel (x := .bool false) (resT Tryz.results104) rfl ⟨by rw [vldB_neg (by omega)], rfl⟩)
  simp only [Bool.and_eq_true, decide_eq_true_eq] at h2
  have hm := mul_le_64 (a := W) (b := Hh) (by omega) (by omega) (by omega) (by omega)
  have hm1 := Int.mul_le_mul (a := 1) (b := 1) (c := W) (d := Hh) h1.1 h2.1 (by omega) (by omega)
  by_cases h3 : (xs.length : Int) = W * Hh
  · have h3' : ((xs.length : Int) != W * Hh) = false := by simp [h3]
    have h4 : ((xs.length : Int) == 0) = false := beq_eq_false_iff_ne.2 (by omega)
    obtain ⟨b, own, cap, e1, hb⟩ := hs.resolve_left (fun h => by rw [h.1] at h3; simp at h3; omega)
    injection e1 with e1 _ e1'; subst e1 e1'
    have hb0 := fun l => get_app (l := l) hb
    have hbl := getElem?_lt hb
    simp -implicitDefEqProofs (disch := omega) only [h3', h4, simprocAttr, amset, tyset, Function.comp_apply, one1, lenV, calleeOf, lateOk, belowV, aop, AV.ofValue, AV.ofCell, AV.cells, AV.flat, AV.one, arep, aBin, aAppend, aConv]
    refine call_of (by kernel_rfl) (max_c _ xs b own c1 (hb0 _) (by omega) (by omega)) ?_
    rintro x H' ⟨m, rfl, hm, hle, rfl⟩
    simp -implicitDefEqProofs (disch := omega) only [simprocAttr, amset, tyset, Function.comp_apply, one1, lenV, calleeOf, lateOk, belowV, aop, AV.ofValue, AV.ofCell, AV.cells, AV.flat, AV.one, arep, aBin, aAppend, aConv]
    exact hQ _ _ (end_plain (.inl rfl) hbel (x := .bool (decide (m ≤ 2))) (resT Tryz.results104) rfl ⟨by
      congr 1
      rw [Bool.eq_iff_iff, vld_iff, decide_eq_true_eq]
      exact ⟨fun h => ⟨h1.1, h1.2, h2.1, h2.2, h3, fun v hv => Int.le_trans (hle v hv) h⟩, fun h => h.le m hm⟩, rfl⟩)
  · have h3' : ((xs.length : Int) != W * Hh) = true := by simp [h3]
    simp -implicitDefEqProofs (disch := omega) only [h3', simprocAttr, amset, tyset, Function.comp_apply, one1, lenV, calleeOf, lateOk, belowV, aop, AV.ofValue, AV.ofCell, AV.cells, AV.flat, AV.one, arep, aBin, aAppend, aConv]
    exact hQ _ _ (end_plain (.inl rfl) hbel (x := .bool false) (resT Tryz.results104) rfl ⟨by rw [vldB_neg (by omega)], rfl⟩)
set_option maxRecDepth 100000 in
theorem rplan_a (W Hh : Int) (s : AV) (xs : List Int) (hs : IsI H .u8 s xs) : ACalls Tryz.prog 75 [.agg [.int .i64 W, .int .i64 Hh, s]] H (fun v H' => v = .bool (vldB W Hh xs) ∧ H' = H) := by
  have hs1 : ∃ a c, s = .sl a xs.length c := by
    rcases hs with ⟨rfl, rfl⟩ | ⟨b, own, cap, rfl, hb⟩
    · exact ⟨_, _, rfl⟩
    · exact ⟨_, _, rfl⟩
  obtain ⟨a1, c1, rfl⟩ := hs1
  (refine ACalls_run try_mixed Tryz.func75 true _ rfl (Nat.le_of_ble_eq_true (by kernel_rfl)) (by kernel_rfl) ?_; intro hbel Q hQ hQ' c hc; unfold Tryz.f75 at hc; simp only [Option.some.injEq] at hc; subst hc; clear hQ')
  by_cases h1 : W < 1
  · simp -implicitDefEqProofs (disch := omega) only [h1, simprocAttr, amset, tyset, Function.comp_apply, one1, lenV, calleeOf, lateOk, belowV, aop, AV.ofValue, AV.ofCell, AV.cells, AV.flat, AV.one, arep, aBin, aAppend, aConv]
    exact hQ _ _ (end_plain (.inl rfl) hbel (x := .bool false) (resT Tryz.results75) rfl ⟨by rw [vldB_neg (by omega)], rfl⟩)
  by_cases h2 : 64 < W
  · simp -implicitDefEqProofs (disch := omega) only [h1, h2, simprocAttr, amset, tyset, Function.comp_apply, one1, lenV, calleeOf, lateOk, belowV, aop, AV.ofValue, AV.ofCell, AV.cells, AV.flat, AV.one, arep, aBin, aAppend, aConv]
    exact hQ _ _ (end_plain (.inl rfl) hbel (x := .bool false) (resT Tryz.results75) rfl ⟨by rw [vldB_neg (by omega)], rfl⟩)
  by_cases h3 : Hh < 1
  · simp -implicitDefEqProofs (disch := omega) only [h1, h2, h3, simprocAttr, amset, tyset, Function.comp_apply, one1, lenV, calleeOf, lateOk, belowV, aop, AV.ofValue, AV.ofCell, AV.cells, AV.flat, AV.one, arep, aBin, aAppend, aConv]
    exact hQ _ _ (end_plain (.inl rfl) hbel (x := .bool false) (resT Tryz.results75) rfl ⟨by rw [vldB_neg (by omega)], rfl⟩)
  by_cases h4 : 64 < Hh
  · simp -implicitDefEqProofs (disch := omega) only [h1, h2, h3, h4, simprocAttr, amset, tyset, Function.comp_apply, one1, lenV, calleeOf, lateOk, belowV, aop, AV.ofValue, AV.ofCell, AV.cells, AV.flat, AV.one, arep, aBin, aAppend, aConv]
    exact hQ _ _ (end_plain (.inl rfl) hbel (x := .bool false) (resT Tryz.results75) rfl ⟨by rw [vldB_neg (by omega)], rfl⟩)
  have hm := mul_le_64 (a := W) (b := Hh) (by omega) (by omega) (by omega) (by omega)
  have hm1 := Int.mul_le_mul (a := 1) (b := 1) (c := W) (d := Hh) (by omega) (by omega) (by omega) (by omega)
  by_cases h5 : (xs.length : Int) = W * Hh
  · have h5' : ((xs.length : Int) != W * Hh) = false := by simp [h5]
    obtain ⟨b, own, cap, e1, hb⟩ := hs.resolve_left (fun h => by rw [h.1] at h5; simp at h5; omega)
    injection e1 with e1 _ e1'; subst e1 e1'
    have hb0 := fun l => get_app (l := l) hb
    have hbl := getElem?_lt hb
    simp -implicitDefEqProofs (disch := omega) only [h1, h2, h3, h4, h5', simprocAttr, amset, tyset, Function.comp_apply, one1, lenV, calleeOf, lateOk, belowV, aop, AV.ofValue, AV.ofCell, AV.cells, AV.flat, AV.one, arep, aBin, aAppend, aConv]
    refine go_loop try_mixed (by kernel_rfl) (fun k F Hx => ∃ (i : Nat), i + k = xs.length ∧ (∀ j, j < i → gi xs j ≤ 2) ∧ F = [(1, .ptr (some (H.length, 0))), (3, .int .i64 (i : Nat))] ∧ Hx = H ++ [.cells true 0 [.int .i64 W, .int .i64 Hh, .sl (some (b, 0)) xs.length c1]]) xs.length ?_ ?_
    · refine ⟨_, _, _, ⟨0, by omega, fun j hj => absurd hj (Nat.not_lt_zero j), rfl, rfl⟩, Abs.by hbel [0] (by decide) ?_⟩
      exact absT
    · rintro k F Hx ⟨i, hik, hle, rfl, rfl⟩ J hJ
      by_cases hi : i < xs.length
      · have hii : (i : Int) < (xs.length : Int) := by omega
        have hg := ints_get (k := .u8) (xs := xs) (j := i) hi
        by_cases h6 : 2 < gi xs i
        · simp -implicitDefEqProofs (disch := omega) only [hii, hb0, hg, h6, simprocAttr, amset, tyset, Function.comp_apply, one1, lenV, calleeOf, lateOk, belowV, aop, AV.ofValue, AV.ofCell, AV.cells, AV.flat, AV.one, arep, aBin, aAppend, aConv]
          repeat refine And.intro (by omega) ?_
          exact hQ _ _ (end_plain (.inl rfl) hbel (x := .bool false) (resT Tryz.results75) rfl ⟨by rw [vld_false.2 fun v => absurd (v.le _ (gi_mem hi)) (by omega)], rfl⟩)
        · simp -implicitDefEqProofs (disch := omega) only [hii, hb0, hg, h6, simprocAttr, amset, tyset, Function.comp_apply, one1, lenV, calleeOf, lateOk, belowV, aop, AV.ofValue, AV.ofCell, AV.cells, AV.flat, AV.one, arep, aBin, aAppend, aConv]
          repeat refine And.intro (by omega) ?_
          refine hJ _ _ ⟨k - 1, by omega, _, _, _, ⟨i + 1, by omega, fun j hj => ?_, rfl, rfl⟩, Abs.by hbel [0] (by decide) ?_⟩
          · by_cases hji : j = i
            · subst hji; omega
            · exact hle j (by omega)
          · exact absT
      · have hnn : ¬ ((i : Int) < (xs.length : Int)) := by omega
        simp -implicitDefEqProofs (disch := omega) only [hnn, simprocAttr, amset, tyset, Function.comp_apply, one1, lenV, calleeOf, lateOk, belowV, aop, AV.ofValue, AV.ofCell, AV.cells, AV.flat, AV.one, arep, aBin, aAppend, aConv]
        exact hQ _ _ (end_plain (.inl rfl) hbel (x := .bool true) (resT Tryz.results75) rfl ⟨by rw [vld_iff.2 ⟨by omega, by omega, by omega, by omega, h5, fun x hx => by
          obtain ⟨j, hj, rfl⟩ := List.getElem_of_mem hx
          rw [← gi_lt hj]; exact hle j (by omega)⟩], rfl⟩)
  · have h5' : ((xs.length : Int) != W * Hh) = true := by simp [h5]
    simp -implicitDefEqProofs (disch := omega) only [h1, h2, h3, h4, h5', simprocAttr, amset, tyset, Function.comp_apply, one1, lenV, calleeOf, lateOk, belowV, aop, AV.ofValue, AV.ofCell, AV.cells, AV.flat, AV.one, arep, aBin, aAppend, aConv]
    exact hQ _ _ (end_plain (.inl rfl) hbel (x := .bool false) (resT Tryz.results75) rfl ⟨by rw [vldB_neg (by omega)], rfl⟩)
end
set_option linter.unusedSimpArgs false
set_option linter.unusedVariables false
open Go.RowKit
theorem prs_snoc {l : List (Int × Int)} {x y : Int} : prs l ++ [.int .i64 x, .int .i64 y] = prs (l ++ [(x, y)]) := by rw [prs_append]; rfl
/-- A slice that is appended to: none yet, or the whole of a block of its own. -/
def OutP (b : Nat) (s : AV) (X : ABlk) (l : List (Int × Int)) : Prop := (l = [] ∧ s = .sl none 0 (some 0) ∧ X = .dead) ∨ (0 < l.length ∧ s = .sl (some (b, 0)) l.length none ∧ X = .cells true 2 (prs l))
/-- What a function hands back that has made a list of pairs. -/
def retP (H : AHeap) (l : List (Int × Int)) : AV × AHeap := if l = [] then (.sl none 0 (some 0), H) else (.sl (some (H.length, 0)) l.length none, H ++ [.cells true 2 (prs l)])
theorem retP_nil {H : AHeap} : retP H [] = (.sl none 0 (some 0), H) := rfl
theorem retP_pos {H : AHeap} {l : List (Int × Int)} (h : 0 < l.length) : retP H l = (.sl (some (H.length, 0)) l.length none, H ++ [.cells true 2 (prs l)]) := by
  unfold retP; rw [if_neg (fun e => by rw [e] at h; simp at h)]
open Go.RowKit
section
variable {H : AHeap} {W Hh x y : Int} {s : AV} {xs : List Int} {g : Nat} {own : Bool} {cap : Option Nat} {n : Nat}
end
set_option linter.unusedSimpArgs false
set_option linter.unusedVariables false
open Go.RowKit
abbrev Pt := Int × Int
def crs (a b : Pt) : Int := a.1 * b.2 - a.2 * b.1
/-- In the upper half plane (or on its right border), and not zero. -/
def up (p : Pt) : Prop := 0 < p.2 ∨ (p.2 = 0 ∧ 0 < p.1)
instance (p : Pt) : Decidable (up p) := inferInstanceAs (Decidable (_ ∨ _))
theorem crs_self (a : Pt) : crs a a = 0 := by unfold crs; rw [Int.mul_comm]; omega
theorem crs_anti (a b : Pt) : crs b a = -crs a b := by unfold crs; rw [Int.mul_comm b.1, Int.mul_comm b.2]; omega
theorem crs_id (x y z : Pt) : y.2 * crs x z = z.2 * crs x y + x.2 * crs y z := by unfold crs; grind
theorem up_y {p : Pt} (h : up p) : 0 ≤ p.2 := by unfold up at h; omega
theorem up_ne {p : Pt} (h : up p) : p ≠ (0, 0) := by rintro rfl; unfold up at h; simp at h
theorem crs_pos_y {x y : Pt} (hx : up x) (hy : up y) (h : 0 < crs x y) : 0 < y.2 := by
  have h1 := up_y hx
  have h2 := up_y hy
  rcases Int.lt_or_eq_of_le h2 with h3 | h3
  · exact h3
  · exfalso
    have h4 : 0 < y.1 := by unfold up at hy; omega
    unfold crs at h
    rw [← h3, Int.mul_zero] at h
    have := Int.mul_nonneg h1 (Int.le_of_lt h4)
    omega
theorem pos_of {a b : Int} (h : 0 < a * b) (ha : 0 < a) : 0 < b := Int.lt_of_mul_lt_mul_left (a := a) (b := 0) (c := b) (by simpa using h) (Int.le_of_lt ha)
theorem nonneg_of {a b : Int} (h : 0 ≤ a * b) (ha : 0 < a) : 0 ≤ b := Int.le_of_mul_le_mul_left (a := a) (b := 0) (c := b) (by simpa using h) ha
theorem crs_trans {x y z : Pt} (hx : up x) (hy : up y) (hz : up z) (h1 : 0 < crs x y) (h2 : 0 < crs y z) : 0 < crs x z := by
  have y0 := crs_pos_y hx hy h1
  have z0 := crs_pos_y hy hz h2
  have e := crs_id x y z
  have a := Int.mul_pos z0 h1
  have b := Int.mul_nonneg (up_y hx) (Int.le_of_lt h2)
  exact pos_of (by omega) y0
theorem crs_ntrans {x y z : Pt} (hx : up x) (hy : up y) (hz : up z) (h1 : 0 ≤ crs x y) (h2 : 0 ≤ crs y z) : 0 ≤ crs x z := by
  have e := crs_id x y z
  have a := Int.mul_nonneg (up_y hz) h1
  have b := Int.mul_nonneg (up_y hx) h2
  rcases Int.lt_or_eq_of_le (up_y hy) with h | h
  · exact nonneg_of (by omega) h
  · have y1 : 0 < y.1 := by unfold up at hy; omega
    have hx2 : x.2 = 0 := by
      unfold crs at h1
      rw [← h, Int.mul_zero] at h1
      rcases Int.lt_or_eq_of_le (up_y hx) with k | k
      · have := Int.mul_pos k y1; omega
      · exact k.symm
    have hx1 : 0 < x.1 := by unfold up at hx; omega
    unfold crs
    rw [hx2, Int.zero_mul, Int.sub_zero]
    exact Int.mul_nonneg (Int.le_of_lt hx1) (up_y hz)
theorem par_trans {x y z : Pt} (hx : up x) (hy : up y) (hz : up z) (h1 : crs x y = 0) (h2 : crs y z = 0) : crs x z = 0 := by
  have a := crs_ntrans hx hy hz (by omega) (by omega)
  have b := crs_ntrans hz hy hx (by rw [crs_anti]; omega) (by rw [crs_anti]; omega)
  rw [crs_anti] at b
  omega
/-- Behind a parallel one the order is the same. -/
theorem crs_par_l {x y z : Pt} (hx : up x) (hy : up y) (hz : up z) (h1 : crs x y = 0) (h2 : 0 < crs y z) : 0 < crs x z := by
  have a := crs_ntrans hx hy hz (by omega) (by omega)
  rcases Int.lt_or_eq_of_le a with h | h
  · exact h
  · have := par_trans hy hx hz (by rw [crs_anti]; omega) h.symm
    omega
theorem crs_par_r {x y z : Pt} (hx : up x) (hy : up y) (hz : up z) (h1 : 0 < crs x y) (h2 : crs y z = 0) : 0 < crs x z := by
  have a := crs_ntrans hx hy hz (by omega) (by omega)
  rcases Int.lt_or_eq_of_le a with h | h
  · exact h
  · have := par_trans hx hz hy h.symm (by rw [crs_anti]; omega)
    omega
def padd (a b : Pt) : Pt := (a.1 + b.1, a.2 + b.2)
theorem padd_comm (a b : Pt) : padd a b = padd b a := by unfold padd; rw [Int.add_comm, Int.add_comm a.2]
theorem padd_assoc (a b c : Pt) : padd (padd a b) c = padd a (padd b c) := by simp [padd, Int.add_assoc]
theorem padd_zero (a : Pt) : padd a (0, 0) = a := by simp [padd]
theorem zero_padd (a : Pt) : padd (0, 0) a = a := by simp [padd]
theorem crs_add_l (a b c : Pt) : crs (padd a b) c = crs a c + crs b c := by unfold crs padd; grind
theorem crs_add_r (a b c : Pt) : crs a (padd b c) = crs a b + crs a c := by unfold crs padd; grind
theorem up_add {a b : Pt} (h1 : up a) (h2 : up b) : up (padd a b) := by unfold up padd at *; simp only; omega
def nrm (g : Pt) : Pt := if g.2 < 0 ∨ (g.2 = 0 ∧ g.1 < 0) then (-g.1, -g.2) else g
theorem nrm_up {g : Pt} (h : nrm g ≠ (0, 0)) : up (nrm g) := by
  unfold nrm at *
  split
  · unfold up; simp only; omega
  · rename_i hc
    rw [if_neg hc] at h
    have : g.1 ≠ 0 ∨ g.2 ≠ 0 := by
      rcases Decidable.em (g.1 = 0) with e | e
      · right; intro e2; exact h (Prod.ext e e2)
      · exact .inl e
    unfold up; omega
/-- The sum of those that are parallel to g. -/
def dsum : List Pt → Pt → Pt
  | [], _ => (0, 0)
  | h :: l, g => if crs h g = 0 then padd h (dsum l g) else dsum l g
theorem dsum_append (g : Pt) : ∀ l m : List Pt, dsum (l ++ m) g = padd (dsum l g) (dsum m g)
  | [], m => by rw [List.nil_append]; exact (zero_padd _).symm
  | h :: l, m => by
    simp only [List.cons_append, dsum, dsum_append g l m]
    split
    · rw [padd_assoc]
    · rfl
theorem dsum_perm {l m : List Pt} (g : Pt) (h : l.Perm m) : dsum l g = dsum m g := by
  induction h with
  | nil => rfl
  | cons x _ ih => simp only [dsum, ih]
  | swap x y l =>
    simp only [dsum]
    split <;> split <;> try rfl
    rw [← padd_assoc, ← padd_assoc, padd_comm y x]
  | trans _ _ ih1 ih2 => rw [ih1, ih2]
theorem dsum_none {l : List Pt} {g : Pt} (h : ∀ e ∈ l, crs e g ≠ 0) : dsum l g = (0, 0) := by
  induction l with
  | nil => rfl
  | cons x l ih =>
    simp only [dsum]
    rw [if_neg (h x (by simp)), ih fun e he => h e (by simp [he])]
/-- C is the canonical form of the directions in S. -/
structure Can (C S : List Pt) : Prop where
  sorted : C.Pairwise fun a b => 0 < crs a b
  ups : ∀ e ∈ C, up e
  sums : ∀ g, up g → dsum C g = dsum S g
theorem Can.perm {C S S' : List Pt} (h : Can C S) (hp : S.Perm S') : Can C S' := ⟨h.sorted, h.ups, fun g hg => by rw [h.sums g hg, dsum_perm g hp]⟩
theorem Can.own {C S : List Pt} (h : Can C S) {e : Pt} (he : e ∈ C) : dsum C e = e := by
  obtain ⟨A, B, rfl⟩ := List.append_of_mem he
  have hs := h.sorted
  rw [List.pairwise_append] at hs
  obtain ⟨h1, h2, h3⟩ := hs
  rw [List.pairwise_cons] at h2
  rw [dsum_append]
  simp only [dsum, crs_self, if_true]
  rw [dsum_none (l := A) fun a ha => by have := h3 a ha e (by simp); omega, dsum_none (l := B) fun b hb => by have := h2.1 b hb; rw [crs_anti]; omega, padd_zero, zero_padd]
theorem Can.par {C S : List Pt} (h : Can C S) {g : Pt} (hg : up g) (hne : dsum C g ≠ (0, 0)) : dsum C g ∈ C := by
  have hex : ∃ e ∈ C, crs e g = 0 := by
    apply Classical.byContradiction
    intro hno
    exact hne (dsum_none fun e he h0 => hno ⟨e, he, h0⟩)
  obtain ⟨e, he, h0⟩ := hex
  have hu := h.ups e he
  have heq : dsum C g = dsum C e := by
    have : ∀ l : List Pt, (∀ x ∈ l, up x) → dsum l g = dsum l e := by
      intro l
      induction l with
      | nil => exact fun _ => rfl
      | cons x l ih =>
        intro hl
        have hx := hl x (by simp)
        simp only [dsum, ih fun y hy => hl y (by simp [hy])]
        by_cases hc : crs x g = 0
        · rw [if_pos hc, if_pos (par_trans hx hg hu hc (by rw [crs_anti]; omega))]
        · rw [if_neg hc, if_neg fun h1 => hc (par_trans hx hu hg h1 h0)]
    exact this C h.ups
  rw [heq, h.own he]; exact he
theorem eq_of_sorted {r : Pt → Pt → Prop} (has : ∀ a b, r a b → ¬ r b a) : ∀ (l m : List Pt), l.Pairwise r → m.Pairwise r → (∀ x, x ∈ l ↔ x ∈ m) → l = m
  | [], [], _, _, _ => rfl
  | [], b :: m, _, _, h => absurd ((h b).2 (by simp)) (by simp)
  | a :: l, [], _, _, h => absurd ((h a).1 (by simp)) (by simp)
  | a :: l, b :: m, h1, h2, h => by
    rw [List.pairwise_cons] at h1 h2
    have hirr : ∀ x, ¬ r x x := fun x hx => has x x hx hx
    have hab : a = b := by
      rcases List.mem_cons.1 ((h a).1 (by simp)) with e | hm
      · exact e
      · rcases List.mem_cons.1 ((h b).2 (by simp)) with e | hl
        · exact e.symm
        · exact absurd (h1.1 b hl) (has _ _ (h2.1 a hm))
    subst hab
    have : l = m := eq_of_sorted has l m h1.2 h2.2 fun x => by
      constructor
      · intro hx
        rcases List.mem_cons.1 ((h x).1 (by simp [hx])) with e | hm
        · subst e; exact absurd (h1.1 x hx) (hirr x)
        · exact hm
      · intro hx
        rcases List.mem_cons.1 ((h x).2 (by simp [hx])) with e | hm
        · subst e; exact absurd (h2.1 x hx) (hirr x)
        · exact hm
    rw [this]
/-- The canonical form is one only. -/
theorem Can.eq {C C' S : List Pt} (h : Can C S) (h' : Can C' S) : C = C' := by
  refine eq_of_sorted (r := fun a b => 0 < crs a b) (fun a b h => by rw [crs_anti]; omega) C C' h.sorted h'.sorted fun x => ?_
  have key : ∀ {C C' : List Pt}, Can C S → Can C' S → ∀ x, x ∈ C → x ∈ C' := fun {C C'} h h' x hx => by
    have e : dsum C' x = x := by rw [h'.sums x (h.ups x hx), ← h.sums x (h.ups x hx), h.own hx]
    have := h'.par (h.ups x hx) (by rw [e]; exact up_ne (h.ups x hx))
    rwa [e] at this
  exact ⟨key h h' x, key h' h x⟩
open Go.RowKit
/-- The cells of a row that have a property, from the left. -/
def rowR (p : Int → Int → Bool) (x0 y : Int) : Nat → List Pt
  | 0 => []
  | n + 1 => rowR p x0 y n ++ (if p (x0 + n) y = true then [(x0 + n, y)] else [])
/-- The cells of some rows. -/
def gridR (p : Int → Int → Bool) (x0 : Int) (w : Nat) (y0 : Int) : Nat → List Pt
  | 0 => []
  | n + 1 => gridR p x0 w y0 n ++ rowR p x0 (y0 + n) w
/-- Before by (Y, X). -/
def befP (a b : Pt) : Prop := a.2 < b.2 ∨ (a.2 = b.2 ∧ a.1 < b.1)
theorem rowR_mem {p : Int → Int → Bool} {x0 y : Int} : ∀ {n : Nat} {c : Pt}, c ∈ rowR p x0 y n ↔ (x0 ≤ c.1 ∧ c.1 < x0 + n) ∧ c.2 = y ∧ p c.1 c.2 = true
  | 0, c => by simp only [rowR, List.not_mem_nil, false_iff]; omega
  | n + 1, c => by
    rw [rowR, List.mem_append, rowR_mem]
    constructor
    · rintro (h | h)
      · exact ⟨by omega, h.2⟩
      · split at h
        · rename_i hp
          simp only [List.mem_singleton] at h
          subst h
          exact ⟨by simp only; omega, rfl, hp⟩
        · cases h
    · rintro ⟨h1, h2, h3⟩
      rcases (by omega : c.1 < x0 + n ∨ x0 + n ≤ c.1) with h | h
      · exact .inl ⟨by omega, h2, h3⟩
      · right
        have e : c = (x0 + n, y) := Prod.ext (by simp only; omega) h2
        rw [e] at h3
        rw [if_pos h3, e]; simp
theorem gridR_mem {p : Int → Int → Bool} {x0 y0 : Int} {w : Nat} : ∀ {n : Nat} {c : Pt}, c ∈ gridR p x0 w y0 n ↔ (x0 ≤ c.1 ∧ c.1 < x0 + w) ∧ (y0 ≤ c.2 ∧ c.2 < y0 + n) ∧ p c.1 c.2 = true
  | 0, c => by simp only [gridR, List.not_mem_nil, false_iff]; omega
  | n + 1, c => by
    rw [gridR, List.mem_append, gridR_mem, rowR_mem]
    constructor
    · rintro (h | h)
      · exact ⟨h.1, by omega, h.2.2⟩
      · exact ⟨h.1, by omega, h.2.2⟩
    · rintro ⟨h1, h2, h3⟩
      rcases (by omega : c.2 < y0 + n ∨ y0 + n ≤ c.2) with h | h
      · exact .inl ⟨h1, by omega, h3⟩
      · exact .inr ⟨h1, by omega, h3⟩
theorem rowR_len {p : Int → Int → Bool} {x0 y : Int} : ∀ n : Nat, (rowR p x0 y n).length ≤ n
  | 0 => Nat.le_refl _
  | n + 1 => by
    have := rowR_len (p := p) (x0 := x0) (y := y) n
    rw [rowR, List.length_append]
    split
    · rw [List.length_singleton]; omega
    · rw [List.length_nil]; omega
theorem gridR_len {p : Int → Int → Bool} {x0 y0 : Int} {w : Nat} : ∀ n : Nat, (gridR p x0 w y0 n).length ≤ n * w
  | 0 => by simp [gridR]
  | n + 1 => by
    have := gridR_len (p := p) (x0 := x0) (y0 := y0) (w := w) n
    have := rowR_len (p := p) (x0 := x0) (y := y0 + n) w
    rw [gridR, List.length_append, Nat.succ_mul]; omega
theorem rowR_all {x0 y : Int} : ∀ n : Nat, (rowR (fun _ _ => true) x0 y n).length = n
  | 0 => rfl
  | n + 1 => by rw [rowR, List.length_append, rowR_all n]; simp
theorem gridR_all {x0 y0 : Int} {w : Nat} : ∀ n : Nat, (gridR (fun _ _ => true) x0 w y0 n).length = n * w
  | 0 => by simp [gridR]
  | n + 1 => by rw [gridR, List.length_append, gridR_all n, rowR_all, Nat.succ_mul]
end Go.Proofs.YtcokgigjmjlmnaaGreat
namespace Go.Proofs
open Go.Shelf
def Tryz.lays128_ren : Go.Shelf.Ren := ⟨fun | 128 => 324 | n => n, fun | 51 => 318 | 3 => 3 | 4 => 4 | 46 => 249 | 5 => 5 | 9 => 9 | n => n, fun | n => n⟩
theorem Tryz.lays128 : Go.Proofs.Lays.n128 Tryz.prog Tryz.lays128_ren := {
  mixed := by kernel_rfl
  f128 := Tryz.func324.trans (congrArg some (by kernel_rfl))
  t3 := Tryz.underlying3
  a3 := Tryz.isAgg3
  z3 := Tryz.sizeOf3
  v3 := Tryz.zeroValue3
  t4 := Tryz.underlying4
  a4 := Tryz.isAgg4
  z4 := Tryz.sizeOf4
  v4 := Tryz.zeroValue4
  t5 := Tryz.underlying5
  a5 := Tryz.isAgg5
  z5 := Tryz.sizeOf5
  v5 := Tryz.zeroValue5
  t9 := Tryz.underlying9
  a9 := Tryz.isAgg9
  z9 := Tryz.sizeOf9
  v9 := Tryz.zeroValue9
  t46 := Tryz.underlying249
  a46 := Tryz.isAgg249
  z46 := Tryz.sizeOf249
  v46 := Tryz.zeroValue249
  t51 := Tryz.underlying318
  a51 := Tryz.isAgg318
  z51 := Tryz.sizeOf318
  v51 := Tryz.zeroValue318 }
theorem Tryz.bits_Len32 (x : Int) (w : World) (h0 : 0 ≤ x) (h1 : x ≤ 4294967295) :
    Calls Tryz.prog 324 #[.int .u32 x] w fun e w' => e = .returned (.int .i64 (Lib.bitLen x.toNat)) ∧ w' = w := Any.bits_Len32 Tryz.lays128 x w h0 h1
def Tryz.lays125_ren : Go.Shelf.Ren := ⟨fun | 125 => 254 | 128 => 324 | 129 => 325 | n => n, fun | 46 => 249 | 3 => 3 | 51 => 318 | 53 => 320 | 4 => 4 | 5 => 5 | 9 => 9 | n => n, fun | n => n⟩
theorem Tryz.lays125 : Go.Proofs.Lays.n125 Tryz.prog Tryz.lays125_ren := {
  mixed := by kernel_rfl
  f125 := Tryz.func254.trans (congrArg some (by kernel_rfl))
  f128 := Tryz.func324.trans (congrArg some (by kernel_rfl))
  f129 := Tryz.func325.trans (congrArg some (by kernel_rfl))
  t3 := Tryz.underlying3
  a3 := Tryz.isAgg3
  z3 := Tryz.sizeOf3
  v3 := Tryz.zeroValue3
  t4 := Tryz.underlying4
  a4 := Tryz.isAgg4
  z4 := Tryz.sizeOf4
  v4 := Tryz.zeroValue4
  t5 := Tryz.underlying5
  a5 := Tryz.isAgg5
  z5 := Tryz.sizeOf5
  v5 := Tryz.zeroValue5
  t9 := Tryz.underlying9
  a9 := Tryz.isAgg9
  z9 := Tryz.sizeOf9
  v9 := Tryz.zeroValue9
  t46 := Tryz.underlying249
  a46 := Tryz.isAgg249
  z46 := Tryz.sizeOf249
  v46 := Tryz.zeroValue249
  t51 := Tryz.underlying318
  a51 := Tryz.isAgg318
  z51 := Tryz.sizeOf318
  v51 := Tryz.zeroValue318
  t53 := Tryz.underlying320
  a53 := Tryz.isAgg320
  z53 := Tryz.sizeOf320
  v53 := Tryz.zeroValue320 }
theorem Tryz.bits_Len (x : Int) (w : World) (h0 : 0 ≤ x) (h1 : x ≤ 18446744073709551615) :
    Calls Tryz.prog 254 #[.int .u64 x] w fun e w' => e = .returned (.int .i64 (Lib.bitLen x.toNat)) ∧ w' = w := Any.bits_Len Tryz.lays125 x w h0 h1
def Tryz.lays129_ren : Go.Shelf.Ren := ⟨fun | 129 => 325 | n => n, fun | 53 => 320 | 3 => 3 | 4 => 4 | 46 => 249 | 5 => 5 | 9 => 9 | n => n, fun | n => n⟩
theorem Tryz.lays129 : Go.Proofs.Lays.n129 Tryz.prog Tryz.lays129_ren := {
  mixed := by kernel_rfl
  f129 := Tryz.func325.trans (congrArg some (by kernel_rfl))
  t3 := Tryz.underlying3
  a3 := Tryz.isAgg3
  z3 := Tryz.sizeOf3
  v3 := Tryz.zeroValue3
  t4 := Tryz.underlying4
  a4 := Tryz.isAgg4
  z4 := Tryz.sizeOf4
  v4 := Tryz.zeroValue4
  t5 := Tryz.underlying5
  a5 := Tryz.isAgg5
  z5 := Tryz.sizeOf5
  v5 := Tryz.zeroValue5
  t9 := Tryz.underlying9
  a9 := Tryz.isAgg9
  z9 := Tryz.sizeOf9
  v9 := Tryz.zeroValue9
  t46 := Tryz.underlying249
  a46 := Tryz.isAgg249
  z46 := Tryz.sizeOf249
  v46 := Tryz.zeroValue249
  t53 := Tryz.underlying320
  a53 := Tryz.isAgg320
  z53 := Tryz.sizeOf320
  v53 := Tryz.zeroValue320 }
theorem Tryz.bits_Len64 (x : Int) (w : World) (h0 : 0 ≤ x) (h1 : x ≤ 18446744073709551615) :
    Calls Tryz.prog 325 #[.int .u64 x] w fun e w' => e = .returned (.int .i64 (Lib.bitLen x.toNat)) ∧ w' = w := Any.bits_Len64 Tryz.lays129 x w h0 h1
def Tryz.lays224_ren : Go.Shelf.Ren := ⟨fun | 224 => 348 | n => n, fun | 3 => 3 | n => n, fun | n => n⟩
theorem Tryz.lays224 : Go.Proofs.Lays.n224 Tryz.prog Tryz.lays224_ren := {
  mixed := by kernel_rfl
  f224 := Tryz.func348.trans (congrArg some (by kernel_rfl))
  t3 := Tryz.underlying3
  a3 := Tryz.isAgg3
  z3 := Tryz.sizeOf3
  v3 := Tryz.zeroValue3 }
open Go.RowKit Go.Lib in
theorem Tryz.bytealg_Cutover (n : Int) (h0 : 0 ≤ n) (h1 : n < 4611686018427387904) (w : World) :
    Calls Tryz.prog 348 #[.int .i64 n] w fun e w' => e = .returned (.int .i64 ((n + 16) / 8)) ∧ w' = w := Any.bytealg_Cutover Tryz.lays224 n h0 h1 w
def Tryz.lays185_ren : Go.Shelf.Ren := ⟨fun | 185 => 278 | 187 => 208 | 115 => 346 | 253 => 347 | 224 => 348 | 254 => 349 | 255 => 282 | 291 => 392 | n => n, fun | 37 => 22 | 3 => 3 | 4 => 4 | 0 => 0 | 5 => 5 | 46 => 249 | 9 => 9 | 146 => 362 | 51 => 318 | n => n, fun | 1 => 0 | n => n⟩
theorem Tryz.lays185 : Go.Proofs.Lays.n185 Tryz.prog Tryz.lays185_ren := {
  mixed := by kernel_rfl
  f115 := Tryz.func346.trans (congrArg some (by kernel_rfl))
  f185 := Tryz.func278.trans (congrArg some (by kernel_rfl))
  f187 := Tryz.func208.trans (congrArg some (by kernel_rfl))
  f224 := Tryz.func348.trans (congrArg some (by kernel_rfl))
  f253 := Tryz.func347.trans (congrArg some (by kernel_rfl))
  f254 := Tryz.func349.trans (congrArg some (by kernel_rfl))
  f255 := Tryz.func282.trans (congrArg some (by kernel_rfl))
  f291 := Tryz.func392.trans (congrArg some (by kernel_rfl))
  t0 := Tryz.underlying0
  a0 := Tryz.isAgg0
  z0 := Tryz.sizeOf0
  v0 := Tryz.zeroValue0
  t3 := Tryz.underlying3
  a3 := Tryz.isAgg3
  z3 := Tryz.sizeOf3
  v3 := Tryz.zeroValue3
  t4 := Tryz.underlying4
  a4 := Tryz.isAgg4
  z4 := Tryz.sizeOf4
  v4 := Tryz.zeroValue4
  t5 := Tryz.underlying5
  a5 := Tryz.isAgg5
  z5 := Tryz.sizeOf5
  v5 := Tryz.zeroValue5
  t9 := Tryz.underlying9
  a9 := Tryz.isAgg9
  z9 := Tryz.sizeOf9
  v9 := Tryz.zeroValue9
  t37 := Tryz.underlying22
  a37 := Tryz.isAgg22
  z37 := Tryz.sizeOf22
  v37 := Tryz.zeroValue22
  t46 := Tryz.underlying249
  a46 := Tryz.isAgg249
  z46 := Tryz.sizeOf249
  v46 := Tryz.zeroValue249
  t51 := Tryz.underlying318
  a51 := Tryz.isAgg318
  z51 := Tryz.sizeOf318
  v51 := Tryz.zeroValue318
  t146 := Tryz.underlying362
  a146 := Tryz.isAgg362
  z146 := Tryz.sizeOf362
  v146 := Tryz.zeroValue362
  g1 := by kernel_rfl }
open Go.RowKit Go.Lib in
theorem Tryz.bytes_Index_one (b o n c b2 o2 d : Nat) (xs : List Int) (cv : Int) (w : World) (hx : xs.length = n) (hc : ∀ i, i < n → w.cell? ⟨b, o + i, none⟩ = some (.int .u8 (xs.getD i 0))) (hc2 : w.cell? ⟨b2, o2, none⟩ = some (.int .u8 cv)) :
    Calls Tryz.prog 278 #[.slice (some ⟨b, o, none⟩) n c, .slice (some ⟨b2, o2, none⟩) 1 d] w fun e w' => e = .returned (.int .i64 (Lib.indexByte (Lib.bytesOf xs) cv.toNat.toUInt8)) ∧ w' = w := Any.bytes_Index_one Tryz.lays185 b o n c b2 o2 d xs cv w hx hc hc2
open Go.RowKit Go.Lib in
theorem Tryz.bytes_Index_one_nil (b2 o2 d : Nat) (cv : Int) (w : World) (hc2 : w.cell? ⟨b2, o2, none⟩ = some (.int .u8 cv)) :
    Calls Tryz.prog 278 #[.slice none 0 0, .slice (some ⟨b2, o2, none⟩) 1 d] w fun e w' => e = .returned (.int .i64 (-1)) ∧ w' = w := Any.bytes_Index_one_nil Tryz.lays185 b2 o2 d cv w hc2
open Go.RowKit Go.Lib in
theorem Tryz.bytes_Index_none (p q : Option Addr) (n c d : Nat) (w : World) :
    Calls Tryz.prog 278 #[.slice p n c, .slice q 0 d] w fun e w' => e = .returned (.int .i64 0) ∧ w' = w := Any.bytes_Index_none Tryz.lays185 p q n c d w
open Go.RowKit Go.Lib in
theorem Tryz.bytes_Index_longer (p q : Option Addr) (n c m d : Nat) (w : World) (h2 : 2 ≤ m) (hnm : n < m) (hm : m ≤ 9223372036854775807) :
    Calls Tryz.prog 278 #[.slice p n c, .slice q m d] w fun e w' => e = .returned (.int .i64 (-1)) ∧ w' = w := Any.bytes_Index_longer Tryz.lays185 p q n c m d w h2 hnm hm
open Go.RowKit Go.Lib in
theorem Tryz.bytes_Index_same (b o c b2 o2 d n : Nat) (xs ys : List Int) (w : World) (h2 : 2 ≤ n) (hm : n ≤ 9223372036854775807) (hx : xs.length = n) (hy : ys.length = n) (hc : ∀ i, i < n → w.cell? ⟨b, o + i, none⟩ = some (.int .u8 (xs.getD i 0))) (hc2 : ∀ i, i < n → w.cell? ⟨b2, o2 + i, none⟩ = some (.int .u8 (ys.getD i 0))) :
    Calls Tryz.prog 278 #[.slice (some ⟨b, o, none⟩) n c, .slice (some ⟨b2, o2, none⟩) n d] w fun e w' => e = .returned (.int .i64 (if Lib.bytesOf ys == Lib.bytesOf xs then 0 else -1)) ∧ w' = w := Any.bytes_Index_same Tryz.lays185 b o c b2 o2 d n xs ys w h2 hm hx hy hc hc2
def Tryz.laysSlB13_ren : Go.Shelf.Ren := ⟨fun | 13 => 202 | 24 => 276 | 25 => 277 | 12 => 278 | 31 => 345 | 19 => 208 | 20 => 346 | 21 => 347 | 22 => 348 | 23 => 349 | 29 => 282 | 30 => 392 | n => n, fun | 22 => 22 | 3 => 3 | 4 => 4 | 0 => 0 | 5 => 5 | 9 => 9 | 33 => 249 | 40 => 362 | 39 => 318 | n => n, fun | 0 => 0 | n => n⟩
theorem Tryz.laysSlB13 : Go.Proofs.SlLaysB.n13 Tryz.prog Tryz.laysSlB13_ren := {
  mixed := by kernel_rfl
  f13 := Tryz.func202.trans (congrArg some (by kernel_rfl))
  f25 := Tryz.func277.trans (congrArg some (by kernel_rfl))
  t0 := Tryz.underlying0
  a0 := Tryz.isAgg0
  z0 := Tryz.sizeOf0
  v0 := Tryz.zeroValue0
  t3 := Tryz.underlying3
  a3 := Tryz.isAgg3
  z3 := Tryz.sizeOf3
  v3 := Tryz.zeroValue3
  t4 := Tryz.underlying4
  a4 := Tryz.isAgg4
  z4 := Tryz.sizeOf4
  v4 := Tryz.zeroValue4
  t5 := Tryz.underlying5
  a5 := Tryz.isAgg5
  z5 := Tryz.sizeOf5
  v5 := Tryz.zeroValue5
  t22 := Tryz.underlying22
  a22 := Tryz.isAgg22
  z22 := Tryz.sizeOf22
  v22 := Tryz.zeroValue22 }
open Go.RowKit Go.Lib in
theorem Tryz.bytes_Count_one (b o n c b2 o2 d : Nat) (xs : List Int) (cv : Int) (w : World) (hx : xs.length = n) (hc : ∀ i, i < n → w.cell? ⟨b, o + i, none⟩ = some (.int .u8 (xs.getD i 0))) (hc2 : w.cell? ⟨b2, o2, none⟩ = some (.int .u8 cv)) :
    Calls Tryz.prog 202 #[.slice (some ⟨b, o, none⟩) n c, .slice (some ⟨b2, o2, none⟩) 1 d] w fun e w' => e = .returned (.int .i64 (Lib.countByte (Lib.bytesOf xs) cv.toNat.toUInt8)) ∧ w' = w := Any.bytes_Count_one Tryz.laysSlB13 b o n c b2 o2 d xs cv w hx hc hc2
open Go.RowKit Go.Lib in
theorem Tryz.bytes_Count_one_at (a : Addr) (n c b2 o2 d : Nat) (xs : List Int) (cv : Int) (w : World) (hx : xs.length = n) (hc : ∀ i, i < n → w.cell? (a.add i) = some (.int .u8 (xs.getD i 0))) (hc2 : w.cell? ⟨b2, o2, none⟩ = some (.int .u8 cv)) :
    Calls Tryz.prog 202 #[.slice (some a) n c, .slice (some ⟨b2, o2, none⟩) 1 d] w fun e w' => e = .returned (.int .i64 (Lib.countByte (Lib.bytesOf xs) cv.toNat.toUInt8)) ∧ w' = w := Any.bytes_Count_one_at Tryz.laysSlB13 a n c b2 o2 d xs cv w hx hc hc2
open Go.RowKit Go.Lib in
theorem Tryz.bytes_Count_one_nil (b2 o2 d : Nat) (cv : Int) (w : World) (hc2 : w.cell? ⟨b2, o2, none⟩ = some (.int .u8 cv)) :
    Calls Tryz.prog 202 #[.slice none 0 0, .slice (some ⟨b2, o2, none⟩) 1 d] w fun e w' => e = .returned (.int .i64 0) ∧ w' = w := Any.bytes_Count_one_nil Tryz.laysSlB13 b2 o2 d cv w hc2
def Tryz.lays187_ren : Go.Shelf.Ren := ⟨fun | 187 => 208 | 255 => 282 | n => n, fun | 37 => 22 | 5 => 5 | 3 => 3 | n => n, fun | n => n⟩
theorem Tryz.lays187 : Go.Proofs.Lays.n187 Tryz.prog Tryz.lays187_ren := {
  mixed := by kernel_rfl
  f187 := Tryz.func208.trans (congrArg some (by kernel_rfl))
  f255 := Tryz.func282.trans (congrArg some (by kernel_rfl))
  t3 := Tryz.underlying3
  a3 := Tryz.isAgg3
  z3 := Tryz.sizeOf3
  v3 := Tryz.zeroValue3
  t5 := Tryz.underlying5
  a5 := Tryz.isAgg5
  z5 := Tryz.sizeOf5
  v5 := Tryz.zeroValue5
  t37 := Tryz.underlying22
  a37 := Tryz.isAgg22
  z37 := Tryz.sizeOf22
  v37 := Tryz.zeroValue22 }
open Go.RowKit Go.Lib in
theorem Tryz.bytes_IndexByte_at (a : Addr) (n c : Nat) (xs : List Int) (cv : Int) (w : World) (hx : xs.length = n) (hc : ∀ i, i < n → w.cell? (a.add i) = some (.int .u8 (xs.getD i 0))) :
    Calls Tryz.prog 208 #[.slice (some a) n c, .int .u8 cv] w fun e w' => e = .returned (.int .i64 (Lib.indexByte (Lib.bytesOf xs) cv.toNat.toUInt8)) ∧ w' = w := Any.bytes_IndexByte_at Tryz.lays187 a n c xs cv w hx hc
open Go.RowKit Go.Lib in
theorem Tryz.bytes_Index_one_at (a : Addr) (n c b2 o2 d : Nat) (xs : List Int) (cv : Int) (w : World) (hx : xs.length = n) (hc : ∀ i, i < n → w.cell? (a.add i) = some (.int .u8 (xs.getD i 0))) (hc2 : w.cell? ⟨b2, o2, none⟩ = some (.int .u8 cv)) :
    Calls Tryz.prog 278 #[.slice (some a) n c, .slice (some ⟨b2, o2, none⟩) 1 d] w fun e w' => e = .returned (.int .i64 (Lib.indexByte (Lib.bytesOf xs) cv.toNat.toUInt8)) ∧ w' = w := Any.bytes_Index_one_at Tryz.lays185 a n c b2 o2 d xs cv w hx hc hc2
open Go.Proofs Go.RowKit Go.Lib in
theorem Tryz.bytes_IndexByte_bytes (b o cap : Nat) (t : ByteArray) (cv : Int) (w : World) (hc : Lib.Bytes w b o t) :
    Calls Tryz.prog 208 #[.slice (some ⟨b, o, none⟩) t.size cap, .int .u8 cv] w fun e w' => e = .returned (.int .i64 (Lib.indexByte t.data.toList cv.toNat.toUInt8)) ∧ w' = w := Any.bytes_IndexByte_bytes Tryz.lays187 b o cap t cv w hc
def Tryz.lays115_ren : Go.Shelf.Ren := ⟨fun | 115 => 346 | n => n, fun | 37 => 22 | 4 => 4 | 9 => 9 | 5 => 5 | n => n, fun | n => n⟩
theorem Tryz.lays115 : Go.Proofs.Lays.n115 Tryz.prog Tryz.lays115_ren := {
  mixed := by kernel_rfl
  f115 := Tryz.func346.trans (congrArg some (by kernel_rfl))
  t4 := Tryz.underlying4
  a4 := Tryz.isAgg4
  z4 := Tryz.sizeOf4
  v4 := Tryz.zeroValue4
  t9 := Tryz.underlying9
  a9 := Tryz.isAgg9
  z9 := Tryz.sizeOf9
  v9 := Tryz.zeroValue9
  t37 := Tryz.underlying22
  a37 := Tryz.isAgg22
  z37 := Tryz.sizeOf22
  v37 := Tryz.zeroValue22 }
open Go.Proofs Go.RowKit Go.Lib in
theorem Tryz.bytes_Equal_strs (v1 v2 : Value) (t1 t2 : ByteArray) (w : World) (h1 : (convert 22 9 v1).run Tryz.prog w = .ok (.string t1) w) (h2 : (convert 22 9 v2).run Tryz.prog w = .ok (.string t2) w) :
    Calls Tryz.prog 346 #[v1, v2] w fun e w' => e = .returned (.bool (t1.toList == t2.toList)) ∧ w' = w := Any.bytes_Equal_strs Tryz.lays115 v1 v2 t1 t2 w h1 h2
theorem Tryz.bytes_Equal (v1 v2 : Value) (xs ys : List Int) (w : World) (h1 : (convert 22 9 v1).run Tryz.prog w = .ok (.string (strOfNums xs)) w) (h2 : (convert 22 9 v2).run Tryz.prog w = .ok (.string (strOfNums ys)) w) :
    Calls Tryz.prog 346 #[v1, v2] w fun e w' => e = .returned (.bool (Lib.bytesOf xs == Lib.bytesOf ys)) ∧ w' = w := Any.bytes_Equal Tryz.lays115 v1 v2 xs ys w h1 h2
theorem Tryz.bytes_IndexByte (b o n c : Nat) (xs : List Int) (cv : Int) (w : World) (hx : xs.length = n) (hc : ∀ i, i < n → w.cell? ⟨b, o + i, none⟩ = some (.int .u8 (xs.getD i 0))) :
    Calls Tryz.prog 208 #[.slice (some ⟨b, o, none⟩) n c, .int .u8 cv] w fun e w' => e = .returned (.int .i64 (Lib.indexByte (Lib.bytesOf xs) cv.toNat.toUInt8)) ∧ w' = w := Any.bytes_IndexByte Tryz.lays187 b o n c xs cv w hx hc
theorem Tryz.bytes_IndexByte_nil (cv : Int) (w : World) :
    Calls Tryz.prog 208 #[.slice none 0 0, .int .u8 cv] w fun e w' => e = .returned (.int .i64 (-1)) ∧ w' = w := Any.bytes_IndexByte_nil Tryz.lays187 cv w
def Tryz.sort169_ren : Go.Shelf.Ren := ⟨fun | 6 => 169 | 15 => 254 | 14 => 253 | 28 => 324 | 29 => 325 | 20 => 316 | 21 => 317 | 22 => 318 | 23 => 319 | 24 => 320 | 25 => 321 | 26 => 322 | 27 => 323 | 46 => 379 | 47 => 380 | 48 => 381 | 49 => 382 | 50 => 383 | 57 => 406 | n => n, fun | 22 => 52 | 24 => 58 | 25 => 217 | 3 => 3 | 39 => 249 | 0 => 0 | 53 => 318 | 55 => 320 | 4 => 4 | 46 => 311 | 45 => 310 | 50 => 315 | 5 => 5 | 9 => 9 | 66 => 352 | 70 => 356 | 76 => 369 | 77 => 321 | n => n, fun | n => n⟩
theorem Tryz.sort169 : Go.Proofs.SlLaysF0.n6 Tryz.prog Tryz.sort169_ren := {
  mixed := by kernel_rfl
  f6 := ⟨Tryz.f169.name, by decide, Tryz.func169.trans (congrArg some (by kernel_rfl))⟩
  f14 := ⟨Tryz.f253.name, by decide, Tryz.func253.trans (congrArg some (by kernel_rfl))⟩
  f15 := Tryz.func254.trans (congrArg some (by kernel_rfl))
  f20 := ⟨Tryz.f316.name, by decide, Tryz.func316.trans (congrArg some (by kernel_rfl))⟩
  f21 := ⟨Tryz.f317.name, by decide, Tryz.func317.trans (congrArg some (by kernel_rfl))⟩
  f22 := ⟨Tryz.f318.name, by decide, Tryz.func318.trans (congrArg some (by kernel_rfl))⟩
  f23 := ⟨Tryz.f319.name, by decide, Tryz.func319.trans (congrArg some (by kernel_rfl))⟩
  f24 := ⟨Tryz.f320.name, by decide, Tryz.func320.trans (congrArg some (by kernel_rfl))⟩
  f25 := ⟨Tryz.f321.name, by decide, Tryz.func321.trans (congrArg some (by kernel_rfl))⟩
  f26 := ⟨Tryz.f322.name, by decide, Tryz.func322.trans (congrArg some (by kernel_rfl))⟩
  f27 := ⟨Tryz.f323.name, by decide, Tryz.func323.trans (congrArg some (by kernel_rfl))⟩
  f28 := Tryz.func324.trans (congrArg some (by kernel_rfl))
  f29 := Tryz.func325.trans (congrArg some (by kernel_rfl))
  f46 := ⟨Tryz.f379.name, by decide, Tryz.func379.trans (congrArg some (by kernel_rfl))⟩
  f47 := Tryz.func380.trans (congrArg some (by kernel_rfl))
  f48 := Tryz.func381.trans (congrArg some (by kernel_rfl))
  f49 := ⟨Tryz.f382.name, by decide, Tryz.func382.trans (congrArg some (by kernel_rfl))⟩
  f50 := ⟨Tryz.f383.name, by decide, Tryz.func383.trans (congrArg some (by kernel_rfl))⟩
  f57 := ⟨Tryz.f406.name, by decide, Tryz.func406.trans (congrArg some (by kernel_rfl))⟩
  t0 := Tryz.underlying0
  a0 := Tryz.isAgg0
  z0 := Tryz.sizeOf0
  v0 := Tryz.zeroValue0
  t3 := Tryz.underlying3
  a3 := Tryz.isAgg3
  z3 := Tryz.sizeOf3
  v3 := Tryz.zeroValue3
  t4 := Tryz.underlying4
  a4 := Tryz.isAgg4
  z4 := Tryz.sizeOf4
  v4 := Tryz.zeroValue4
  t5 := Tryz.underlying5
  a5 := Tryz.isAgg5
  z5 := Tryz.sizeOf5
  v5 := Tryz.zeroValue5
  t9 := Tryz.underlying9
  a9 := Tryz.isAgg9
  z9 := Tryz.sizeOf9
  v9 := Tryz.zeroValue9
  t22 := Tryz.underlying52
  a22 := Tryz.isAgg52
  z22 := Tryz.sizeOf52
  v22 := Tryz.zeroValue52
  t25 := Tryz.underlying217
  a25 := Tryz.isAgg217
  z25 := Tryz.sizeOf217
  v25 := Tryz.zeroValue217
  t39 := Tryz.underlying249
  a39 := Tryz.isAgg249
  z39 := Tryz.sizeOf249
  v39 := Tryz.zeroValue249
  t45 := Tryz.underlying310
  a45 := Tryz.isAgg310
  z45 := Tryz.sizeOf310
  v45 := Tryz.zeroValue310
  t46 := Tryz.underlying311
  a46 := Tryz.isAgg311
  z46 := Tryz.sizeOf311
  v46 := Tryz.zeroValue311
  t50 := Tryz.underlying315
  a50 := Tryz.isAgg315
  z50 := Tryz.sizeOf315
  v50 := Tryz.zeroValue315
  t53 := Tryz.underlying318
  a53 := Tryz.isAgg318
  z53 := Tryz.sizeOf318
  v53 := Tryz.zeroValue318
  t55 := Tryz.underlying320
  a55 := Tryz.isAgg320
  z55 := Tryz.sizeOf320
  v55 := Tryz.zeroValue320
  t66 := Tryz.underlying352
  a66 := Tryz.isAgg352
  z66 := Tryz.sizeOf352
  v66 := Tryz.zeroValue352
  t70 := Tryz.underlying356
  a70 := Tryz.isAgg356
  z70 := Tryz.sizeOf356
  v70 := Tryz.zeroValue356
  t76 := Tryz.underlying369
  a76 := Tryz.isAgg369
  z76 := Tryz.sizeOf369
  v76 := Tryz.zeroValue369
  t77 := Tryz.underlying321
  a77 := Tryz.isAgg321
  z77 := Tryz.sizeOf321
  v77 := Tryz.zeroValue321 }
def Tryz.sort386_ren : Go.Shelf.Ren := ⟨fun | 6 => 386 | 15 => 254 | 14 => 407 | 28 => 324 | 29 => 325 | 20 => 412 | 21 => 413 | 22 => 414 | 23 => 415 | 24 => 416 | 25 => 417 | 26 => 418 | 27 => 419 | 46 => 420 | 47 => 380 | 48 => 381 | 49 => 421 | 50 => 422 | 57 => 423 | n => n, fun | 22 => 239 | 24 => 79 | 25 => 340 | 3 => 3 | 39 => 249 | 0 => 0 | 53 => 318 | 55 => 320 | 4 => 4 | 46 => 311 | 45 => 310 | 50 => 315 | 5 => 5 | 9 => 9 | 66 => 352 | 70 => 356 | 76 => 369 | 77 => 321 | n => n, fun | n => n⟩
theorem Tryz.sort386 : Go.Proofs.SlLaysF0.n6 Tryz.prog Tryz.sort386_ren := {
  mixed := by kernel_rfl
  f6 := ⟨Tryz.f386.name, by decide, Tryz.func386.trans (congrArg some (by kernel_rfl))⟩
  f14 := ⟨Tryz.f407.name, by decide, Tryz.func407.trans (congrArg some (by kernel_rfl))⟩
  f15 := Tryz.func254.trans (congrArg some (by kernel_rfl))
  f20 := ⟨Tryz.f412.name, by decide, Tryz.func412.trans (congrArg some (by kernel_rfl))⟩
  f21 := ⟨Tryz.f413.name, by decide, Tryz.func413.trans (congrArg some (by kernel_rfl))⟩
  f22 := ⟨Tryz.f414.name, by decide, Tryz.func414.trans (congrArg some (by kernel_rfl))⟩
  f23 := ⟨Tryz.f415.name, by decide, Tryz.func415.trans (congrArg some (by kernel_rfl))⟩
  f24 := ⟨Tryz.f416.name, by decide, Tryz.func416.trans (congrArg some (by kernel_rfl))⟩
  f25 := ⟨Tryz.f417.name, by decide, Tryz.func417.trans (congrArg some (by kernel_rfl))⟩
  f26 := ⟨Tryz.f418.name, by decide, Tryz.func418.trans (congrArg some (by kernel_rfl))⟩
  f27 := ⟨Tryz.f419.name, by decide, Tryz.func419.trans (congrArg some (by kernel_rfl))⟩
  f28 := Tryz.func324.trans (congrArg some (by kernel_rfl))
  f29 := Tryz.func325.trans (congrArg some (by kernel_rfl))
  f46 := ⟨Tryz.f420.name, by decide, Tryz.func420.trans (congrArg some (by kernel_rfl))⟩
  f47 := Tryz.func380.trans (congrArg some (by kernel_rfl))
  f48 := Tryz.func381.trans (congrArg some (by kernel_rfl))
  f49 := ⟨Tryz.f421.name, by decide, Tryz.func421.trans (congrArg some (by kernel_rfl))⟩
  f50 := ⟨Tryz.f422.name, by decide, Tryz.func422.trans (congrArg some (by kernel_rfl))⟩
  f57 := ⟨Tryz.f423.name, by decide, Tryz.func423.trans (congrArg some (by kernel_rfl))⟩
  t0 := Tryz.underlying0
  a0 := Tryz.isAgg0
  z0 := Tryz.sizeOf0
  v0 := Tryz.zeroValue0
  t3 := Tryz.underlying3
  a3 := Tryz.isAgg3
  z3 := Tryz.sizeOf3
  v3 := Tryz.zeroValue3
  t4 := Tryz.underlying4
  a4 := Tryz.isAgg4
  z4 := Tryz.sizeOf4
  v4 := Tryz.zeroValue4
  t5 := Tryz.underlying5
  a5 := Tryz.isAgg5
  z5 := Tryz.sizeOf5
  v5 := Tryz.zeroValue5
  t9 := Tryz.underlying9
  a9 := Tryz.isAgg9
  z9 := Tryz.sizeOf9
  v9 := Tryz.zeroValue9
  t22 := Tryz.underlying239
  a22 := Tryz.isAgg239
  z22 := Tryz.sizeOf239
  v22 := Tryz.zeroValue239
  t25 := Tryz.underlying340
  a25 := Tryz.isAgg340
  z25 := Tryz.sizeOf340
  v25 := Tryz.zeroValue340
  t39 := Tryz.underlying249
  a39 := Tryz.isAgg249
  z39 := Tryz.sizeOf249
  v39 := Tryz.zeroValue249
  t45 := Tryz.underlying310
  a45 := Tryz.isAgg310
  z45 := Tryz.sizeOf310
  v45 := Tryz.zeroValue310
  t46 := Tryz.underlying311
  a46 := Tryz.isAgg311
  z46 := Tryz.sizeOf311
  v46 := Tryz.zeroValue311
  t50 := Tryz.underlying315
  a50 := Tryz.isAgg315
  z50 := Tryz.sizeOf315
  v50 := Tryz.zeroValue315
  t53 := Tryz.underlying318
  a53 := Tryz.isAgg318
  z53 := Tryz.sizeOf318
  v53 := Tryz.zeroValue318
  t55 := Tryz.underlying320
  a55 := Tryz.isAgg320
  z55 := Tryz.sizeOf320
  v55 := Tryz.zeroValue320
  t66 := Tryz.underlying352
  a66 := Tryz.isAgg352
  z66 := Tryz.sizeOf352
  v66 := Tryz.zeroValue352
  t70 := Tryz.underlying356
  a70 := Tryz.isAgg356
  z70 := Tryz.sizeOf356
  v70 := Tryz.zeroValue356
  t76 := Tryz.underlying369
  a76 := Tryz.isAgg369
  z76 := Tryz.sizeOf369
  v76 := Tryz.zeroValue369
  t77 := Tryz.underlying321
  a77 := Tryz.isAgg321
  z77 := Tryz.sizeOf321
  v77 := Tryz.zeroValue321 }
def Tryz.grow391_ren : Go.Shelf.Ren := ⟨fun | 4 => 391 | n => n, fun | 22 => 239 | 25 => 79 | 3 => 3 | 4 => 4 | 9 => 9 | 20 => 20 | 0 => 0 | 2 => 3 | n => n, fun | n => n⟩
theorem Tryz.grow391 : Go.Proofs.Lays8.n4 Tryz.prog Tryz.grow391_ren := {
  mixed := by kernel_rfl
  f4 := ⟨Tryz.f391.name, by decide, Tryz.func391.trans (congrArg some (by kernel_rfl))⟩
  t0 := Tryz.underlying0
  a0 := Tryz.isAgg0
  z0 := Tryz.sizeOf0
  v0 := Tryz.zeroValue0
  t3 := Tryz.underlying3
  a3 := Tryz.isAgg3
  z3 := Tryz.sizeOf3
  v3 := Tryz.zeroValue3
  t4 := Tryz.underlying4
  a4 := Tryz.isAgg4
  z4 := Tryz.sizeOf4
  v4 := Tryz.zeroValue4
  t9 := Tryz.underlying9
  a9 := Tryz.isAgg9
  z9 := Tryz.sizeOf9
  v9 := Tryz.zeroValue9
  t20 := Tryz.underlying20
  a20 := Tryz.isAgg20
  z20 := Tryz.sizeOf20
  v20 := Tryz.zeroValue20
  t22 := Tryz.underlying239
  a22 := Tryz.isAgg239
  z22 := Tryz.sizeOf239
  v22 := Tryz.zeroValue239 }
end Go.Proofs
namespace Go.Proofs.YtcokgigjmjlmnaaGreat
set_option linter.unusedSimpArgs false
set_option linter.unusedVariables false
open Go.RowKit Go.Sort
theorem below_grow (w : World) (os : Array Obj) : Below w.heap.size w (Go.Sort.grow w os) := ⟨rfl, rfl, rfl, by simp [grow], fun k hk => heap_grow_old w os hk⟩
theorem splice_all {xs ys : List AV} (h : ys.length = xs.length) : splice xs 0 ys = ys := by
  have hl : 0 + ys.length ≤ xs.length := by omega
  refine List.ext_getElem? fun j => ?_
  rw [splice_get hl]
  by_cases hj : j < ys.length
  · rw [if_pos ⟨by omega, by omega⟩, Nat.sub_zero]
  · rw [if_neg (by omega), List.getElem?_eq_none (by omega), List.getElem?_eq_none (by omega)]
theorem rels_prs {E : Env} : ∀ (l : List (Int × Int)), RelL E (prs l) (enc2 l)
  | [] => .nil E
  | p :: l => .cons (.int _ _) (.cons (.int _ _) (rels_prs l))
theorem prs_onef : ∀ (l : List (Int × Int)), (prs l).all AV.one = true
  | [] => rfl
  | p :: l => by rw [prs_cons]; simp [AV.one, prs_onef l]
section
variable {E : Env} {H : AHeap} {w : World}
theorem Emb.putP (h : Emb E H w) {b q : Nat} {zs ys : List (Int × Int)} (hg : H[b]? = some (.cells true 2 (prs zs))) (hl : ys.length = zs.length) (os : Array Obj) :
    Emb E (H.set b (.cells true 2 (prs ys))) (Go.Sort.grow ((w.drewN q).setCells (E.loc b).blk ((E.loc b).off) (enc2 ys)) os) := by
  have h0 : Emb E H (w.drewN q) := h.up (below_drewN (Below.refl _ _) q)
  have hw : awrite H b 0 (prs ys) = some (H.set b (.cells true 2 (prs ys))) := by
    unfold awrite
    rw [hg]
    simp only
    rw [if_pos ⟨by simp [prs_len, hl], prs_onef ys⟩, splice_all (by simp [prs_len, hl])]
  exact ((h0.write (rels_prs ys) hw).2.2.2).up (below_grow _ os)
end
/-- Elements as their two cells. -/
def encP {α : Type} (val : α → Int × Int) (x : α) : List Value := [.int .i64 (val x).1, .int .i64 (val x).2]
theorem flat_list {α : Type} [Inhabited α] (val : α → Int × Int) (zs : List α) : flatK (encP val) 2 zs.toArray = (enc2 (zs.map val)).toArray := by
  refine ext_get! (by simp [enc2_len]) fun t ht => ?_
  have ht' : t < zs.length * 2 := by simpa using ht
  rw [get_flatK _ _ _ _ (by simpa using ht')]
  have hj : t / 2 < zs.length := by omega
  obtain ⟨e1, e2⟩ := enc2_at (zs.map val) (t / 2) (by simpa using hj)
  have hx : zs.toArray[t / 2]! = zs[t / 2] := by simp [hj]
  rw [hx]
  have hr : (enc2 (zs.map val)).toArray[t]! = ((enc2 (zs.map val))[t]?).getD default := by simp [List.getElem!_eq_getElem?_getD]
  rw [hr]
  rcases Nat.mod_two_eq_zero_or_one t with h | h
  · have : t = t / 2 * 2 := by omega
    rw [← this] at e1
    rw [h, e1]
    simp [encP]
  · have : t = t / 2 * 2 + 1 := by omega
    rw [← this] at e2
    rw [h, e2]
    simp [encP]
set_option maxRecDepth 100000 in
theorem sortf_a {α : Type} [Inhabited α] (val : α → Int × Int) (cf : α → α → Int) (hO : SWO (ltOf cf)) (g : FuncId) (eg : ∀ args w, (callFunc g args).run Tryz.prog w = .ok (.enter g args) w)
    (hcmp : ∀ (x y : α) (W : World), Calls Tryz.prog g #[.agg #[.int .i64 (val x).1, .int .i64 (val x).2], .agg #[.int .i64 (val y).1, .int .i64 (val y).2]] W fun e w' => e = .returned (.int .i64 (cf x y)) ∧ ∃ q os', w' = grow (W.drewN q) os')
    {H : AHeap} {b n : Nat} {cap : Option Nat} {zs : List α} (hg : H[b]? = some (.cells true 2 (prs (zs.map val)))) (hn : n = zs.length) (h0 : 0 < n) (h1 : n ≤ 1000000) :
    ACalls Tryz.prog 386 [.sl (some (b, 0)) n cap, .fn g []] H
      (fun v H' => v = .tup [] ∧ ∃ ys : List α, ys.Perm zs ∧ ys.Pairwise (fun x y => ltOf cf y x = false) ∧ H' = H.set b (.cells true 2 (prs (ys.map val)))) := fun E w vs hE hv => by
  obtain ⟨v1, l1, rfl, k1, h1'⟩ := rels_cons hv
  obtain ⟨v2, l2, rfl, k2, h2'⟩ := rels_cons h1'
  obtain rfl := rels_nil h2'
  have hf : v2 = .func (.func g) #[] #[] := by
    cases k2 with
    | fn _ _ cs hl _ =>
      have : cs = #[] := by
        have : cs.size = 0 := hl.symm
        exact Array.eq_empty_of_size_eq_zero this
      rw [this]
  subst hf
  cases k1 with
  | nils _ _ _ _ => exact absurd h0 (Nat.lt_irrefl 0)
  | sl _ _ _ _ c a hb h2 h3 h4 h5 h6 =>
  have hc : c ≠ 0 := by omega
  obtain rfl := h5.resolve_left hc
  obtain ⟨m1, m2, -, -⟩ := hE.blk b _ hg
  obtain ⟨o1, o2, o3, o4, o5⟩ := m2 rfl
  have hpl : (prs (zs.map val)).length = zs.length * 2 := by rw [prs_len]; simp
  have hH : HoldsK (encP val) 2 w (E.loc b).blk (E.loc b).off zs.toArray := by
    show Holds id w _ _ (flatK (encP val) 2 zs.toArray)
    rw [flat_list]
    intro j hj
    have hj' : j < zs.length * 2 := by simpa [enc2_len] using hj
    refine ⟨?_, (o5 j (by omega)).2⟩
    have hx : (prs (zs.map val))[j]? = some (prs (zs.map val))[j] := List.getElem?_eq_getElem (by omega)
    obtain ⟨-, v, hv, hr⟩ := m1 j _ hx
    rw [hv]
    obtain ⟨u, hu, hru⟩ := (rels_prs (E := E) (zs.map val)).get hx
    have : ∀ (k : Nat) (l : List (Int × Int)) (y : AV) (v u : Value), (prs l)[k]? = some y → Rel E y v → (enc2 l)[k]? = some u → v = u := by
      intro k l
      induction l generalizing k with
      | nil => intro y v u h; simp [prs] at h
      | cons p l ih =>
        intro y v u h1 h2 h3
        match k with
        | 0 => simp [prs_cons, enc2] at h1 h3; subst h1 h3; exact rel_int h2
        | 1 => simp [prs_cons, enc2] at h1 h3; subst h1 h3; exact rel_int h2
        | k + 2 =>
          refine ih k y v u (by simpa [prs_cons] using h1) h2 ?_
          simpa [enc2] using h3
    have e := this j _ _ v u hx hr hu
    subst e
    simp [List.getElem!_eq_getElem?_getD, hu]
  have hcon := AnyQ.slices_SortFunc Tryz.sort386 2 Tryz.isAgg79 Tryz.sizeOf79 (encP val) (fun _ => rfl) (fun x v hv => by simp [encP] at hv; rcases hv with rfl | rfl <;> rfl) cf hO g #[] (E.loc b).blk (E.loc b).off c zs.toArray w eg
    (fun _ _ _ _ x y => by simpa [encP] using hcmp x y _) hH o2 (by simp; omega)
  change Calls Tryz.prog 386 _ _ _ at hcon
  have hsz : zs.toArray.size = n := by simp [hn]
  rw [hsz] at hcon
  refine hcon.mono fun e w' ⟨he, d', q, os, hp, hs, hw⟩ => ?_
  subst hw
  obtain ⟨p1, -, p3⟩ := hp
  have hperm : d'.toList.Perm zs := by
    have a1 : d'.extract 0 n = d' := by rw [← hsz, ← p1]; simp
    have a2 : zs.toArray.extract 0 n = zs.toArray := by rw [← hsz]; simp
    rw [a1, a2] at p3
    simpa using p3
  have hl : (d'.toList.map val).length = (zs.map val).length := by simp [hperm.length_eq]
  refine ⟨E, _, _, .tup [], he, ⟨rfl, d'.toList, hperm, ?_, rfl⟩, .refl E, .tup [] #[] rfl (fun i x v h => by simp at h), ?_⟩
  · rw [List.pairwise_iff_getElem]
    intro i j hi hj hij
    have := hs i j (Nat.zero_le _) hij (by have := hperm.length_eq; simp at hj this; omega)
    simp at hi hj
    simpa [hi, hj] using this
  · have hd : d' = d'.toList.toArray := by simp
    have e1 : sortWorldK (encP val) 2 w (E.loc b).blk (E.loc b).off q d' os = grow ((w.drewN q).setCells (E.loc b).blk (E.loc b).off (enc2 (d'.toList.map val))) os := by
      unfold sortWorldK
      congr 1
      show putRow id (Sort.ahead w q) _ _ (flatK (encP val) 2 d') = _
      rw [hd, flat_list]
      have := Lib.putRow_eq_setCells id w (E.loc b).blk (E.loc b).off (flatK (encP val) 2 zs.toArray) (enc2 (d'.toList.map val)) q hH (by rw [enc2_len, hl]; simp)
      simpa using this
    rw [e1]
    exact hE.putP hg hl os
set_option linter.unusedSimpArgs false
set_option linter.unusedVariables false
open Go.RowKit
/-- One element of the old form, with the generator g on its way (done: it has been put). -/
def pst (g : Pt) (s : List Pt × Bool) (e : Pt) : List Pt × Bool :=
  if crs g e = 0 then (s.1 ++ [padd e g], true) else if 0 < crs g e ∧ s.2 = false then (s.1 ++ [g, e], true) else (s.1 ++ [e], s.2)
def putC (C : List Pt) (g : Pt) : List Pt := let s := C.foldl (pst g) ([], false); if s.2 = true then s.1 else s.1 ++ [g]
/-- One more generator. -/
def putL (C : List Pt) (g : Pt) : List Pt := if nrm g = (0, 0) then C else putC C (nrm g)
def canonL (l : List Pt) : List Pt := l.foldl putL []
/-- The directions of generators. -/
def dirs (l : List Pt) : List Pt := (l.map nrm).filter fun g => decide (g ≠ (0, 0))
theorem dirs_up {l : List Pt} : ∀ e ∈ dirs l, up e := fun e he => by
  unfold dirs at he
  simp only [List.mem_filter, List.mem_map, decide_eq_true_eq] at he
  obtain ⟨⟨g, -, rfl⟩, h⟩ := he
  exact nrm_up h
theorem pst_before {g : Pt} : ∀ (A : List Pt) (o : List Pt) (d : Bool), (∀ a ∈ A, crs g a < 0) → A.foldl (pst g) (o, d) = (o ++ A, d)
  | [], o, d, _ => by simp
  | a :: A, o, d, h => by
    have ha := h a (by simp)
    rw [List.foldl_cons]
    have : pst g (o, d) a = (o ++ [a], d) := by
      unfold pst
      rw [if_neg (by omega), if_neg (by simp only; omega)]
    rw [this, pst_before A _ d fun b hb => h b (by simp [hb])]
    simp
theorem pst_behind {g : Pt} : ∀ (A : List Pt) (o : List Pt), (∀ a ∈ A, 0 < crs g a) → A.foldl (pst g) (o, true) = (o ++ A, true)
  | [], o, _ => by simp
  | a :: A, o, h => by
    have ha := h a (by simp)
    rw [List.foldl_cons]
    have : pst g (o, true) a = (o ++ [a], true) := by
      unfold pst
      rw [if_neg (by omega), if_neg (by simp)]
    rw [this, pst_behind A _ fun b hb => h b (by simp [hb])]
    simp
/-- Where g stands in a sorted row. -/
theorem split_at {g : Pt} (hg : up g) : ∀ (C : List Pt), C.Pairwise (fun a b => 0 < crs a b) → (∀ e ∈ C, up e) →
    (∃ A B, C = A ++ B ∧ (∀ a ∈ A, crs g a < 0) ∧ ∀ b ∈ B, 0 < crs g b) ∨ ∃ A e B, C = A ++ e :: B ∧ (∀ a ∈ A, crs g a < 0) ∧ crs g e = 0 ∧ ∀ b ∈ B, 0 < crs g b
  | [], _, _ => .inl ⟨[], [], rfl, by simp, by simp⟩
  | c :: C, hs, hu => by
    rw [List.pairwise_cons] at hs
    have hc := hu c (by simp)
    rcases Int.lt_trichotomy (crs g c) 0 with h | h | h
    · rcases split_at hg C hs.2 (fun e he => hu e (by simp [he])) with ⟨A, B, rfl, h1, h2⟩ | ⟨A, e, B, rfl, h1, h2, h3⟩
      · exact .inl ⟨c :: A, B, rfl, fun a ha => by
          rcases List.mem_cons.1 ha with rfl | ha
          · exact h
          · exact h1 a ha, h2⟩
      · exact .inr ⟨c :: A, e, B, rfl, fun a ha => by
          rcases List.mem_cons.1 ha with rfl | ha
          · exact h
          · exact h1 a ha, h2, h3⟩
    · exact .inr ⟨[], c, C, rfl, by simp, h, fun b hb => crs_par_l hg hc (hu b (by simp [hb])) h (hs.1 b hb)⟩
    · exact .inl ⟨[], c :: C, rfl, by simp, fun b hb => by
        rcases List.mem_cons.1 hb with rfl | hb
        · exact h
        · exact crs_trans hg hc (hu b (by simp [hb])) h (hs.1 b hb)⟩
theorem putC_none {A B : List Pt} {g : Pt} (h1 : ∀ a ∈ A, crs g a < 0) (h2 : ∀ b ∈ B, 0 < crs g b) : putC (A ++ B) g = A ++ g :: B := by
  unfold putC
  simp only [List.foldl_append, pst_before A [] false h1, List.nil_append]
  cases B with
  | nil => simp
  | cons b B =>
    have hb := h2 b (by simp)
    rw [List.foldl_cons]
    have : pst g (A, false) b = (A ++ [g, b], true) := by
      unfold pst
      rw [if_neg (by omega), if_pos ⟨hb, rfl⟩]
    rw [this, pst_behind B _ fun c hc => h2 c (by simp [hc])]
    simp
theorem putC_some {A B : List Pt} {g e : Pt} (h1 : ∀ a ∈ A, crs g a < 0) (h0 : crs g e = 0) (h2 : ∀ b ∈ B, 0 < crs g b) : putC (A ++ e :: B) g = A ++ padd e g :: B := by
  unfold putC
  simp only [List.foldl_append, pst_before A [] false h1, List.nil_append, List.foldl_cons]
  have : pst g (A, false) e = (A ++ [padd e g], true) := by
    unfold pst
    rw [if_pos h0]
  rw [this, pst_behind B _ h2]
  simp
theorem putC_can {C S : List Pt} (h : Can C S) {g : Pt} (hg : up g) : Can (putC C g) (S ++ [g]) := by
  have hsum : ∀ (k : Pt), dsum (S ++ [g]) k = if crs g k = 0 then padd (dsum S k) g else dsum S k := fun k => by
    rw [dsum_append]
    simp only [dsum]
    split
    · rw [padd_zero]
    · rw [padd_zero]
  rcases split_at hg C h.sorted h.ups with ⟨A, B, rfl, h1, h2⟩ | ⟨A, e, B, rfl, h1, h0, h2⟩
  · rw [putC_none h1 h2]
    have hs := h.sorted
    rw [List.pairwise_append] at hs
    refine ⟨?_, fun x hx => ?_, fun k hk => ?_⟩
    · rw [List.pairwise_append, List.pairwise_cons]
      exact ⟨hs.1, ⟨h2, hs.2.1⟩, fun a ha b hb => by
        rcases List.mem_cons.1 hb with rfl | hb
        · rw [crs_anti]; have := h1 a ha; omega
        · exact hs.2.2 a ha b hb⟩
    · rcases List.mem_append.1 hx with hx | hx
      · exact h.ups x (by simp [hx])
      · rcases List.mem_cons.1 hx with rfl | hx
        · exact hg
        · exact h.ups x (by simp [hx])
    · rw [hsum, ← h.sums k hk, dsum_append, dsum_append]
      simp only [dsum]
      split
      · rw [padd_assoc, padd_comm g]
      · rfl
  · rw [putC_some h1 h0 h2]
    have hs := h.sorted
    rw [List.pairwise_append, List.pairwise_cons] at hs
    have he := h.ups e (by simp)
    have heg : ∀ k, crs (padd e g) k = crs e k + crs g k := fun k => crs_add_l e g k
    refine ⟨?_, fun x hx => ?_, fun k hk => ?_⟩
    · rw [List.pairwise_append, List.pairwise_cons]
      refine ⟨hs.1, ⟨fun b hb => ?_, hs.2.1.2⟩, fun a ha b hb => ?_⟩
      · rw [heg]; have := hs.2.1.1 b hb; have := h2 b hb; omega
      · rcases List.mem_cons.1 hb with rfl | hb
        · rw [crs_add_r]; have := hs.2.2 a ha e (by simp); have := h1 a ha; have := crs_anti g a; omega
        · exact hs.2.2 a ha b (by simp [hb])
    · rcases List.mem_append.1 hx with hx | hx
      · exact h.ups x (by simp [hx])
      · rcases List.mem_cons.1 hx with rfl | hx
        · exact up_add he hg
        · exact h.ups x (by simp [hx])
    · rw [hsum, ← h.sums k hk, dsum_append, dsum_append]
      simp only [dsum]
      have e1 : crs e k = 0 ↔ crs g k = 0 := ⟨fun h3 => par_trans hg he hk h0 h3, fun h3 => par_trans he hg hk (by rw [crs_anti]; omega) h3⟩
      by_cases hc : crs g k = 0
      · rw [if_pos (by rw [heg]; have := e1.2 hc; omega), if_pos (e1.2 hc), if_pos hc]
        simp only [padd, Prod.mk.injEq]; omega
      · have hc' : crs e k ≠ 0 := fun h3 => hc (e1.1 h3)
        have hne : crs (padd e g) k ≠ 0 := by
          intro h3
          -- e + g is parallel to e
          have h4 : crs e (padd e g) = 0 := by rw [crs_add_r, crs_self, crs_anti]; omega
          exact hc' (par_trans he (up_add he hg) hk h4 h3)
        rw [if_neg hne, if_neg hc', if_neg hc]
theorem Can.nil : Can [] [] := ⟨.nil, by simp, fun _ _ => rfl⟩
theorem canonL_can (l : List Pt) : Can (canonL l) (dirs l) := by
  have gen : ∀ (l : List Pt) (C S : List Pt), Can C S → Can (l.foldl putL C) (S ++ dirs l) := by
    intro l
    induction l with
    | nil => intro C S h; simpa [dirs] using h
    | cons g l ih =>
      intro C S h
      rw [List.foldl_cons]
      by_cases h0 : nrm g = (0, 0)
      · have e1 : putL C g = C := by unfold putL; rw [if_pos h0]
        have e2 : dirs (g :: l) = dirs l := by simp [dirs, h0]
        rw [e1, e2]; exact ih C S h
      · have e1 : putL C g = putC C (nrm g) := by unfold putL; rw [if_neg h0]
        have e2 : dirs (g :: l) = nrm g :: dirs l := by simp [dirs, h0]
        rw [e1, e2]
        have := ih (putC C (nrm g)) (S ++ [nrm g]) (putC_can h (nrm_up h0))
        simpa using this
  have := gen l [] [] .nil
  simpa [canonL] using this
/-- Merging a sorted row. -/
def mst (out : List Pt) (g : Pt) : List Pt :=
  match out.getLast? with
  | some k => if crs k g = 0 then out.dropLast ++ [padd k g] else out ++ [g]
  | none => out ++ [g]
def mergeL (S : List Pt) : List Pt := S.foldl mst []
theorem mst_nil (g : Pt) : mst [] g = [g] := rfl
theorem mst_snoc (o : List Pt) (k g : Pt) : mst (o ++ [k]) g = if crs k g = 0 then o ++ [padd k g] else o ++ [k] ++ [g] := by
  unfold mst
  rw [List.getLast?_append]
  simp
theorem merge_can (S : List Pt) (hs : S.Pairwise fun a b => 0 ≤ crs a b) (hu : ∀ e ∈ S, up e) : Can (mergeL S) S := by
  have gen : ∀ (T P out : List Pt), Can out P → (P = [] ↔ out = []) → (∀ k, out.getLast? = some k → ∀ t ∈ T, 0 ≤ crs k t) → T.Pairwise (fun a b => 0 ≤ crs a b) → (∀ e ∈ T, up e) → Can (T.foldl mst out) (P ++ T) := by
    intro T
    induction T with
    | nil => intro P out h _ _ _ _; simpa using h
    | cons g T ih =>
      intro P out h hn hl ht hu
      rw [List.pairwise_cons] at ht
      have hg := hu g (by simp)
      rw [List.foldl_cons]
      have e : P ++ g :: T = (P ++ [g]) ++ T := by simp
      rw [e]
      have hsum : ∀ (k : Pt), dsum (P ++ [g]) k = if crs g k = 0 then padd (dsum P k) g else dsum P k := fun k => by
        rw [dsum_append]
        simp only [dsum]
        split
        · rw [padd_zero]
        · rw [padd_zero]
      rcases List.eq_nil_or_concat out with rfl | ⟨o, k, rfl⟩
      · rw [mst_nil]
        have hP : P = [] := hn.2 rfl
        subst hP
        refine ih [g] [g] ⟨by simp, by simpa using hg, fun _ _ => rfl⟩ (by simp) (fun k hk t htm => ?_) ht.2 (fun x hx => hu x (by simp [hx]))
        simp at hk; subst hk
        exact ht.1 t htm
      · rw [List.concat_eq_append] at *
        have hk := h.ups k (by simp)
        have hkg := hl k (by simp) g (by simp)
        have hso := h.sorted
        rw [List.pairwise_append] at hso
        have hok : ∀ a ∈ o, 0 < crs a k := fun a ha => hso.2.2 a ha k (by simp)
        rw [mst_snoc]
        by_cases hc : crs k g = 0
        · rw [if_pos hc]
          have hkgk : crs k (padd k g) = 0 := by rw [crs_add_r, crs_self]; omega
          have hupkg := up_add hk hg
          refine ih (P ++ [g]) (o ++ [padd k g]) ⟨?_, fun x hx => ?_, fun z hz => ?_⟩ (by simp) (fun q hq t htm => ?_) ht.2 (fun x hx => hu x (by simp [hx]))
          · rw [List.pairwise_append]
            exact ⟨hso.1, by simp, fun a ha b hb => by
              simp at hb; subst hb
              exact crs_par_r (h.ups a (by simp [ha])) hk hupkg (hok a ha) hkgk⟩
          · rcases List.mem_append.1 hx with hx | hx
            · exact h.ups x (by simp [hx])
            · simp at hx; subst hx; exact hupkg
          · rw [hsum, ← h.sums z hz, dsum_append, dsum_append]
            simp only [dsum]
            have e1 : crs k z = 0 ↔ crs g z = 0 := ⟨fun h3 => par_trans hg hk hz (by rw [crs_anti]; omega) h3, fun h3 => par_trans hk hg hz hc h3⟩
            by_cases hcz : crs g z = 0
            · rw [if_pos (by rw [crs_add_l]; have := e1.2 hcz; omega), if_pos (e1.2 hcz), if_pos hcz]
              simp only [padd, Prod.mk.injEq]; omega
            · have hcz' : crs k z ≠ 0 := fun h3 => hcz (e1.1 h3)
              have hne : crs (padd k g) z ≠ 0 := fun h3 => hcz' (par_trans hk hupkg hz hkgk h3)
              rw [if_neg hne, if_neg hcz', if_neg hcz]
          · simp at hq; subst hq
            rw [crs_add_l]
            have h5 := hl k (by simp) t (by simp [htm])
            have h6 := ht.1 t htm
            omega
        · rw [if_neg hc]
          refine ih (P ++ [g]) (o ++ [k] ++ [g]) ⟨?_, fun x hx => ?_, fun z hz => ?_⟩ (by simp) (fun q hq t htm => ?_) ht.2 (fun x hx => hu x (by simp [hx]))
          · rw [List.pairwise_append]
            exact ⟨h.sorted, by simp, fun a ha b hb => by
              simp at hb; subst hb
              rcases List.mem_append.1 ha with ha | ha
              · exact crs_trans (h.ups a (by simp [ha])) hk hg (hok a ha) (by omega)
              · simp at ha; subst ha; omega⟩
          · rcases List.mem_append.1 hx with hx | hx
            · exact h.ups x hx
            · simp at hx; subst hx; exact hg
          · rw [hsum, ← h.sums z hz, dsum_append]
            simp only [dsum]
            split
            · rw [padd_zero]
            · rw [padd_zero]
          · simp at hq; subst hq
            exact ht.1 t htm
  have := gen S [] [] .nil (by simp) (by simp) hs hu
  simpa [mergeL] using this
/-- Sorting and merging, in whatever order equals come, is putting one behind the other. -/
theorem merge_eq {l S : List Pt} (hp : S.Perm (dirs l)) (hs : S.Pairwise fun a b => 0 ≤ crs a b) : mergeL S = canonL l :=
  ((merge_can S hs fun e he => dirs_up e (hp.mem_iff.1 he)).perm hp).eq (canonL_can l)
open Go.RowKit Go.Sort
/-- cmp.Compare -/
def cmpI (x y : Int) : Int := if x < y then -1 else if y < x then 1 else 0
/-- Coordinates of at most M. -/
def Bd (M : Int) (p : Pt) : Prop := -M ≤ p.1 ∧ p.1 ≤ M ∧ -M ≤ p.2 ∧ p.2 ≤ M
theorem mul_bd {a b A B : Int} (h1 : -A ≤ a ∧ a ≤ A) (h2 : -B ≤ b ∧ b ≤ B) : -(A * B) ≤ a * b ∧ a * b ≤ A * B := by
  have e1 := Int.mul_nonneg (a := A - a) (b := B + b) (by omega) (by omega)
  have e2 := Int.mul_nonneg (a := A + a) (b := B - b) (by omega) (by omega)
  have e3 := Int.mul_nonneg (a := A - a) (b := B - b) (by omega) (by omega)
  have e4 := Int.mul_nonneg (a := A + a) (b := B + b) (by omega) (by omega)
  simp only [Int.sub_mul, Int.add_mul, Int.mul_sub, Int.mul_add] at e1 e2 e3 e4
  omega
theorem crs_bd {a b : Pt} {A B : Int} (h1 : Bd A a) (h2 : Bd B b) : (-(A * B) ≤ a.1 * b.2 ∧ a.1 * b.2 ≤ A * B) ∧ (-(A * B) ≤ a.2 * b.1 ∧ a.2 * b.1 ≤ A * B) :=
  ⟨mul_bd ⟨h1.1, h1.2.1⟩ ⟨h2.2.2.1, h2.2.2.2⟩, mul_bd ⟨h1.2.2.1, h1.2.2.2⟩ ⟨h2.1, h2.2.1⟩⟩
theorem isNaN_h (x : Int) (W : World) : Calls Tryz.prog 326 #[.int .i64 x] W fun e w' => e = .returned (.bool false) ∧ w' = W := by
  go_enter Tryz.func326, Tryz.ntmps326
  go_wp2
  go_ret
  exact ⟨by simp, rfl⟩
theorem compare_h (x y : Int) (W : World) : Calls Tryz.prog 256 #[.int .i64 x, .int .i64 y] W fun e w' => e = .returned (.int .i64 (cmpI x y)) ∧ w' = W := by
  have hcon := isNaN_h
  go_enter Tryz.func256, Tryz.ntmps256
  go_wp2_with (go_at_call 326; refine (hcon _ _).mono ?_; rintro e w' ⟨rfl, rfl⟩)
  · go_ret
    exact ⟨ret_int (by unfold cmpI; rw [if_pos (by assumption)]), rfl⟩
  · go_ret
    exact ⟨ret_int (by unfold cmpI; rw [if_neg (by omega), if_pos (by assumption)]), rfl⟩
  · go_ret
    exact ⟨ret_int (by unfold cmpI; rw [if_neg (by omega), if_neg (by omega)]), rfl⟩
set_option maxHeartbeats 1000000 in
theorem cross_h (x y : Pt) (hx : Bd 268435456 x) (hy : Bd 268435456 y) (W : World) : Calls Tryz.prog 388 #[.agg #[.int .i64 x.1, .int .i64 x.2], .agg #[.int .i64 y.1, .int .i64 y.2]] W fun e w' => e = .returned (.int .i64 (crs x y)) ∧ ∃ os', w' = grow W os' := by
  have hb := crs_bd hx hy
  go_enter Tryz.func388, Tryz.ntmps388
  go_wp2
  go_ret
  exact ⟨rfl, _, by rw [alloc_eq_grow, alloc_eq_grow, grow_grow]⟩
set_option maxHeartbeats 1000000 in
theorem canoncmp_h (x y : Pt) (hx : Bd 268435456 x) (hy : Bd 268435456 y) (W : World) : Calls Tryz.prog 387 #[.agg #[.int .i64 x.1, .int .i64 x.2], .agg #[.int .i64 y.1, .int .i64 y.2]] W fun e w' => e = .returned (.int .i64 (-(cmpI (crs x y) 0))) ∧ ∃ q os', w' = grow (W.drewN q) os' := by
  have hcon := fun W => cross_h x y hx hy W
  have hcon2 := fun W => compare_h (crs x y) 0 W
  have hbb : -1 ≤ cmpI (crs x y) 0 ∧ cmpI (crs x y) 0 ≤ 1 := by unfold cmpI; repeat' split <;> omega
  generalize cmpI (crs x y) 0 = r at *
  generalize crs x y = q at *
  go_enter Tryz.func387, Tryz.ntmps387
  go_wp2_with (first | (go_at_call 388; refine (hcon _).mono ?_; rintro e w' ⟨rfl, os', rfl⟩) | (go_at_call 256; refine (hcon2 _).mono ?_; rintro e w' ⟨rfl, rfl⟩))
  go_ret
  exact ⟨rfl, 0, _, by rw [alloc_eq_grow, alloc_eq_grow, grow_grow, grow_grow]; rfl⟩
/-- Generators in the upper half plane, of bounded coordinates. -/
structure Up where
  p : Pt
  up : up p
  bd : Bd 268435456 p
instance : Inhabited Up := ⟨⟨(1, 0), .inr ⟨rfl, by decide⟩, by unfold Bd; simp⟩⟩
theorem ups_of : ∀ l : List Pt, (∀ e ∈ l, up e ∧ Bd 268435456 e) → ∃ zs : List Up, zs.map Up.p = l
  | [], _ => ⟨[], rfl⟩
  | e :: l, h => by
    obtain ⟨zs, hz⟩ := ups_of l fun x hx => h x (by simp [hx])
    exact ⟨⟨e, (h e (by simp)).1, (h e (by simp)).2⟩ :: zs, by simp [hz]⟩
def cfU (x y : Up) : Int := -(cmpI (crs x.p y.p) 0)
theorem ltU (x y : Up) : ltOf cfU x y = decide (0 < crs x.p y.p) := by
  unfold ltOf cfU cmpI
  rw [Bool.eq_iff_iff, decide_eq_true_eq, decide_eq_true_eq]
  repeat' split <;> omega
theorem swoU : SWO (ltOf cfU) where
  irrefl x := by rw [ltU, crs_self]; rfl
  trans x y z h1 h2 := by
    rw [ltU, decide_eq_true_eq] at *
    exact crs_trans x.up y.up z.up h1 h2
  ntrans x y z h1 h2 := by
    rw [ltU, decide_eq_false_iff_not] at *
    have e1 := crs_anti x.p y.p
    have e2 := crs_anti y.p z.p
    have e3 := crs_anti x.p z.p
    have := crs_ntrans z.up y.up x.up (by omega) (by omega)
    omega
set_option maxRecDepth 100000 in
/-- The generators sorted by their directions. -/
theorem sortz_a {H : AHeap} {b n : Nat} {cap : Option Nat} {l : List Pt} (hg : H[b]? = some (.cells true 2 (prs l))) (hu : ∀ e ∈ l, up e ∧ Bd 268435456 e) (hn : n = l.length) (h0 : 0 < n) (h1 : n ≤ 1000000) :
    ACalls Tryz.prog 386 [.sl (some (b, 0)) n cap, .fn 387 []] H
      (fun v H' => v = .tup [] ∧ ∃ S : List Pt, S.Perm l ∧ S.Pairwise (fun x y => 0 ≤ crs x y) ∧ H' = H.set b (.cells true 2 (prs S))) := by
  have eg : ∀ args w, (callFunc 387 args).run Tryz.prog w = .ok (.enter 387 args) w := enters_of Tryz.func387 (by kernel_rfl) rfl
  obtain ⟨zs, rfl⟩ := ups_of l hu
  refine (sortf_a (α := Up) Up.p cfU swoU 387 eg (fun x y W => canoncmp_h x.p y.p x.bd y.bd W) (zs := zs) hg (by simpa using hn) h0 h1).mono ?_
  rintro v H' ⟨rfl, ys, hp, hs, rfl⟩
  refine ⟨rfl, ys.map Up.p, hp.map Up.p, ?_, rfl⟩
  rw [List.pairwise_map]
  refine hs.imp fun {x y} h => ?_
  rw [ltU] at h
  simp only [decide_eq_false_iff_not] at h
  rw [crs_anti] at h
  omega
open Go.RowKit

/-- The order of two operations matters. -/
def depI (q z : Bool) (ops : Array Oper) (i j : Nat) : Bool :=
  match ops[i]?, ops[j]? with
  | some a, some b =>
    let free := fun (i : Nat) (a b : Oper) => (match a.dst with | some t => b.dst != some t && !(b.looksAt ops).contains t | none => true) && (!kChg q a.op || kPure b.op || (!z && (kExt ops i a.op && kRead b.op)))
    !(free i a b && free j b a)
  | _, _ => false
/-- The operations in another order, with the edges that it needs. -/
def opsT (q z : Bool) (ops : Array Oper) (τ : List Nat) : Array Oper :=
  (τ.zipIdx.map fun p => { (ops[p.1]?.getD default) with after := (((List.range p.2).filter fun k => depI q z ops ((τ[k]?).getD 0) p.1).map fun k => (⟨k, .data⟩ : Edge)).toArray, guard := none }).toArray
/-- The operations that are run, in that order. -/
def pickL (l : List Oper) (τ : List Nat) : List LOp := τ.map fun i => ((l[i]?).map fun o => (⟨o.dst, o.op, none⟩ : LOp)).getD ⟨none, .move (.tmp 0), none⟩
def ordB (mk : List Nat) (i j : Nat) : Bool := (mk.getD j 0).testBit i
/-- The pairs whose order matters and that no edge orders. -/
def loose (q z : Bool) (ops : Array Oper) (mk : List Nat) : List (Nat × Nat) :=
  (List.range ops.size).flatMap fun j => ((List.range j).filter fun i => depI q z ops i j && !ordB mk i j && !ordB mk j i).map fun i => (i, j)
def orient : List (Nat × Nat) → List Bool → List (Nat × Nat)
  | p :: ps, b :: bs => (bif b then p else (p.2, p.1)) :: orient ps bs
  | _, _ => []
def allV : Nat → List (List Bool)
  | 0 => [[]]
  | n + 1 => (allV n).flatMap fun v => [true :: v, false :: v]
def linkB (mk : List Nat) (x y : Nat) : Bool := x == y || ordB mk x y
def refuted (mk : List Nat) (O : List (Nat × Nat)) : Bool :=
  (O.any fun a => O.any fun b => linkB mk a.2 b.1 && linkB mk b.2 a.1) || O.any fun a => O.any fun b => O.any fun c => linkB mk a.2 b.1 && linkB mk b.2 c.1 && linkB mk c.2 a.1
def okRep (q z : Bool) (ops : Array Oper) (mk : List Nat) (O : List (Nat × Nat)) (τ : List Nat) : Bool :=
  (List.range τ.length).all fun k => (List.range k).all fun k' => let i := (τ[k']?).getD 0; let j := (τ[k]?).getD 0; !depI q z ops i j || ordB mk i j || O.contains (i, j)
def coverB (q z : Bool) (ops : Array Oper) (reps : List (List Nat)) : Bool :=
  let mk := masks ops
  let U := loose q z ops mk
  (allV U.length).all fun v => let O := orient U v; refuted mk O || reps.any fun τ => okRep q z ops mk O τ
def permB (n : Nat) (τ : List Nat) : Bool := τ.length == n && ((List.range n).all fun i => τ.contains i) && (τ.all fun i => Nat.blt i n) && (List.range n).all fun k => τ.idxOf ((τ[k]?).getD 0) == k
def strictB (q : Bool) (ops : Array Oper) : Bool :=
  let m := masks ops; ops.toList.zipIdx.all fun p => ops.toList.zipIdx.all fun r => p.2 == r.2 || ((m.getD r.2 0).testBit p.2 || (m.getD p.2 0).testBit r.2 || !kChg q p.1.op || kPure r.1.op)
theorem strictB_spec {q : Bool} {ops : Array Oper} (h : strictB q ops = true) : Strict q ops := fun i j a b ha hb hij hc hp => by
  have zi : ∀ i o, ops[i]? = some o → (o, i) ∈ ops.toList.zipIdx := fun i o ho => List.mem_iff_getElem?.2 ⟨i, by simp [List.getElem?_zipIdx, ho]⟩
  have := List.all_eq_true.1 (List.all_eq_true.1 h _ (zi i a ha)) _ (zi j b hb)
  simp only [Bool.or_eq_true, beq_iff_eq] at this
  rcases this with h | ((h | h) | h) | h
  · exact absurd h hij
  · exact .inl (masks_spec h)
  · exact .inr (masks_spec h)
  · rw [hc] at h; cases h
  · rw [hp] at h; cases h
/-- All that is asked of a region and of the orders that stand for all. -/
def repsOk (q z : Bool) (N : Nat) (ops : Array Oper) (reps : List (List Nat)) : Bool :=
  (ops.toList.all fun o => o.guard.isNone) && (ops.toList.zipIdx.all fun p => p.1.after.all fun e => !Region.binds .any e || decide (e.on < p.2)) &&
  (reps.all fun τ => permB ops.size τ && drawOk q N (opsT q z ops τ) && (!z || strictB q (opsT q z ops τ))) && coverB q z ops reps
section
variable {P : Program} {N n m : Nat} {Q : Exit → Fr → AHeap → Prop} {q z : Bool} {ops : Array Oper}
theorem idx_ne {a b : Nat} {l : List Nat} (h : a ≠ b) : (a :: l).idxOf b = l.idxOf b + 1 := by
  rw [List.idxOf_cons]
  have : (a == b) = false := by simp [h]
  rw [this]; rfl
inductive ValidL (ops : Array Oper) : Array Bool → List Nat → Prop where
  | nil {listed : Array Bool} : Region.ready .any ops listed = [] → ValidL ops listed []
  | cons {listed : Array Bool} {i : Nat} {π : List Nat} : i ∈ Region.ready .any ops listed → ValidL ops (listed.setIfInBounds i true) π → ValidL ops listed (i :: π)
theorem go_valid : ∀ (fuel t : Nat) (listed : Array Bool), listed.size = ops.size → unl listed.toList ≤ fuel → ValidL ops listed (Region.linearise.go .any ops fuel t listed [])
  | 0, t, listed, hs, hu => by
    refine .nil ?_
    apply List.eq_nil_iff_forall_not_mem.2
    intro j hj
    obtain ⟨h0, o, ho, -⟩ := mem_ready.1 hj
    have hj' := (Array.getElem?_eq_some_iff.1 ho).1
    have hi' : j < listed.toList.length := by simp; omega
    have := List.countP_eq_zero.1 (Nat.le_zero.1 hu) listed.toList[j] (List.getElem_mem hi')
    simp at this
    simp [hs, hj', this] at h0
  | fuel + 1, t, listed, hs, hu => by
    simp only [Region.linearise.go]
    change ValidL ops listed (match (Region.ready .any ops listed)[t % (Region.ready .any ops listed).length]? with
      | some i => Region.linearise.go .any ops fuel (t / (Region.ready .any ops listed).length) (listed.setIfInBounds i true) [i]
      | none => [].reverse)
    cases hi : (Region.ready .any ops listed)[t % (Region.ready .any ops listed).length]? with
    | none =>
      refine .nil ?_
      cases hr : Region.ready .any ops listed with
      | nil => rfl
      | cons x xs =>
        rw [hr] at hi
        have hlt : t % (x :: xs).length < (x :: xs).length := Nat.mod_lt _ (by simp)
        simp at hi
        simp at hlt
        omega
    | some i =>
      simp only []
      rw [linearise_go_acc, List.reverse_singleton, List.singleton_append]
      have hmem := List.mem_of_getElem? hi
      refine .cons hmem (go_valid fuel _ _ (by simp [hs]) ?_)
      obtain ⟨h0, o, ho, -⟩ := mem_ready.1 hmem
      have hj' := (Array.getElem?_eq_some_iff.1 ho).1
      have := unl_set (l := listed.toList) (k := i) (by simp; omega) (by
        rw [Array.getElem?_toList]
        simp [hs, hj'] at h0
        rw [Array.getElem?_eq_getElem (by omega), h0])
      rw [Array.toList_setIfInBounds]
      omega
theorem any_valid {Q : Exit → Act → World → Prop} : ∀ (π : List Nat) (fuel : Nat) (listed : Array Bool) (a : Act) (w : World), π.length ≤ fuel → wpAny P .any ops Q fuel listed a w → ValidL ops listed π → wpOps P ops Q π a w
  | [], 0, _, _, _, _, h, _ => h.2
  | [], _ + 1, _, _, _, _, h, hv => by cases hv with | nil hr => exact h.1 hr
  | i :: π, 0, _, _, _, hl, _, _ => by simp at hl
  | i :: π, fuel + 1, listed, a, w, hl, h, hv => by
    cases hv with
    | cons hi hv =>
      rw [wpOps_cons]
      exact wpOp_mono (fun a w hh => any_valid π fuel _ a w (by simp at hl; omega) hh hv) (h.2 i hi)
/-- What is known of a full order. -/
theorem valid_all (hback : ∀ (i : Nat) (o : Oper) (e : Edge), ops[i]? = some o → e ∈ o.after → Region.binds .any e = true → e.on < i) : ∀ (π : List Nat) (listed : Array Bool), listed.size = ops.size → ValidL ops listed π →
    (∀ i, i < ops.size → listed.getD i false = false → i ∈ π) ∧ (∀ i ∈ π, i < ops.size ∧ listed.getD i false = false) ∧ π.Nodup ∧ ∀ (j : Nat) (o : Oper) (e : Edge), j ∈ π → ops[j]? = some o → e ∈ o.after → Region.binds .any e = true → listed.getD e.on false = true ∨ π.idxOf e.on < π.idxOf j
  | [], listed, hs, hv => by
    cases hv with
    | nil hr =>
      refine ⟨fun i hi hli => ?_, fun i h => by simp at h, List.nodup_nil, fun j o e h => by simp at h⟩
      exfalso
      have hall : ∀ i, i < ops.size → listed.getD i false = true := by
        intro i
        induction i using Nat.strongRecOn with
        | _ i ihi =>
          intro hi
          cases hli : listed.getD i false with
          | true => rfl
          | false =>
            exfalso
            have ho : ops[i]? = some ops[i] := Array.getElem?_eq_getElem hi
            have : i ∈ Region.ready .any ops listed := mem_ready.2 ⟨by simp [hs, hi] at hli ⊢; exact hli, _, ho, fun e he hb => by
              have hlt := hback i _ e ho he hb
              exact ihi e.on hlt (by omega)⟩
            rw [hr] at this; cases this
      rw [hall i hi] at hli; cases hli
  | i :: π, listed, hs, hv => by
    cases hv with
    | cons hi hv =>
      obtain ⟨h1, h2, h3, h4⟩ := valid_all hback π _ (by simp [hs]) hv
      obtain ⟨h0, o, ho, hed⟩ := mem_ready.1 hi
      have hin := (Array.getElem?_eq_some_iff.1 ho).1
      have hli : listed.getD i false = false := by simp [hs, hin] at h0 ⊢; exact h0
      have hget : ∀ j, (listed.setIfInBounds i true).getD j false = if j = i then true else listed.getD j false := fun j => by
        by_cases e : j = i
        · subst e; simp [hs, hin]
        · rw [if_neg e, getD_set_ne false (fun e' => e e'.symm)]
      have hni : i ∉ π := fun hm => by
        have := (h2 i hm).2
        rw [hget, if_pos rfl] at this; cases this
      refine ⟨fun j hj hjl => ?_, fun j hj => ?_, List.nodup_cons.2 ⟨hni, h3⟩, fun j o' e hj ho' he hb => ?_⟩
      · by_cases e : j = i
        · simp [e]
        · exact List.mem_cons_of_mem _ (h1 j hj (by rw [hget, if_neg e]; exact hjl))
      · rcases List.mem_cons.1 hj with rfl | hj
        · exact ⟨hin, hli⟩
        · have := h2 j hj
          rw [hget] at this
          by_cases e : j = i
          · rw [if_pos e] at this; cases this.2
          · rw [if_neg e] at this; exact this
      · by_cases eji : j = i
        · subst eji
          rw [ho] at ho'; simp at ho'; subst ho'
          exact .inl (hed e he hb)
        · have hj' : j ∈ π := (List.mem_cons.1 hj).resolve_left eji
          have hidx : (i :: π).idxOf j = π.idxOf j + 1 := by rw [idx_ne (fun e => eji e.symm)]
          rcases h4 j o' e hj' ho' he hb with h5 | h5
          · rw [hget] at h5
            by_cases e2 : e.on = i
            · right; rw [e2, List.idxOf_cons_self, hidx]; omega
            · rw [if_neg e2] at h5; exact .inl h5
          · by_cases e2 : e.on = i
            · right; rw [e2, List.idxOf_cons_self, hidx]; omega
            · right; rw [idx_ne (fun e' => e2 e'.symm), hidx]; omega
theorem mem_allV : ∀ (v : List Bool), v ∈ allV v.length
  | [] => by simp [allV]
  | b :: v => by
    simp only [List.length_cons, allV, List.mem_flatMap]
    refine ⟨v, mem_allV v, ?_⟩
    cases b <;> simp
theorem orient_lt {rk : Nat → Nat} : ∀ (U : List (Nat × Nat)), (∀ p ∈ U, rk p.1 ≠ rk p.2) → ∀ p ∈ orient U (U.map fun p => decide (rk p.1 < rk p.2)), rk p.1 < rk p.2
  | [], _, p, h => by simp [orient] at h
  | u :: U, hU, p, h => by
    simp only [List.map_cons, orient, List.mem_cons] at h
    rcases h with rfl | h
    · by_cases hd : rk u.1 < rk u.2
      · rw [decide_eq_true hd, cond_true]; exact hd
      · rw [decide_eq_false hd, cond_false]
        have := hU u (by simp)
        show rk u.2 < rk u.1
        omega
    · exact orient_lt U (fun p hp => hU p (by simp [hp])) p h
theorem cover_rep {reps : List (List Nat)} {rk : Nat → Nat} (hc : coverB q z ops reps = true) (hord : ∀ i j, ordB (masks ops) i j = true → rk i < rk j) (hU : ∀ p ∈ loose q z ops (masks ops), rk p.1 ≠ rk p.2) :
    ∃ τ ∈ reps, ∀ k k' : Nat, k < τ.length → k' < k → depI q z ops ((τ[k']?).getD 0) ((τ[k]?).getD 0) = true → rk ((τ[k']?).getD 0) < rk ((τ[k]?).getD 0) := by
  have hlt := orient_lt (rk := rk) _ hU
  have hv := List.all_eq_true.1 hc ((loose q z ops (masks ops)).map fun p => decide (rk p.1 < rk p.2)) (by
    have := mem_allV ((loose q z ops (masks ops)).map fun p => decide (rk p.1 < rk p.2))
    simpa using this)
  simp only [Bool.or_eq_true] at hv
  have hlink : ∀ x y, linkB (masks ops) x y = true → rk x ≤ rk y := fun x y h => by
    unfold linkB at h
    simp only [Bool.or_eq_true, beq_iff_eq] at h
    rcases h with rfl | h
    · exact Nat.le_refl _
    · exact Nat.le_of_lt (hord _ _ h)
  rcases hv with hv | hv
  · exfalso
    unfold refuted at hv
    simp only [Bool.or_eq_true, List.any_eq_true, Bool.and_eq_true] at hv
    rcases hv with ⟨a, ha, b, hb, h1, h2⟩ | ⟨a, ha, b, hb, c, hc', ⟨h1, h2⟩, h3⟩
    · have := hlt a ha; have := hlt b hb; have := hlink _ _ h1; have := hlink _ _ h2; omega
    · have := hlt a ha; have := hlt b hb; have := hlt c hc'; have := hlink _ _ h1; have := hlink _ _ h2; have := hlink _ _ h3; omega
  · obtain ⟨τ, hτ, hk⟩ := List.any_eq_true.1 hv
    refine ⟨τ, hτ, fun k k' h1 h2 hd => ?_⟩
    have := List.all_eq_true.1 (List.all_eq_true.1 hk k (List.mem_range.2 h1)) k' (List.mem_range.2 h2)
    simp only [hd, Bool.not_true, Bool.false_or, Bool.or_eq_true] at this
    rcases this with h | h
    · exact hord _ _ h
    · exact hlt _ (by simpa using h)
theorem opsT_get {τ : List Nat} {k i : Nat} (hk : τ[k]? = some i) : (opsT q z ops τ)[k]? = some { (ops[i]?.getD default) with after := (((List.range k).filter fun k' => depI q z ops ((τ[k']?).getD 0) i).map fun k' => (⟨k', .data⟩ : Edge)).toArray, guard := none } := by
  unfold opsT
  simp [List.getElem?_zipIdx, hk]
theorem opsT_size {τ : List Nat} : (opsT q z ops τ).size = τ.length := by simp [opsT]
theorem idx_lt_mem {A B : List Nat} {i : Nat} (h : (A ++ B).idxOf i < A.length) : i ∈ A := by
  by_cases hi : i ∈ A
  · exact hi
  · rw [List.idxOf_append, if_neg hi] at h; omega
theorem validT {τ π0 : List Nat} (hlen : τ.length = ops.size) (hmem : ∀ i, i < ops.size → i ∈ τ) (hpos : ∀ k, k < ops.size → τ.idxOf ((τ[k]?).getD 0) = k) (hin : ∀ i ∈ τ, i < ops.size)
    (hnd : π0.Nodup) (hall : ∀ i, i < ops.size → i ∈ π0) (hπ : ∀ i ∈ π0, i < ops.size)
    (hag : ∀ k k' : Nat, k < τ.length → k' < k → depI q z ops ((τ[k']?).getD 0) ((τ[k]?).getD 0) = true → π0.idxOf ((τ[k']?).getD 0) < π0.idxOf ((τ[k]?).getD 0)) :
    ∀ (π A : List Nat) (L : Array Bool), π0 = A ++ π → L.size = ops.size → (∀ k, k < ops.size → L.getD k false = decide ((τ[k]?).getD 0 ∈ A)) → ValidL (opsT q z ops τ) L (π.map fun i => τ.idxOf i)
  | [], A, L, e, hs, hL => by
    refine .nil ?_
    apply List.eq_nil_iff_forall_not_mem.2
    intro k hk
    obtain ⟨h0, o, ho, -⟩ := mem_ready.1 hk
    have hk' := (Array.getElem?_eq_some_iff.1 ho).1
    rw [opsT_size, hlen] at hk'
    have h1 := hL k hk'
    have hτ : τ[k]? = some τ[k] := List.getElem?_eq_getElem (by omega)
    rw [hτ] at h1
    have : τ[k] ∈ A := by
      rw [List.append_nil] at e
      rw [← e]; exact hall _ (hin _ (List.getElem_mem _))
    simp [this] at h1
    simp [hs, hk'] at h0 h1
    rw [h1] at h0; cases h0
  | j :: π, A, L, e, hs, hL => by
    have hj : j < ops.size := hπ j (by rw [e]; simp)
    have hjm := hmem j hj
    have hkl : τ.idxOf j < τ.length := List.idxOf_lt_length_of_mem hjm
    have hτk : τ[τ.idxOf j]? = some j := by rw [List.getElem?_eq_getElem hkl, List.getElem_idxOf]
    have hjA : j ∉ A := fun h => by
      rw [e] at hnd
      exact (List.nodup_append.1 hnd).2.2 j h j (by simp) rfl
    have hget := opsT_get (q := q) (z := z) (ops := ops) hτk
    refine .cons (mem_ready.2 ⟨?_, _, hget, fun ed he _ => ?_⟩) (validT hlen hmem hpos hin hnd hall hπ hag π (A ++ [j]) _ (by rw [e]; simp) (by simp [hs]) fun k hk => ?_)
    · have := hL (τ.idxOf j) (by omega)
      rw [hτk] at this
      simp [hjA] at this
      show L.getD (τ.idxOf j) true = false
      rw [Array.getD_eq_getD_getElem?]
      rw [Array.getElem?_eq_getElem (by omega)] at this ⊢
      simpa using this
    · simp only [List.mem_toArray, List.mem_map, List.mem_filter, List.mem_range] at he
      obtain ⟨k', ⟨hk1, hk2⟩, rfl⟩ := he
      have h1 := hag (τ.idxOf j) k' hkl hk1 (by rw [hτk]; exact hk2)
      rw [hτk] at h1
      simp only [Option.getD_some] at h1
      have hjx : π0.idxOf j = A.length := by
        rw [e, List.idxOf_append, if_neg hjA, List.idxOf_cons_self, Nat.zero_add]
      rw [hjx, e] at h1
      have := idx_lt_mem h1
      rw [hL k' (by omega)]
      simp [this]
    · by_cases ek : k = τ.idxOf j
      · subst ek
        rw [hτk]
        simp [hs, hj, hlen ▸ hkl]
      · rw [getD_set_ne false (fun e' => ek e'.symm), hL k hk]
        have hne : (τ[k]?).getD 0 ≠ j := fun h => ek (by have := hpos k hk; rw [h] at this; exact this.symm)
        simp [hne]
theorem wpOps_T {Q : Exit → Act → World → Prop} {τ : List Nat} (hmem : ∀ i, i < ops.size → i ∈ τ) (hg : ∀ (i : Nat) (o : Oper), ops[i]? = some o → o.guard = none) : ∀ (π : List Nat) (a : Act) (w : World), (∀ i ∈ π, i < ops.size) → wpOps P (opsT q z ops τ) Q (π.map fun i => τ.idxOf i) a w → wpOps P ops Q π a w
  | [], _, _, _, h => h
  | i :: π, a, w, hπ, h => by
    rw [List.map_cons, wpOps_cons] at h
    rw [wpOps_cons]
    have h1 := wpOp_mono (fun a w hh => wpOps_T hmem hg π a w (fun j hj => hπ j (by simp [hj])) hh) h
    have hi := hπ i (by simp)
    have him := hmem i hi
    have hτk : τ[τ.idxOf i]? = some i := by rw [List.getElem?_eq_getElem (List.idxOf_lt_length_of_mem him), List.getElem_idxOf]
    have ho : ops[i]? = some ops[i] := Array.getElem?_eq_getElem hi
    unfold wpOp at h1 ⊢
    rw [opsT_get hτk] at h1
    rw [ho] at h1 ⊢
    have hgi := hg i _ ho
    simp only [Region.wanted, hgi, if_true, Option.getD_some] at h1 ⊢
    exact h1
theorem pick_opsT {τ : List Nat} (hin : ∀ i ∈ τ, i < ops.size) : (opsT q z ops τ).toList.map (lightOf (dsts (opsT q z ops τ))) = pickL ops.toList τ := by
  refine List.ext_getElem? fun k => ?_
  unfold pickL
  rw [List.getElem?_map, List.getElem?_map, Array.getElem?_toList]
  cases hk : τ[k]? with
  | none =>
    have : (opsT q z ops τ)[k]? = none := Array.getElem?_eq_none (by rw [opsT_size]; exact List.getElem?_eq_none_iff.1 hk)
    rw [this]; rfl
  | some i =>
    rw [opsT_get hk]
    have hi := hin i (List.mem_of_getElem? hk)
    simp only [Option.map_some, lightOf, Option.map_none]
    rw [Array.getElem?_toList, Array.getElem?_eq_getElem hi]
    rfl
theorem nodup_len : ∀ (n : Nat) (l : List Nat), l.Nodup → (∀ i ∈ l, i < n) → l.length ≤ n
  | 0, l, _, h => by
    cases l with
    | nil => simp
    | cons x l => exact absurd (h x (by simp)) (Nat.not_lt_zero x)
  | n + 1, l, hd, h => by
    have h1 := nodup_len n (l.filter fun i => i != n) (hd.filter _) (fun i hi => by
      simp only [List.mem_filter, bne_iff_ne] at hi
      have := h i hi.1
      omega)
    have h2 := List.length_eq_countP_add_countP (fun i => i != n) (l := l)
    rw [← List.countP_eq_length_filter] at h1
    have h3 : List.countP (fun a => decide ¬(a != n) = true) l = l.count n := by
      unfold List.count
      congr 1
      funext a
      by_cases e : a = n <;> simp [e]
    have h4 := List.nodup_iff_count.1 hd n
    omega
/-- A region that draws by the orders that stand for all. -/
theorem AW_reps {id : Nat} {F : Fr} {H : AHeap} (hm : P.follows .mixedOrders = true) (reps : List (List Nat)) (hok : repsOk q z N ops reps = true) (hmz : m = H.length ∨ z = true)
    (hh : ∀ τ ∈ reps, AOpsDL P q m (pickL ops.toList τ) F H (fun F' H' => Q .normal F' H')) : AW P N n (.region id ops true) Q F H := by
  intro E w a h1 h2 h3 h4 h5
  unfold repsOk at hok
  simp only [Bool.and_eq_true] at hok
  obtain ⟨⟨⟨k1, k2⟩, k3⟩, k4⟩ := hok
  have zi : ∀ i o, ops[i]? = some o → (o, i) ∈ ops.toList.zipIdx := fun i o ho => List.mem_iff_getElem?.2 ⟨i, by simp [List.getElem?_zipIdx, ho]⟩
  have hg : ∀ (i : Nat) (o : Oper), ops[i]? = some o → o.guard = none := fun i o ho => by
    have := List.all_eq_true.1 k1 o (by simpa using Array.mem_of_getElem? ho)
    simpa using this
  have hback : ∀ (i : Nat) (o : Oper) (e : Edge), ops[i]? = some o → e ∈ o.after → Region.binds .any e = true → e.on < i := fun i o e ho he hb => by
    have := List.all_eq_true.1 k2 _ (zi i o ho)
    have := Array.all_eq_true_iff_forall_mem.1 this e he
    simpa [hb] using this
  refine wp_region_draw fun t => ?_
  simp only [Region.schedule, hm, Bool.true_or, if_true]
  have hv : ValidL ops (Array.replicate ops.size false) (Region.linearise .any ops t) := go_valid _ t _ (by simp) (by simp [unl, List.countP_replicate])
  generalize Region.linearise .any ops t = π at hv
  have hL : ∀ i, (Array.replicate ops.size false).getD i false = false := fun i => by
    rw [Array.getD_eq_getD_getElem?]
    cases hq : (Array.replicate ops.size false)[i]? with
    | none => rfl
    | some b => rw [Array.getElem?_replicate] at hq; split at hq <;> simp at hq; subst hq; rfl
  obtain ⟨v1, v2, v3, v4⟩ := valid_all hback π _ (by simp) hv
  have hall : ∀ i, i < ops.size → i ∈ π := fun i hi => v1 i hi (hL i)
  have hπ : ∀ i ∈ π, i < ops.size := fun i hi => (v2 i hi).1
  have hpred : ∀ i j, Pred ops i j → j < ops.size → π.idxOf i < π.idxOf j := fun i j hp => by
    induction hp with
    | edge ho he hb =>
      intro hj
      rcases v4 _ _ _ (hall _ hj) ho he hb with h | h
      · rw [hL] at h; cases h
      · exact h
    | step ho he hb _ ih =>
      intro hj
      rcases v4 _ _ _ (hall _ hj) ho he hb with h | h
      · rw [hL] at h; cases h
      · exact Nat.lt_trans (ih (by have := hback _ _ _ ho he hb; omega)) h
  have predlt : ∀ i j, Pred ops i j → j < ops.size := fun i j hp => by
    cases hp with
    | edge ho _ _ => exact (Array.getElem?_eq_some_iff.1 ho).1
    | step ho _ _ _ => exact (Array.getElem?_eq_some_iff.1 ho).1
  obtain ⟨τ, hτ, hag⟩ := cover_rep (rk := fun i => π.idxOf i) k4 (fun i j h => hpred i j (masks_spec h) (predlt i j (masks_spec h))) (fun p hp => by
    unfold loose at hp
    simp only [List.mem_flatMap, List.mem_range, List.mem_map, List.mem_filter] at hp
    obtain ⟨j, hj, i, ⟨hi, -⟩, rfl⟩ := hp
    intro e
    have h1 : π[π.idxOf i]? = some i := by rw [List.getElem?_eq_getElem (List.idxOf_lt_length_of_mem (hall i (by omega))), List.getElem_idxOf]
    have h2 : π[π.idxOf j]? = some j := by rw [List.getElem?_eq_getElem (List.idxOf_lt_length_of_mem (hall j hj)), List.getElem_idxOf]
    simp only at e
    rw [e, h2] at h1
    simp at h1; omega)
  have hr := List.all_eq_true.1 k3 τ hτ
  simp only [Bool.and_eq_true] at hr
  obtain ⟨⟨hp, hd⟩, hz⟩ := hr
  unfold permB at hp
  simp only [Bool.and_eq_true, beq_iff_eq] at hp
  obtain ⟨⟨⟨p1, p2⟩, p3⟩, p4⟩ := hp
  have hmem : ∀ i, i < ops.size → i ∈ τ := fun i hi => by
    have := List.all_eq_true.1 p2 i (List.mem_range.2 hi)
    simpa using this
  have hin : ∀ i ∈ τ, i < ops.size := fun i hi => Nat.le_of_ble_eq_true (List.all_eq_true.1 p3 i hi)
  have hpos : ∀ k, k < ops.size → τ.idxOf ((τ[k]?).getD 0) = k := fun k hk => by
    have := List.all_eq_true.1 p4 k (List.mem_range.2 hk)
    simpa using this
  refine wpOps_T (q := q) (z := z) hmem hg π a _ hπ ?_
  have hvT := validT (q := q) (z := z) p1 hmem hpos hin v3 hall hπ hag π [] (Array.replicate (opsT q z ops τ).size false) (by simp) (by simp [opsT_size, p1]) (fun k hk => by
    rw [Array.getD_eq_getD_getElem?]
    cases hq : (Array.replicate (opsT q z ops τ).size false)[k]? with
    | none => simp
    | some b => rw [Array.getElem?_replicate] at hq; split at hq <;> simp at hq; subst hq; simp)
  have hany := draw_any (P := P) (N := N) (n := n) (Q := Q) q hd (hmz.imp (fun e => e) fun e => strictB_spec (by rw [e] at hz; simpa [e] using hz)) (AOpsD_of (opsT q z ops τ).toList F H (by rw [pick_opsT hin]; exact hh τ hτ)) h1 h2 h3 h4 h5
  refine any_valid _ _ _ _ _ ?_ hany hvT
  rw [List.length_map, opsT_size, p1]
  have := nodup_len ops.size π v3 hπ
  omega
theorem AW_abs {c : Code} {Q : Exit → Fr → AHeap → Prop} {σ : Nat → Nat} {F F2 : Fr} {H H2 : AHeap} (ab : Abs n σ F H F2 H2) (h : AW P N n c Q F2 H2) : AW P N n c Q F H := by
  intro E w a h1 h2 h3 h4 h5
  obtain ⟨E', hle, f, e⟩ := ab.emb h1 h4 h5
  exact wp_mono (h E' w a hle.n h2 h3 f e) fun e a w hh => LiftQ.shift hle hh
/-- A piece of code, what it leaves, and then the rest. -/
theorem AW_step {a b : Code} {F : Fr} {H : AHeap} (q : Bool) (hm : P.follows .mixedOrders = true) (hc : codeOk N q a = true) (J : Fr → AHeap → Prop) (h1 : AGo P N n q Q [.code a, .inv J] F H) (h2 : ∀ F H, J F H → AW P N n b Q F H) : AW P N n (.seq a b) Q F H := by
  refine AW_seq (AW.mono (AW_of hm a hc _ F H h1) fun e F H hq => ?_)
  cases e <;> first | exact h2 F H hq | exact hq
theorem AW_fin {a : Code} {F : Fr} {H : AHeap} (q : Bool) (hm : P.follows .mixedOrders = true) (hc : codeOk N q a = true) (h : AGo P N n q Q [.code a] F H) : AW P N n a Q F H := AW_of hm a hc _ F H h
/-- A region that draws, by its orders, what it leaves (seen in another way), and then the rest. -/
theorem AW_special {id : Nat} {b : Code} {F : Fr} {H : AHeap} (q : Bool) (hm : P.follows .mixedOrders = true) (reps : List (List Nat)) (hok : repsOk q false N ops reps = true) (I : Fr → AHeap → Prop)
    (h1 : ∀ τ ∈ reps, ∀ J : Fr → AHeap → Prop, (∀ F' H', (∃ σ F2 H2, I F2 H2 ∧ Abs n σ F' H' F2 H2) → J F' H') → AGo P N n q Q [.opsD H.length (pickL ops.toList τ), .inv J] F H) (h2 : ∀ F2 H2, I F2 H2 → AW P N n b Q F2 H2) : AW P N n (.seq (.region id ops true) b) Q F H := by
  refine AW_seq (AW.mono (AW_reps (Q := AThen (fun F' H' => ∃ σ F2 H2, I F2 H2 ∧ Abs n σ F' H' F2 H2) Q) hm reps hok (.inl rfl) fun τ hτ => ?_) fun e F H hq => ?_)
  · exact h1 τ hτ (fun F' H' => ∃ σ F2 H2, I F2 H2 ∧ Abs n σ F' H' F2 H2) (fun _ _ h => h)
  · cases e with
    | normal =>
      obtain ⟨σ, F2, H2, hi, ab⟩ := hq
      exact AW_abs ab (h2 F2 H2 hi)
    | _ => exact hq
theorem reps_cons {p : List Nat → Prop} {τ : List Nat} {l : List (List Nat)} (h : p τ) (h2 : ∀ τ ∈ l, p τ) : ∀ τ' ∈ τ :: l, p τ' := fun τ' h' => by
  rcases List.mem_cons.1 h' with rfl | h'
  · exact h
  · exact h2 _ h'
theorem reps_nil {p : List Nat → Prop} : ∀ τ' ∈ ([] : List (List Nat)), p τ' := fun τ' h => by simp at h
theorem inv_of {J : Fr → AHeap → Prop} {r : List It} {F : Fr} {H : AHeap} (h : J F H) : AGo P N n q Q (.inv J :: r) F H := h
/-- A function's call, piece by piece. -/
theorem ACalls_pieces {f : FuncId} {fn : Func} {args : List AV} {R : AV → AHeap → Prop} {H : AHeap} (hf : P.funcs[f]? = some fn) (N : Nat) (hN : fn.ntmps = N) (ha : args.length ≤ N) (hsome : fn.body.isSome = true)
    (h : HBel H.length H → ∀ Q, (∀ F H', AEnd P fn H.length R .ret F H' → ARet Q F H') → (∀ F H', AEnd P fn H.length R .normal F H' → Q .normal F H') → ∀ c, fn.body = some c → AW P N H.length c Q (argF 0 args) H) : ACalls P f args H R := by
  cases hb : fn.body with
  | none => rw [hb] at hsome; cases hsome
  | some c => exact ACalls_of hf hb hN ha fun hbel => h hbel (AEnd P fn H.length R) (fun _ _ k => k) (fun _ _ k => k) c hb
/-- A piece of code and the rest, for any aim that the rest serves. -/
theorem AW_seqQ {a b : Code} {F : Fr} {H : AHeap} (h : ∀ Q2 : Exit → Fr → AHeap → Prop, (∀ F H, AW P N n b Q F H → Q2 .normal F H) → (∀ F H, ARet Q F H → ARet Q2 F H) → (∀ id F H, Q (.exit id) F H → Q2 (.exit id) F H) → AW P N n a Q2 F H) : AW P N n (.seq a b) Q F H :=
  AW_seq (h (AThen (fun F H => AW P N n b Q F H) Q) (fun _ _ k => k) (fun _ _ k => k) (fun _ _ _ k => k))
theorem AW_blockQ {id : Nat} {c : Code} {F : Fr} {H : AHeap} (h : ∀ Q2 : Exit → Fr → AHeap → Prop, (∀ F H, Q .normal F H → Q2 .normal F H) → (∀ F H, ARet Q F H → ARet Q2 F H) → (∀ id', id' ≠ id → ∀ F H, Q (.exit id') F H → Q2 (.exit id') F H) → (∀ F H, Q .normal F H → Q2 (.exit id) F H) → AW P N n c Q2 F H) : AW P N n (.block id c) Q F H :=
  AW_block (h (AInBlock id Q) (fun _ _ k => k) (fun _ _ k => k) (fun id' hne F H k => by simp only [AInBlock]; rw [if_neg hne]; exact k) (fun F H k => by simp only [AInBlock, if_true]; exact k))
theorem AW_loopA {c : Code} {F : Fr} {H : AHeap} (I : Nat → Fr → AHeap → Prop) (k0 : Nat) (h0 : ∃ σ F2 H2, I k0 F2 H2 ∧ Abs n σ F H F2 H2)
    (round : ∀ k F H, I k F H → ∀ Q2 : Exit → Fr → AHeap → Prop, (∀ F' H', (∃ k', k' < k ∧ ∃ σ F2 H2, I k' F2 H2 ∧ Abs n σ F' H' F2 H2) → Q2 .normal F' H') → (∀ F H, ARet Q F H → ARet Q2 F H) → (∀ id F H, Q (.exit id) F H → Q2 (.exit id) F H) → AW P N n c Q2 F H) : AW P N n (.loop c) Q F H :=
  AW_loop I k0 h0 fun k F H hi => round k F H hi (AThen _ Q) (fun _ _ k => k) (fun F H k => k) (fun _ _ _ k => k)
/-- A function's call by its text (in short). -/
theorem AcT (q : Bool) {f : FuncId} {fn : Func} {args : List AV} {R : AV → AHeap → Prop} {H : AHeap} (hf : P.funcs[f]? = some fn) {c : Code} (h : HBel H.length H → ∀ Q : Exit → Fr → AHeap → Prop, (∀ F H', AEnd P fn H.length R .ret F H' → ARet Q F H') → AGo P fn.ntmps H.length q Q [.code c] (argF 0 args) H)
    (hb : fn.body = some c := by rfl) (hm : P.follows .mixedOrders = true := by exact try_mixed) (ha : args.length ≤ fn.ntmps := by exact Nat.le_of_ble_eq_true (by kernel_rfl)) (hc : codeOk fn.ntmps q c = true := by kernel_rfl) : ACalls P f args H R :=
  ACalls_run hm hf q _ rfl ha (by rw [hb]; exact congrArg some hc) fun hbel Q hQ _ c' hc' => by
    rw [hb] at hc'
    injection hc' with hc'
    subst hc'
    exact h hbel Q hQ
end
end Go.Proofs.YtcokgigjmjlmnaaGreat
