/- Facts on the types of the program, as the abstract machine asks for them. Conditions: none. -/
import Derived.Test.YtjfnbcifafmefaaAmS
namespace Go.Proofs.Ytjfnbcifafmefaa
open Go.RowKit
theorem try_mixed : Try.prog.follows .mixedOrders = true := by kernel_rfl
theorem tAgg2 : tAgg Try.prog 2 = some false := by kernel_rfl
theorem tSz2 : tSz Try.prog 2 = some 1 := by kernel_rfl
theorem tBytes2 : tBytes Try.prog 2 = some 8 := by kernel_rfl
theorem tZero2 : tZero Try.prog 2 = some [.int .i64 0] := by kernel_rfl
theorem tInt2 : tInt Try.prog 2 = some .i64 := by kernel_rfl
theorem tAgg3 : tAgg Try.prog 3 = some false := by kernel_rfl
theorem tSz3 : tSz Try.prog 3 = some 1 := by kernel_rfl
theorem tBytes3 : tBytes Try.prog 3 = some 8 := by kernel_rfl
theorem tZero3 : tZero Try.prog 3 = some [.int .i64 0] := by kernel_rfl
theorem tInt3 : tInt Try.prog 3 = some .i64 := by kernel_rfl
theorem tAgg4 : tAgg Try.prog 4 = some false := by kernel_rfl
theorem tSz4 : tSz Try.prog 4 = some 1 := by kernel_rfl
theorem tBytes4 : tBytes Try.prog 4 = some 1 := by kernel_rfl
theorem tZero4 : tZero Try.prog 4 = some [.bool false] := by kernel_rfl
theorem tIsBool4 : tIsBool Try.prog 4 = true := by kernel_rfl
theorem tAgg5 : tAgg Try.prog 5 = some false := by kernel_rfl
theorem tSz5 : tSz Try.prog 5 = some 1 := by kernel_rfl
theorem tBytes5 : tBytes Try.prog 5 = some 1 := by kernel_rfl
theorem tZero5 : tZero Try.prog 5 = some [.int .u8 0] := by kernel_rfl
theorem tInt5 : tInt Try.prog 5 = some .u8 := by kernel_rfl
theorem tAgg7 : tAgg Try.prog 7 = some true := by kernel_rfl
theorem tSz7 : tSz Try.prog 7 = some 4 := by kernel_rfl
theorem tBytes7 : tBytes Try.prog 7 = some 24 := by kernel_rfl
theorem tZero7 : tZero Try.prog 7 = some [.int .i64 0, .int .i64 0, .bool false, .int .u8 0] := by kernel_rfl
theorem tPlaces7 : tPlaces Try.prog 7 = some [(0, 1), (1, 1), (2, 1), (3, 1)] := by kernel_rfl
theorem tFld7_0 : tFld Try.prog 7 0 = some (0, 2) := by kernel_rfl
theorem tFld7_1 : tFld Try.prog 7 1 = some (1, 3) := by kernel_rfl
theorem tFld7_2 : tFld Try.prog 7 2 = some (2, 4) := by kernel_rfl
theorem tFld7_3 : tFld Try.prog 7 3 = some (3, 6) := by kernel_rfl
theorem tGuard7 : Try.prog.eqGuardType Try.prog.depth 7 = false := by kernel_rfl
theorem tAgg9 : tAgg Try.prog 9 = some false := by kernel_rfl
theorem tSz9 : tSz Try.prog 9 = some 1 := by kernel_rfl
theorem tBytes9 : tBytes Try.prog 9 = some 16 := by kernel_rfl
theorem tZero9 : tZero Try.prog 9 = some [.str []] := by kernel_rfl
theorem tAgg12 : tAgg Try.prog 12 = some false := by kernel_rfl
theorem tSz12 : tSz Try.prog 12 = some 1 := by kernel_rfl
theorem tBytes12 : tBytes Try.prog 12 = some 8 := by kernel_rfl
theorem tZero12 : tZero Try.prog 12 = some [.int .u64 0] := by kernel_rfl
theorem tInt12 : tInt Try.prog 12 = some .u64 := by kernel_rfl
theorem tAgg13 : tAgg Try.prog 13 = some true := by kernel_rfl
theorem tSz13 : tSz Try.prog 13 = some 2 := by kernel_rfl
theorem tBytes13 : tBytes Try.prog 13 = some 24 := by kernel_rfl
theorem tZero13 : tZero Try.prog 13 = some [.str [], .int .u64 0] := by kernel_rfl
theorem tPlaces13 : tPlaces Try.prog 13 = some [(0, 1), (1, 1)] := by kernel_rfl
theorem tFld13_0 : tFld Try.prog 13 0 = some (0, 9) := by kernel_rfl
theorem tFld13_1 : tFld Try.prog 13 1 = some (1, 12) := by kernel_rfl
theorem tGuard13 : Try.prog.eqGuardType Try.prog.depth 13 = false := by kernel_rfl
theorem tAgg17 : tAgg Try.prog 17 = some false := by kernel_rfl
theorem tSz17 : tSz Try.prog 17 = some 1 := by kernel_rfl
theorem tBytes17 : tBytes Try.prog 17 = some 8 := by kernel_rfl
theorem tZero17 : tZero Try.prog 17 = some [.ptr none] := by kernel_rfl
theorem tAgg18 : tAgg Try.prog 18 = some true := by kernel_rfl
theorem tSz18 : tSz Try.prog 18 = some 1 := by kernel_rfl
theorem tBytes18 : tBytes Try.prog 18 = some 8 := by kernel_rfl
theorem tZero18 : tZero Try.prog 18 = some [.ptr none] := by kernel_rfl
theorem tPlaces18 : tPlaces Try.prog 18 = some [(0, 1)] := by kernel_rfl
theorem tFld18_0 : tFld Try.prog 18 0 = some (0, 17) := by kernel_rfl
theorem tGuard18 : Try.prog.eqGuardType Try.prog.depth 18 = false := by kernel_rfl
theorem tAgg21 : tAgg Try.prog 21 = some false := by kernel_rfl
theorem tSz21 : tSz Try.prog 21 = some 1 := by kernel_rfl
theorem tBytes21 : tBytes Try.prog 21 = some 4 := by kernel_rfl
theorem tZero21 : tZero Try.prog 21 = some [.int .i32 0] := by kernel_rfl
theorem tInt21 : tInt Try.prog 21 = some .i32 := by kernel_rfl
theorem tAgg22 : tAgg Try.prog 22 = some false := by kernel_rfl
theorem tSz22 : tSz Try.prog 22 = some 1 := by kernel_rfl
theorem tBytes22 : tBytes Try.prog 22 = some 24 := by kernel_rfl
theorem tZero22 : tZero Try.prog 22 = some [.sl none 0 (some 0)] := by kernel_rfl
theorem tElem22 : tElem Try.prog 22 = some 39 := by kernel_rfl
theorem tIsSlice22 : tIsSlice Try.prog 22 = true := by kernel_rfl
theorem tAgg23 : tAgg Try.prog 23 = some true := by kernel_rfl
theorem tSz23 : tSz Try.prog 23 = some 3 := by kernel_rfl
theorem tBytes23 : tBytes Try.prog 23 = some 40 := by kernel_rfl
theorem tZero23 : tZero Try.prog 23 = some [.int .i64 0, .int .i64 0, .sl none 0 (some 0)] := by kernel_rfl
theorem tPlaces23 : tPlaces Try.prog 23 = some [(0, 1), (1, 1), (2, 1)] := by kernel_rfl
theorem tFld23_0 : tFld Try.prog 23 0 = some (0, 3) := by kernel_rfl
theorem tFld23_1 : tFld Try.prog 23 1 = some (1, 3) := by kernel_rfl
theorem tFld23_2 : tFld Try.prog 23 2 = some (2, 22) := by kernel_rfl
theorem tGuard23 : Try.prog.eqGuardType Try.prog.depth 23 = false := by kernel_rfl
theorem tAgg24 : tAgg Try.prog 24 = some true := by kernel_rfl
theorem tSz24 : tSz Try.prog 24 = some 3 := by kernel_rfl
theorem tBytes24 : tBytes Try.prog 24 = some 40 := by kernel_rfl
theorem tZero24 : tZero Try.prog 24 = some [.int .i64 0, .int .i64 0, .sl none 0 (some 0)] := by kernel_rfl
theorem tPlaces24 : tPlaces Try.prog 24 = some [(0, 1), (1, 1), (2, 1)] := by kernel_rfl
theorem tFld24_0 : tFld Try.prog 24 0 = some (0, 3) := by kernel_rfl
theorem tFld24_1 : tFld Try.prog 24 1 = some (1, 3) := by kernel_rfl
theorem tFld24_2 : tFld Try.prog 24 2 = some (2, 22) := by kernel_rfl
theorem tGuard24 : Try.prog.eqGuardType Try.prog.depth 24 = false := by kernel_rfl
theorem tAgg27 : tAgg Try.prog 27 = some false := by kernel_rfl
theorem tSz27 : tSz Try.prog 27 = some 1 := by kernel_rfl
theorem tBytes27 : tBytes Try.prog 27 = some 8 := by kernel_rfl
theorem tZero27 : tZero Try.prog 27 = some [.int .i64 0] := by kernel_rfl
theorem tInt27 : tInt Try.prog 27 = some .i64 := by kernel_rfl
theorem tAgg30 : tAgg Try.prog 30 = some true := by kernel_rfl
theorem tSz30 : tSz Try.prog 30 = some 4 := by kernel_rfl
theorem tBytes30 : tBytes Try.prog 30 = some 32 := by kernel_rfl
theorem tZero30 : tZero Try.prog 30 = some [.int .i64 0, .int .i64 0, .int .i64 0, .int .i64 0] := by kernel_rfl
theorem tPlaces30 : tPlaces Try.prog 30 = some [(0, 1), (1, 1), (2, 1), (3, 1)] := by kernel_rfl
theorem tFld30_0 : tFld Try.prog 30 0 = some (0, 3) := by kernel_rfl
theorem tFld30_1 : tFld Try.prog 30 1 = some (1, 3) := by kernel_rfl
theorem tFld30_2 : tFld Try.prog 30 2 = some (2, 3) := by kernel_rfl
theorem tFld30_3 : tFld Try.prog 30 3 = some (3, 3) := by kernel_rfl
theorem tGuard30 : Try.prog.eqGuardType Try.prog.depth 30 = false := by kernel_rfl
theorem tEq30 (a0 a1 a2 a3 b0 b1 b2 b3 : Int) : aEq Try.prog 20 30 [.int .i64 a0, .int .i64 a1, .int .i64 a2, .int .i64 a3] [.int .i64 b0, .int .i64 b1, .int .i64 b2, .int .i64 b3] = some ((a0 == b0) && ((a1 == b1) && ((a2 == b2) && ((a3 == b3) && true)))) := by kernel_rfl
theorem tAgg31 : tAgg Try.prog 31 = some true := by kernel_rfl
theorem tSz31 : tSz Try.prog 31 = some 4 := by kernel_rfl
theorem tBytes31 : tBytes Try.prog 31 = some 32 := by kernel_rfl
theorem tZero31 : tZero Try.prog 31 = some [.int .i64 0, .int .i64 0, .int .i64 0, .int .i64 0] := by kernel_rfl
theorem tPlaces31 : tPlaces Try.prog 31 = some [(0, 1), (1, 1), (2, 1), (3, 1)] := by kernel_rfl
theorem tFld31_0 : tFld Try.prog 31 0 = some (0, 3) := by kernel_rfl
theorem tFld31_1 : tFld Try.prog 31 1 = some (1, 3) := by kernel_rfl
theorem tFld31_2 : tFld Try.prog 31 2 = some (2, 3) := by kernel_rfl
theorem tFld31_3 : tFld Try.prog 31 3 = some (3, 3) := by kernel_rfl
theorem tGuard31 : Try.prog.eqGuardType Try.prog.depth 31 = false := by kernel_rfl
theorem tEq31 (a0 a1 a2 a3 b0 b1 b2 b3 : Int) : aEq Try.prog 20 31 [.int .i64 a0, .int .i64 a1, .int .i64 a2, .int .i64 a3] [.int .i64 b0, .int .i64 b1, .int .i64 b2, .int .i64 b3] = some ((a0 == b0) && ((a1 == b1) && ((a2 == b2) && ((a3 == b3) && true)))) := by kernel_rfl
theorem tAgg38 : tAgg Try.prog 38 = some true := by kernel_rfl
theorem tSz38 : tSz Try.prog 38 = some 2 := by kernel_rfl
theorem tBytes38 : tBytes Try.prog 38 = some 16 := by kernel_rfl
theorem tZero38 : tZero Try.prog 38 = some [.int .i64 0, .int .i64 0] := by kernel_rfl
theorem tPlaces38 : tPlaces Try.prog 38 = some [(0, 1), (1, 1)] := by kernel_rfl
theorem tFld38_0 : tFld Try.prog 38 0 = some (0, 3) := by kernel_rfl
theorem tFld38_1 : tFld Try.prog 38 1 = some (1, 3) := by kernel_rfl
theorem tGuard38 : Try.prog.eqGuardType Try.prog.depth 38 = false := by kernel_rfl
theorem tEq38 (a0 a1 b0 b1 : Int) : aEq Try.prog 20 38 [.int .i64 a0, .int .i64 a1] [.int .i64 b0, .int .i64 b1] = some ((a0 == b0) && ((a1 == b1) && true)) := by kernel_rfl
theorem tAgg39 : tAgg Try.prog 39 = some true := by kernel_rfl
theorem tSz39 : tSz Try.prog 39 = some 2 := by kernel_rfl
theorem tBytes39 : tBytes Try.prog 39 = some 16 := by kernel_rfl
theorem tZero39 : tZero Try.prog 39 = some [.int .i64 0, .int .i64 0] := by kernel_rfl
theorem tPlaces39 : tPlaces Try.prog 39 = some [(0, 1), (1, 1)] := by kernel_rfl
theorem tFld39_0 : tFld Try.prog 39 0 = some (0, 3) := by kernel_rfl
theorem tFld39_1 : tFld Try.prog 39 1 = some (1, 3) := by kernel_rfl
theorem tGuard39 : Try.prog.eqGuardType Try.prog.depth 39 = false := by kernel_rfl
theorem tEq39 (a0 a1 b0 b1 : Int) : aEq Try.prog 20 39 [.int .i64 a0, .int .i64 a1] [.int .i64 b0, .int .i64 b1] = some ((a0 == b0) && ((a1 == b1) && true)) := by kernel_rfl
theorem tAgg60 : tAgg Try.prog 60 = some true := by kernel_rfl
theorem tSz60 : tSz Try.prog 60 = some 2 := by kernel_rfl
theorem tBytes60 : tBytes Try.prog 60 = some 16 := by kernel_rfl
theorem tZero60 : tZero Try.prog 60 = some [.int .i64 0, .int .i64 0] := by kernel_rfl
theorem tIdx60 : tIdx Try.prog 60 = some (some 2, 3) := by kernel_rfl
theorem tPlaces60 : tPlaces Try.prog 60 = some [(0, 1), (1, 1)] := by kernel_rfl
theorem tAgg73 : tAgg Try.prog 73 = some false := by kernel_rfl
theorem tSz73 : tSz Try.prog 73 = some 1 := by kernel_rfl
theorem tBytes73 : tBytes Try.prog 73 = some 24 := by kernel_rfl
theorem tZero73 : tZero Try.prog 73 = some [.sl none 0 (some 0)] := by kernel_rfl
theorem tElem73 : tElem Try.prog 73 = some 3 := by kernel_rfl
theorem tIsSlice73 : tIsSlice Try.prog 73 = true := by kernel_rfl
theorem tAgg76 : tAgg Try.prog 76 = some false := by kernel_rfl
theorem tSz76 : tSz Try.prog 76 = some 1 := by kernel_rfl
theorem tBytes76 : tBytes Try.prog 76 = some 24 := by kernel_rfl
theorem tZero76 : tZero Try.prog 76 = some [.sl none 0 (some 0)] := by kernel_rfl
theorem tElem76 : tElem Try.prog 76 = some 22 := by kernel_rfl
theorem tIsSlice76 : tIsSlice Try.prog 76 = true := by kernel_rfl
theorem tAgg81 : tAgg Try.prog 81 = some false := by kernel_rfl
theorem tSz81 : tSz Try.prog 81 = some 1 := by kernel_rfl
theorem tBytes81 : tBytes Try.prog 81 = some 8 := by kernel_rfl
theorem tZero81 : tZero Try.prog 81 = some [.int .u64 0] := by kernel_rfl
theorem tInt81 : tInt Try.prog 81 = some .u64 := by kernel_rfl
theorem tAgg84 : tAgg Try.prog 84 = some false := by kernel_rfl
theorem tSz84 : tSz Try.prog 84 = some 1 := by kernel_rfl
theorem tBytes84 : tBytes Try.prog 84 = some 8 := by kernel_rfl
theorem tZero84 : tZero Try.prog 84 = some [.int .i64 0] := by kernel_rfl
theorem tInt84 : tInt Try.prog 84 = some .i64 := by kernel_rfl
theorem tAgg92 : tAgg Try.prog 92 = some false := by kernel_rfl
theorem tSz92 : tSz Try.prog 92 = some 1 := by kernel_rfl
theorem tBytes92 : tBytes Try.prog 92 = some 4 := by kernel_rfl
theorem tZero92 : tZero Try.prog 92 = some [.int .u32 0] := by kernel_rfl
theorem tInt92 : tInt Try.prog 92 = some .u32 := by kernel_rfl
theorem tAgg94 : tAgg Try.prog 94 = some false := by kernel_rfl
theorem tSz94 : tSz Try.prog 94 = some 1 := by kernel_rfl
theorem tBytes94 : tBytes Try.prog 94 = some 8 := by kernel_rfl
theorem tZero94 : tZero Try.prog 94 = some [.int .u64 0] := by kernel_rfl
theorem tInt94 : tInt Try.prog 94 = some .u64 := by kernel_rfl
theorem tAgg95 : tAgg Try.prog 95 = some false := by kernel_rfl
theorem tSz95 : tSz Try.prog 95 = some 1 := by kernel_rfl
theorem tBytes95 : tBytes Try.prog 95 = some 8 := by kernel_rfl
theorem tZero95 : tZero Try.prog 95 = some [.int .u64 0] := by kernel_rfl
theorem tInt95 : tInt Try.prog 95 = some .u64 := by kernel_rfl
theorem tAgg99 : tAgg Try.prog 99 = some false := by kernel_rfl
theorem tSz99 : tSz Try.prog 99 = some 1 := by kernel_rfl
theorem tBytes99 : tBytes Try.prog 99 = some 8 := by kernel_rfl
theorem tZero99 : tZero Try.prog 99 = some [.ptr none] := by kernel_rfl
theorem tAgg101 : tAgg Try.prog 101 = some false := by kernel_rfl
theorem tSz101 : tSz Try.prog 101 = some 1 := by kernel_rfl
theorem tBytes101 : tBytes Try.prog 101 = some 8 := by kernel_rfl
theorem tZero101 : tZero Try.prog 101 = some [.ptr none] := by kernel_rfl
theorem tAgg105 : tAgg Try.prog 105 = some true := by kernel_rfl
theorem tSz105 : tSz Try.prog 105 = some 4 := by kernel_rfl
theorem tBytes105 : tBytes Try.prog 105 = some 40 := by kernel_rfl
theorem tZero105 : tZero Try.prog 105 = some [.ptr none, .ptr none, .ptr none, .str []] := by kernel_rfl
theorem tPlaces105 : tPlaces Try.prog 105 = some [(0, 1), (1, 1), (2, 1), (3, 1)] := by kernel_rfl
theorem tFld105_0 : tFld Try.prog 105 0 = some (0, 17) := by kernel_rfl
theorem tFld105_1 : tFld Try.prog 105 1 = some (1, 17) := by kernel_rfl
theorem tFld105_2 : tFld Try.prog 105 2 = some (2, 17) := by kernel_rfl
theorem tFld105_3 : tFld Try.prog 105 3 = some (3, 9) := by kernel_rfl
theorem tGuard105 : Try.prog.eqGuardType Try.prog.depth 105 = false := by kernel_rfl
theorem tAgg114 : tAgg Try.prog 114 = some false := by kernel_rfl
theorem tSz114 : tSz Try.prog 114 = some 1 := by kernel_rfl
theorem tBytes114 : tBytes Try.prog 114 = some 8 := by kernel_rfl
theorem tZero114 : tZero Try.prog 114 = some [.ptr none] := by kernel_rfl
theorem tAgg117 : tAgg Try.prog 117 = some true := by kernel_rfl
theorem tSz117 : tSz Try.prog 117 = some 11 := by kernel_rfl
theorem tBytes117 : tBytes Try.prog 117 = some 48 := by kernel_rfl
theorem tZero117 : tZero Try.prog 117 = some [.int .u64 0, .int .u64 0, .int .u32 0, .int .u8 0, .int .u8 0, .int .u8 0, .int .u8 0, .nilfn, .ptr none, .int .i32 0, .int .i32 0] := by kernel_rfl
theorem tPlaces117 : tPlaces Try.prog 117 = some [(0, 1), (1, 1), (2, 1), (3, 1), (4, 1), (5, 1), (6, 1), (7, 1), (8, 1), (9, 1), (10, 1)] := by kernel_rfl
theorem tFld117_0 : tFld Try.prog 117 0 = some (0, 12) := by kernel_rfl
theorem tFld117_1 : tFld Try.prog 117 1 = some (1, 12) := by kernel_rfl
theorem tFld117_2 : tFld Try.prog 117 2 = some (2, 92) := by kernel_rfl
theorem tFld117_3 : tFld Try.prog 117 3 = some (3, 111) := by kernel_rfl
theorem tFld117_4 : tFld Try.prog 117 4 = some (4, 5) := by kernel_rfl
theorem tFld117_5 : tFld Try.prog 117 5 = some (5, 5) := by kernel_rfl
theorem tFld117_6 : tFld Try.prog 117 6 = some (6, 112) := by kernel_rfl
theorem tFld117_7 : tFld Try.prog 117 7 = some (7, 113) := by kernel_rfl
theorem tFld117_8 : tFld Try.prog 117 8 = some (8, 114) := by kernel_rfl
theorem tFld117_9 : tFld Try.prog 117 9 = some (9, 115) := by kernel_rfl
theorem tFld117_10 : tFld Try.prog 117 10 = some (10, 116) := by kernel_rfl
theorem tGuard117 : Try.prog.eqGuardType Try.prog.depth 117 = false := by kernel_rfl
theorem tyset0 : type_of% (And.intro (@tAgg2) <| And.intro (@tSz2) <| And.intro (@tBytes2) <| And.intro (@tZero2) <| And.intro (@tInt2) <| And.intro (@tAgg3) <| And.intro (@tSz3) <| And.intro (@tBytes3) <| And.intro (@tZero3) <| And.intro (@tInt3) <| And.intro (@tAgg4) <| And.intro (@tSz4) <| And.intro (@tBytes4) <| And.intro (@tZero4) <| And.intro (@tIsBool4) <| And.intro (@tAgg5) <| And.intro (@tSz5) <| And.intro (@tBytes5) <| And.intro (@tZero5) <| And.intro (@tInt5) <| And.intro (@tAgg7) <| And.intro (@tSz7) <| And.intro (@tBytes7) <| (@tZero7)) :=
  And.intro (@tAgg2) <| And.intro (@tSz2) <| And.intro (@tBytes2) <| And.intro (@tZero2) <| And.intro (@tInt2) <| And.intro (@tAgg3) <| And.intro (@tSz3) <| And.intro (@tBytes3) <| And.intro (@tZero3) <| And.intro (@tInt3) <| And.intro (@tAgg4) <| And.intro (@tSz4) <| And.intro (@tBytes4) <| And.intro (@tZero4) <| And.intro (@tIsBool4) <| And.intro (@tAgg5) <| And.intro (@tSz5) <| And.intro (@tBytes5) <| And.intro (@tZero5) <| And.intro (@tInt5) <| And.intro (@tAgg7) <| And.intro (@tSz7) <| And.intro (@tBytes7) <| (@tZero7)
theorem tyset1 : type_of% (And.intro (@tPlaces7) <| And.intro (@tFld7_0) <| And.intro (@tFld7_1) <| And.intro (@tFld7_2) <| And.intro (@tFld7_3) <| And.intro (@tGuard7) <| And.intro (@tAgg9) <| And.intro (@tSz9) <| And.intro (@tBytes9) <| And.intro (@tZero9) <| And.intro (@tAgg12) <| And.intro (@tSz12) <| And.intro (@tBytes12) <| And.intro (@tZero12) <| And.intro (@tInt12) <| And.intro (@tAgg13) <| And.intro (@tSz13) <| And.intro (@tBytes13) <| And.intro (@tZero13) <| And.intro (@tPlaces13) <| And.intro (@tFld13_0) <| And.intro (@tFld13_1) <| And.intro (@tGuard13) <| (@tAgg17)) :=
  And.intro (@tPlaces7) <| And.intro (@tFld7_0) <| And.intro (@tFld7_1) <| And.intro (@tFld7_2) <| And.intro (@tFld7_3) <| And.intro (@tGuard7) <| And.intro (@tAgg9) <| And.intro (@tSz9) <| And.intro (@tBytes9) <| And.intro (@tZero9) <| And.intro (@tAgg12) <| And.intro (@tSz12) <| And.intro (@tBytes12) <| And.intro (@tZero12) <| And.intro (@tInt12) <| And.intro (@tAgg13) <| And.intro (@tSz13) <| And.intro (@tBytes13) <| And.intro (@tZero13) <| And.intro (@tPlaces13) <| And.intro (@tFld13_0) <| And.intro (@tFld13_1) <| And.intro (@tGuard13) <| (@tAgg17)
theorem tyset2 : type_of% (And.intro (@tSz17) <| And.intro (@tBytes17) <| And.intro (@tZero17) <| And.intro (@tAgg18) <| And.intro (@tSz18) <| And.intro (@tBytes18) <| And.intro (@tZero18) <| And.intro (@tPlaces18) <| And.intro (@tFld18_0) <| And.intro (@tGuard18) <| And.intro (@tAgg21) <| And.intro (@tSz21) <| And.intro (@tBytes21) <| And.intro (@tZero21) <| And.intro (@tInt21) <| And.intro (@tAgg22) <| And.intro (@tSz22) <| And.intro (@tBytes22) <| And.intro (@tZero22) <| And.intro (@tElem22) <| And.intro (@tIsSlice22) <| And.intro (@tAgg23) <| And.intro (@tSz23) <| (@tBytes23)) :=
  And.intro (@tSz17) <| And.intro (@tBytes17) <| And.intro (@tZero17) <| And.intro (@tAgg18) <| And.intro (@tSz18) <| And.intro (@tBytes18) <| And.intro (@tZero18) <| And.intro (@tPlaces18) <| And.intro (@tFld18_0) <| And.intro (@tGuard18) <| And.intro (@tAgg21) <| And.intro (@tSz21) <| And.intro (@tBytes21) <| And.intro (@tZero21) <| And.intro (@tInt21) <| And.intro (@tAgg22) <| And.intro (@tSz22) <| And.intro (@tBytes22) <| And.intro (@tZero22) <| And.intro (@tElem22) <| And.intro (@tIsSlice22) <| And.intro (@tAgg23) <| And.intro (@tSz23) <| (@tBytes23)
theorem tyset3 : type_of% (And.intro (@tZero23) <| And.intro (@tPlaces23) <| And.intro (@tFld23_0) <| And.intro (@tFld23_1) <| And.intro (@tFld23_2) <| And.intro (@tGuard23) <| And.intro (@tAgg24) <| And.intro (@tSz24) <| And.intro (@tBytes24) <| And.intro (@tZero24) <| And.intro (@tPlaces24) <| And.intro (@tFld24_0) <| And.intro (@tFld24_1) <| And.intro (@tFld24_2) <| And.intro (@tGuard24) <| And.intro (@tAgg27) <| And.intro (@tSz27) <| And.intro (@tBytes27) <| And.intro (@tZero27) <| And.intro (@tInt27) <| And.intro (@tAgg30) <| And.intro (@tSz30) <| And.intro (@tBytes30) <| (@tZero30)) :=
  And.intro (@tZero23) <| And.intro (@tPlaces23) <| And.intro (@tFld23_0) <| And.intro (@tFld23_1) <| And.intro (@tFld23_2) <| And.intro (@tGuard23) <| And.intro (@tAgg24) <| And.intro (@tSz24) <| And.intro (@tBytes24) <| And.intro (@tZero24) <| And.intro (@tPlaces24) <| And.intro (@tFld24_0) <| And.intro (@tFld24_1) <| And.intro (@tFld24_2) <| And.intro (@tGuard24) <| And.intro (@tAgg27) <| And.intro (@tSz27) <| And.intro (@tBytes27) <| And.intro (@tZero27) <| And.intro (@tInt27) <| And.intro (@tAgg30) <| And.intro (@tSz30) <| And.intro (@tBytes30) <| (@tZero30)
theorem tyset4 : type_of% (And.intro (@tPlaces30) <| And.intro (@tFld30_0) <| And.intro (@tFld30_1) <| And.intro (@tFld30_2) <| And.intro (@tFld30_3) <| And.intro (@tGuard30) <| And.intro (@tEq30) <| And.intro (@tAgg31) <| And.intro (@tSz31) <| And.intro (@tBytes31) <| And.intro (@tZero31) <| And.intro (@tPlaces31) <| And.intro (@tFld31_0) <| And.intro (@tFld31_1) <| And.intro (@tFld31_2) <| And.intro (@tFld31_3) <| And.intro (@tGuard31) <| And.intro (@tEq31) <| And.intro (@tAgg38) <| And.intro (@tSz38) <| And.intro (@tBytes38) <| And.intro (@tZero38) <| And.intro (@tPlaces38) <| (@tFld38_0)) :=
  And.intro (@tPlaces30) <| And.intro (@tFld30_0) <| And.intro (@tFld30_1) <| And.intro (@tFld30_2) <| And.intro (@tFld30_3) <| And.intro (@tGuard30) <| And.intro (@tEq30) <| And.intro (@tAgg31) <| And.intro (@tSz31) <| And.intro (@tBytes31) <| And.intro (@tZero31) <| And.intro (@tPlaces31) <| And.intro (@tFld31_0) <| And.intro (@tFld31_1) <| And.intro (@tFld31_2) <| And.intro (@tFld31_3) <| And.intro (@tGuard31) <| And.intro (@tEq31) <| And.intro (@tAgg38) <| And.intro (@tSz38) <| And.intro (@tBytes38) <| And.intro (@tZero38) <| And.intro (@tPlaces38) <| (@tFld38_0)
theorem tyset5 : type_of% (And.intro (@tFld38_1) <| And.intro (@tGuard38) <| And.intro (@tEq38) <| And.intro (@tAgg39) <| And.intro (@tSz39) <| And.intro (@tBytes39) <| And.intro (@tZero39) <| And.intro (@tPlaces39) <| And.intro (@tFld39_0) <| And.intro (@tFld39_1) <| And.intro (@tGuard39) <| And.intro (@tEq39) <| And.intro (@tAgg60) <| And.intro (@tSz60) <| And.intro (@tBytes60) <| And.intro (@tZero60) <| And.intro (@tIdx60) <| And.intro (@tPlaces60) <| And.intro (@tAgg73) <| And.intro (@tSz73) <| And.intro (@tBytes73) <| And.intro (@tZero73) <| And.intro (@tElem73) <| (@tIsSlice73)) :=
  And.intro (@tFld38_1) <| And.intro (@tGuard38) <| And.intro (@tEq38) <| And.intro (@tAgg39) <| And.intro (@tSz39) <| And.intro (@tBytes39) <| And.intro (@tZero39) <| And.intro (@tPlaces39) <| And.intro (@tFld39_0) <| And.intro (@tFld39_1) <| And.intro (@tGuard39) <| And.intro (@tEq39) <| And.intro (@tAgg60) <| And.intro (@tSz60) <| And.intro (@tBytes60) <| And.intro (@tZero60) <| And.intro (@tIdx60) <| And.intro (@tPlaces60) <| And.intro (@tAgg73) <| And.intro (@tSz73) <| And.intro (@tBytes73) <| And.intro (@tZero73) <| And.intro (@tElem73) <| (@tIsSlice73)
theorem tyset6 : type_of% (And.intro (@tAgg76) <| And.intro (@tSz76) <| And.intro (@tBytes76) <| And.intro (@tZero76) <| And.intro (@tElem76) <| And.intro (@tIsSlice76) <| And.intro (@tAgg81) <| And.intro (@tSz81) <| And.intro (@tBytes81) <| And.intro (@tZero81) <| And.intro (@tInt81) <| And.intro (@tAgg84) <| And.intro (@tSz84) <| And.intro (@tBytes84) <| And.intro (@tZero84) <| And.intro (@tInt84) <| And.intro (@tAgg92) <| And.intro (@tSz92) <| And.intro (@tBytes92) <| And.intro (@tZero92) <| And.intro (@tInt92) <| And.intro (@tAgg94) <| And.intro (@tSz94) <| (@tBytes94)) :=
  And.intro (@tAgg76) <| And.intro (@tSz76) <| And.intro (@tBytes76) <| And.intro (@tZero76) <| And.intro (@tElem76) <| And.intro (@tIsSlice76) <| And.intro (@tAgg81) <| And.intro (@tSz81) <| And.intro (@tBytes81) <| And.intro (@tZero81) <| And.intro (@tInt81) <| And.intro (@tAgg84) <| And.intro (@tSz84) <| And.intro (@tBytes84) <| And.intro (@tZero84) <| And.intro (@tInt84) <| And.intro (@tAgg92) <| And.intro (@tSz92) <| And.intro (@tBytes92) <| And.intro (@tZero92) <| And.intro (@tInt92) <| And.intro (@tAgg94) <| And.intro (@tSz94) <| (@tBytes94)
theorem tyset7 : type_of% (And.intro (@tZero94) <| And.intro (@tInt94) <| And.intro (@tAgg95) <| And.intro (@tSz95) <| And.intro (@tBytes95) <| And.intro (@tZero95) <| And.intro (@tInt95) <| And.intro (@tAgg99) <| And.intro (@tSz99) <| And.intro (@tBytes99) <| And.intro (@tZero99) <| And.intro (@tAgg101) <| And.intro (@tSz101) <| And.intro (@tBytes101) <| And.intro (@tZero101) <| And.intro (@tAgg105) <| And.intro (@tSz105) <| And.intro (@tBytes105) <| And.intro (@tZero105) <| And.intro (@tPlaces105) <| And.intro (@tFld105_0) <| And.intro (@tFld105_1) <| And.intro (@tFld105_2) <| (@tFld105_3)) :=
  And.intro (@tZero94) <| And.intro (@tInt94) <| And.intro (@tAgg95) <| And.intro (@tSz95) <| And.intro (@tBytes95) <| And.intro (@tZero95) <| And.intro (@tInt95) <| And.intro (@tAgg99) <| And.intro (@tSz99) <| And.intro (@tBytes99) <| And.intro (@tZero99) <| And.intro (@tAgg101) <| And.intro (@tSz101) <| And.intro (@tBytes101) <| And.intro (@tZero101) <| And.intro (@tAgg105) <| And.intro (@tSz105) <| And.intro (@tBytes105) <| And.intro (@tZero105) <| And.intro (@tPlaces105) <| And.intro (@tFld105_0) <| And.intro (@tFld105_1) <| And.intro (@tFld105_2) <| (@tFld105_3)
theorem tyset8 : type_of% (And.intro (@tGuard105) <| And.intro (@tAgg114) <| And.intro (@tSz114) <| And.intro (@tBytes114) <| And.intro (@tZero114) <| And.intro (@tAgg117) <| And.intro (@tSz117) <| And.intro (@tBytes117) <| And.intro (@tZero117) <| And.intro (@tPlaces117) <| And.intro (@tFld117_0) <| And.intro (@tFld117_1) <| And.intro (@tFld117_2) <| And.intro (@tFld117_3) <| And.intro (@tFld117_4) <| And.intro (@tFld117_5) <| And.intro (@tFld117_6) <| And.intro (@tFld117_7) <| And.intro (@tFld117_8) <| And.intro (@tFld117_9) <| And.intro (@tFld117_10) <| (@tGuard117)) :=
  And.intro (@tGuard105) <| And.intro (@tAgg114) <| And.intro (@tSz114) <| And.intro (@tBytes114) <| And.intro (@tZero114) <| And.intro (@tAgg117) <| And.intro (@tSz117) <| And.intro (@tBytes117) <| And.intro (@tZero117) <| And.intro (@tPlaces117) <| And.intro (@tFld117_0) <| And.intro (@tFld117_1) <| And.intro (@tFld117_2) <| And.intro (@tFld117_3) <| And.intro (@tFld117_4) <| And.intro (@tFld117_5) <| And.intro (@tFld117_6) <| And.intro (@tFld117_7) <| And.intro (@tFld117_8) <| And.intro (@tFld117_9) <| And.intro (@tFld117_10) <| (@tGuard117)
theorem tyset : type_of% (And.intro (@tyset0) <| And.intro (@tyset1) <| And.intro (@tyset2) <| And.intro (@tyset3) <| And.intro (@tyset4) <| And.intro (@tyset5) <| And.intro (@tyset6) <| And.intro (@tyset7) <| (@tyset8)) :=
  And.intro (@tyset0) <| And.intro (@tyset1) <| And.intro (@tyset2) <| And.intro (@tyset3) <| And.intro (@tyset4) <| And.intro (@tyset5) <| And.intro (@tyset6) <| And.intro (@tyset7) <| (@tyset8)

end Go.Proofs.Ytjfnbcifafmefaa
