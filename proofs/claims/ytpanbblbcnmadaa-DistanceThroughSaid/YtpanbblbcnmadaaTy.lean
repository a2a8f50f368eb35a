/- Facts on the types of the program, as the abstract machine asks for them. Conditions: none. -/
import Derived.Test.YtpanbblbcnmadaaAmO
namespace Go.Proofs.Ytpanbblbcnmadaa
open Go.RowKit
theorem try_mixed : Try.prog.follows .mixedOrders = true := by kernel_rfl
theorem tAgg2 : tAgg Try.prog 2 = some false := by kernel_rfl
theorem tSz2 : tSz Try.prog 2 = some 1 := by kernel_rfl
theorem tBytes2 : tBytes Try.prog 2 = some 8 := by kernel_rfl
theorem tZero2 : tZero Try.prog 2 = some [.int .i64 0] := by kernel_rfl
theorem tInt2 : tInt Try.prog 2 = some .i64 := by kernel_rfl
theorem tAgg3 : tAgg Try.prog 3 = some false := by kernel_rfl
theorem tSz3 : tSz Try.prog 3 = some 1 := by kernel_rfl
theorem tBytes3 : tBytes Try.prog 3 = some 8 := by kernel_rfl
theorem tZero3 : tZero Try.prog 3 = some [.int .i64 0] := by kernel_rfl
theorem tInt3 : tInt Try.prog 3 = some .i64 := by kernel_rfl
theorem tAgg4 : tAgg Try.prog 4 = some false := by kernel_rfl
theorem tSz4 : tSz Try.prog 4 = some 1 := by kernel_rfl
theorem tBytes4 : tBytes Try.prog 4 = some 1 := by kernel_rfl
theorem tZero4 : tZero Try.prog 4 = some [.bool false] := by kernel_rfl
theorem tIsBool4 : tIsBool Try.prog 4 = true := by kernel_rfl
theorem tAgg5 : tAgg Try.prog 5 = some false := by kernel_rfl
theorem tSz5 : tSz Try.prog 5 = some 1 := by kernel_rfl
theorem tBytes5 : tBytes Try.prog 5 = some 1 := by kernel_rfl
theorem tZero5 : tZero Try.prog 5 = some [.int .u8 0] := by kernel_rfl
theorem tInt5 : tInt Try.prog 5 = some .u8 := by kernel_rfl
theorem tAgg7 : tAgg Try.prog 7 = some true := by kernel_rfl
theorem tSz7 : tSz Try.prog 7 = some 4 := by kernel_rfl
theorem tBytes7 : tBytes Try.prog 7 = some 24 := by kernel_rfl
theorem tZero7 : tZero Try.prog 7 = some [.int .i64 0, .int .i64 0, .bool false, .int .u8 0] := by kernel_rfl
theorem tPlaces7 : tPlaces Try.prog 7 = some [(0, 1), (1, 1), (2, 1), (3, 1)] := by kernel_rfl
theorem tFld7_0 : tFld Try.prog 7 0 = some (0, 2) := by kernel_rfl
theorem tFld7_1 : tFld Try.prog 7 1 = some (1, 3) := by kernel_rfl
theorem tFld7_2 : tFld Try.prog 7 2 = some (2, 4) := by kernel_rfl
theorem tFld7_3 : tFld Try.prog 7 3 = some (3, 6) := by kernel_rfl
theorem tGuard7 : Try.prog.eqGuardType Try.prog.depth 7 = false := by kernel_rfl
theorem tAgg9 : tAgg Try.prog 9 = some false := by kernel_rfl
theorem tSz9 : tSz Try.prog 9 = some 1 := by kernel_rfl
theorem tBytes9 : tBytes Try.prog 9 = some 16 := by kernel_rfl
theorem tZero9 : tZero Try.prog 9 = some [.str []] := by kernel_rfl
theorem tAgg12 : tAgg Try.prog 12 = some false := by kernel_rfl
theorem tSz12 : tSz Try.prog 12 = some 1 := by kernel_rfl
theorem tBytes12 : tBytes Try.prog 12 = some 8 := by kernel_rfl
theorem tZero12 : tZero Try.prog 12 = some [.int .u64 0] := by kernel_rfl
theorem tInt12 : tInt Try.prog 12 = some .u64 := by kernel_rfl
theorem tAgg13 : tAgg Try.prog 13 = some true := by kernel_rfl
theorem tSz13 : tSz Try.prog 13 = some 2 := by kernel_rfl
theorem tBytes13 : tBytes Try.prog 13 = some 24 := by kernel_rfl
theorem tZero13 : tZero Try.prog 13 = some [.str [], .int .u64 0] := by kernel_rfl
theorem tPlaces13 : tPlaces Try.prog 13 = some [(0, 1), (1, 1)] := by kernel_rfl
theorem tFld13_0 : tFld Try.prog 13 0 = some (0, 9) := by kernel_rfl
theorem tFld13_1 : tFld Try.prog 13 1 = some (1, 12) := by kernel_rfl
theorem tGuard13 : Try.prog.eqGuardType Try.prog.depth 13 = false := by kernel_rfl
theorem tAgg17 : tAgg Try.prog 17 = some false := by kernel_rfl
theorem tSz17 : tSz Try.prog 17 = some 1 := by kernel_rfl
theorem tBytes17 : tBytes Try.prog 17 = some 8 := by kernel_rfl
theorem tZero17 : tZero Try.prog 17 = some [.ptr none] := by kernel_rfl
theorem tAgg18 : tAgg Try.prog 18 = some true := by kernel_rfl
theorem tSz18 : tSz Try.prog 18 = some 1 := by kernel_rfl
theorem tBytes18 : tBytes Try.prog 18 = some 8 := by kernel_rfl
theorem tZero18 : tZero Try.prog 18 = some [.ptr none] := by kernel_rfl
theorem tPlaces18 : tPlaces Try.prog 18 = some [(0, 1)] := by kernel_rfl
theorem tFld18_0 : tFld Try.prog 18 0 = some (0, 17) := by kernel_rfl
theorem tGuard18 : Try.prog.eqGuardType Try.prog.depth 18 = false := by kernel_rfl
theorem tAgg21 : tAgg Try.prog 21 = some false := by kernel_rfl
theorem tSz21 : tSz Try.prog 21 = some 1 := by kernel_rfl
theorem tBytes21 : tBytes Try.prog 21 = some 4 := by kernel_rfl
theorem tZero21 : tZero Try.prog 21 = some [.int .i32 0] := by kernel_rfl
theorem tInt21 : tInt Try.prog 21 = some .i32 := by kernel_rfl
theorem tAgg22 : tAgg Try.prog 22 = some false := by kernel_rfl
theorem tSz22 : tSz Try.prog 22 = some 1 := by kernel_rfl
theorem tBytes22 : tBytes Try.prog 22 = some 24 := by kernel_rfl
theorem tZero22 : tZero Try.prog 22 = some [.sl none 0 (some 0)] := by kernel_rfl
theorem tElem22 : tElem Try.prog 22 = some 5 := by kernel_rfl
theorem tIsSlice22 : tIsSlice Try.prog 22 = true := by kernel_rfl
theorem tAgg23 : tAgg Try.prog 23 = some true := by kernel_rfl
theorem tSz23 : tSz Try.prog 23 = some 3 := by kernel_rfl
theorem tBytes23 : tBytes Try.prog 23 = some 40 := by kernel_rfl
theorem tZero23 : tZero Try.prog 23 = some [.int .i64 0, .int .i64 0, .sl none 0 (some 0)] := by kernel_rfl
theorem tPlaces23 : tPlaces Try.prog 23 = some [(0, 1), (1, 1), (2, 1)] := by kernel_rfl
theorem tFld23_0 : tFld Try.prog 23 0 = some (0, 3) := by kernel_rfl
theorem tFld23_1 : tFld Try.prog 23 1 = some (1, 3) := by kernel_rfl
theorem tFld23_2 : tFld Try.prog 23 2 = some (2, 22) := by kernel_rfl
theorem tGuard23 : Try.prog.eqGuardType Try.prog.depth 23 = false := by kernel_rfl
theorem tAgg24 : tAgg Try.prog 24 = some true := by kernel_rfl
theorem tSz24 : tSz Try.prog 24 = some 3 := by kernel_rfl
theorem tBytes24 : tBytes Try.prog 24 = some 40 := by kernel_rfl
theorem tZero24 : tZero Try.prog 24 = some [.int .i64 0, .int .i64 0, .sl none 0 (some 0)] := by kernel_rfl
theorem tPlaces24 : tPlaces Try.prog 24 = some [(0, 1), (1, 1), (2, 1)] := by kernel_rfl
theorem tFld24_0 : tFld Try.prog 24 0 = some (0, 3) := by kernel_rfl
theorem tFld24_1 : tFld Try.prog 24 1 = some (1, 3) := by kernel_rfl
theorem tFld24_2 : tFld Try.prog 24 2 = some (2, 22) := by kernel_rfl
theorem tGuard24 : Try.prog.eqGuardType Try.prog.depth 24 = false := by kernel_rfl
theorem tAgg28 : tAgg Try.prog 28 = some false := by kernel_rfl
theorem tSz28 : tSz Try.prog 28 = some 1 := by kernel_rfl
theorem tBytes28 : tBytes Try.prog 28 = some 24 := by kernel_rfl
theorem tZero28 : tZero Try.prog 28 = some [.sl none 0 (some 0)] := by kernel_rfl
theorem tElem28 : tElem Try.prog 28 = some 3 := by kernel_rfl
theorem tIsSlice28 : tIsSlice Try.prog 28 = true := by kernel_rfl
theorem tAgg29 : tAgg Try.prog 29 = some false := by kernel_rfl
theorem tSz29 : tSz Try.prog 29 = some 1 := by kernel_rfl
theorem tBytes29 : tBytes Try.prog 29 = some 8 := by kernel_rfl
theorem tZero29 : tZero Try.prog 29 = some [.int .i64 0] := by kernel_rfl
theorem tInt29 : tInt Try.prog 29 = some .i64 := by kernel_rfl
theorem tAgg34 : tAgg Try.prog 34 = some true := by kernel_rfl
theorem tSz34 : tSz Try.prog 34 = some 2 := by kernel_rfl
theorem tBytes34 : tBytes Try.prog 34 = some 16 := by kernel_rfl
theorem tZero34 : tZero Try.prog 34 = some [.int .i64 0, .int .i64 0] := by kernel_rfl
theorem tPlaces34 : tPlaces Try.prog 34 = some [(0, 1), (1, 1)] := by kernel_rfl
theorem tFld34_0 : tFld Try.prog 34 0 = some (0, 3) := by kernel_rfl
theorem tFld34_1 : tFld Try.prog 34 1 = some (1, 3) := by kernel_rfl
theorem tGuard34 : Try.prog.eqGuardType Try.prog.depth 34 = false := by kernel_rfl
theorem tEq34 (a0 a1 b0 b1 : Int) : aEq Try.prog 20 34 [.int .i64 a0, .int .i64 a1] [.int .i64 b0, .int .i64 b1] = some ((a0 == b0) && ((a1 == b1) && true)) := by kernel_rfl
theorem tAgg35 : tAgg Try.prog 35 = some true := by kernel_rfl
theorem tSz35 : tSz Try.prog 35 = some 2 := by kernel_rfl
theorem tBytes35 : tBytes Try.prog 35 = some 16 := by kernel_rfl
theorem tZero35 : tZero Try.prog 35 = some [.int .i64 0, .int .i64 0] := by kernel_rfl
theorem tPlaces35 : tPlaces Try.prog 35 = some [(0, 1), (1, 1)] := by kernel_rfl
theorem tFld35_0 : tFld Try.prog 35 0 = some (0, 3) := by kernel_rfl
theorem tFld35_1 : tFld Try.prog 35 1 = some (1, 3) := by kernel_rfl
theorem tGuard35 : Try.prog.eqGuardType Try.prog.depth 35 = false := by kernel_rfl
theorem tEq35 (a0 a1 b0 b1 : Int) : aEq Try.prog 20 35 [.int .i64 a0, .int .i64 a1] [.int .i64 b0, .int .i64 b1] = some ((a0 == b0) && ((a1 == b1) && true)) := by kernel_rfl
theorem tAgg45 : tAgg Try.prog 45 = some false := by kernel_rfl
theorem tSz45 : tSz Try.prog 45 = some 1 := by kernel_rfl
theorem tBytes45 : tBytes Try.prog 45 = some 24 := by kernel_rfl
theorem tZero45 : tZero Try.prog 45 = some [.sl none 0 (some 0)] := by kernel_rfl
theorem tElem45 : tElem Try.prog 45 = some 35 := by kernel_rfl
theorem tIsSlice45 : tIsSlice Try.prog 45 = true := by kernel_rfl
theorem tAgg57 : tAgg Try.prog 57 = some false := by kernel_rfl
theorem tSz57 : tSz Try.prog 57 = some 1 := by kernel_rfl
theorem tBytes57 : tBytes Try.prog 57 = some 24 := by kernel_rfl
theorem tZero57 : tZero Try.prog 57 = some [.sl none 0 (some 0)] := by kernel_rfl
theorem tElem57 : tElem Try.prog 57 = some 4 := by kernel_rfl
theorem tIsSlice57 : tIsSlice Try.prog 57 = true := by kernel_rfl
theorem tAgg62 : tAgg Try.prog 62 = some false := by kernel_rfl
theorem tSz62 : tSz Try.prog 62 = some 1 := by kernel_rfl
theorem tBytes62 : tBytes Try.prog 62 = some 8 := by kernel_rfl
theorem tZero62 : tZero Try.prog 62 = some [.int .u64 0] := by kernel_rfl
theorem tInt62 : tInt Try.prog 62 = some .u64 := by kernel_rfl
theorem tAgg65 : tAgg Try.prog 65 = some false := by kernel_rfl
theorem tSz65 : tSz Try.prog 65 = some 1 := by kernel_rfl
theorem tBytes65 : tBytes Try.prog 65 = some 8 := by kernel_rfl
theorem tZero65 : tZero Try.prog 65 = some [.int .i64 0] := by kernel_rfl
theorem tInt65 : tInt Try.prog 65 = some .i64 := by kernel_rfl
theorem tAgg73 : tAgg Try.prog 73 = some false := by kernel_rfl
theorem tSz73 : tSz Try.prog 73 = some 1 := by kernel_rfl
theorem tBytes73 : tBytes Try.prog 73 = some 4 := by kernel_rfl
theorem tZero73 : tZero Try.prog 73 = some [.int .u32 0] := by kernel_rfl
theorem tInt73 : tInt Try.prog 73 = some .u32 := by kernel_rfl
theorem tAgg75 : tAgg Try.prog 75 = some false := by kernel_rfl
theorem tSz75 : tSz Try.prog 75 = some 1 := by kernel_rfl
theorem tBytes75 : tBytes Try.prog 75 = some 8 := by kernel_rfl
theorem tZero75 : tZero Try.prog 75 = some [.int .u64 0] := by kernel_rfl
theorem tInt75 : tInt Try.prog 75 = some .u64 := by kernel_rfl
theorem tAgg76 : tAgg Try.prog 76 = some false := by kernel_rfl
theorem tSz76 : tSz Try.prog 76 = some 1 := by kernel_rfl
theorem tBytes76 : tBytes Try.prog 76 = some 8 := by kernel_rfl
theorem tZero76 : tZero Try.prog 76 = some [.int .u64 0] := by kernel_rfl
theorem tInt76 : tInt Try.prog 76 = some .u64 := by kernel_rfl
theorem tAgg80 : tAgg Try.prog 80 = some false := by kernel_rfl
theorem tSz80 : tSz Try.prog 80 = some 1 := by kernel_rfl
theorem tBytes80 : tBytes Try.prog 80 = some 8 := by kernel_rfl
theorem tZero80 : tZero Try.prog 80 = some [.ptr none] := by kernel_rfl
theorem tAgg82 : tAgg Try.prog 82 = some false := by kernel_rfl
theorem tSz82 : tSz Try.prog 82 = some 1 := by kernel_rfl
theorem tBytes82 : tBytes Try.prog 82 = some 8 := by kernel_rfl
theorem tZero82 : tZero Try.prog 82 = some [.ptr none] := by kernel_rfl
theorem tAgg86 : tAgg Try.prog 86 = some true := by kernel_rfl
theorem tSz86 : tSz Try.prog 86 = some 4 := by kernel_rfl
theorem tBytes86 : tBytes Try.prog 86 = some 40 := by kernel_rfl
theorem tZero86 : tZero Try.prog 86 = some [.ptr none, .ptr none, .ptr none, .str []] := by kernel_rfl
theorem tPlaces86 : tPlaces Try.prog 86 = some [(0, 1), (1, 1), (2, 1), (3, 1)] := by kernel_rfl
theorem tFld86_0 : tFld Try.prog 86 0 = some (0, 17) := by kernel_rfl
theorem tFld86_1 : tFld Try.prog 86 1 = some (1, 17) := by kernel_rfl
theorem tFld86_2 : tFld Try.prog 86 2 = some (2, 17) := by kernel_rfl
theorem tFld86_3 : tFld Try.prog 86 3 = some (3, 9) := by kernel_rfl
theorem tGuard86 : Try.prog.eqGuardType Try.prog.depth 86 = false := by kernel_rfl
theorem tAgg95 : tAgg Try.prog 95 = some false := by kernel_rfl
theorem tSz95 : tSz Try.prog 95 = some 1 := by kernel_rfl
theorem tBytes95 : tBytes Try.prog 95 = some 8 := by kernel_rfl
theorem tZero95 : tZero Try.prog 95 = some [.ptr none] := by kernel_rfl
theorem tAgg98 : tAgg Try.prog 98 = some true := by kernel_rfl
theorem tSz98 : tSz Try.prog 98 = some 11 := by kernel_rfl
theorem tBytes98 : tBytes Try.prog 98 = some 48 := by kernel_rfl
theorem tZero98 : tZero Try.prog 98 = some [.int .u64 0, .int .u64 0, .int .u32 0, .int .u8 0, .int .u8 0, .int .u8 0, .int .u8 0, .nilfn, .ptr none, .int .i32 0, .int .i32 0] := by kernel_rfl
theorem tPlaces98 : tPlaces Try.prog 98 = some [(0, 1), (1, 1), (2, 1), (3, 1), (4, 1), (5, 1), (6, 1), (7, 1), (8, 1), (9, 1), (10, 1)] := by kernel_rfl
theorem tFld98_0 : tFld Try.prog 98 0 = some (0, 12) := by kernel_rfl
theorem tFld98_1 : tFld Try.prog 98 1 = some (1, 12) := by kernel_rfl
theorem tFld98_2 : tFld Try.prog 98 2 = some (2, 73) := by kernel_rfl
theorem tFld98_3 : tFld Try.prog 98 3 = some (3, 92) := by kernel_rfl
theorem tFld98_4 : tFld Try.prog 98 4 = some (4, 5) := by kernel_rfl
theorem tFld98_5 : tFld Try.prog 98 5 = some (5, 5) := by kernel_rfl
theorem tFld98_6 : tFld Try.prog 98 6 = some (6, 93) := by kernel_rfl
theorem tFld98_7 : tFld Try.prog 98 7 = some (7, 94) := by kernel_rfl
theorem tFld98_8 : tFld Try.prog 98 8 = some (8, 95) := by kernel_rfl
theorem tFld98_9 : tFld Try.prog 98 9 = some (9, 96) := by kernel_rfl
theorem tFld98_10 : tFld Try.prog 98 10 = some (10, 97) := by kernel_rfl
theorem tGuard98 : Try.prog.eqGuardType Try.prog.depth 98 = false := by kernel_rfl
end Go.Proofs.Ytpanbblbcnmadaa
