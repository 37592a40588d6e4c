/- The types of the program: how many cells, where the fields lie, their zeros; the functions that can be called. -/
import Derived.Test.YtijafcilfefafaaDoorProg
import Derived.Test.YtijafcilfefafaaDoorU28
namespace Go.Proofs.YtijafcilfefafaaDoor
open Go Go.U

theorem ts_0 : tySize Tryd.prog 0 = some 1 := by kernel_rfl
theorem zc_0 : zeroOf Tryd.prog 0 = some (.tuple #[]) := by kernel_rfl
theorem ti_0 : Tryd.prog.info? 0 = some Tryd.t0 := by kernel_rfl
theorem tz_0 : Tryd.t0.zero = some (.tuple #[]) := by kernel_rfl
theorem ag_1 : tyAgg Tryd.prog 1 = some none := by kernel_rfl
theorem ts_1 : tySize Tryd.prog 1 = some 1 := by kernel_rfl
theorem zc_1 : zeroOf Tryd.prog 1 = some (.nilFunc) := by kernel_rfl
theorem ti_1 : Tryd.prog.info? 1 = some Tryd.t1 := by kernel_rfl
theorem tz_1 : Tryd.t1.zero = some (.nilFunc) := by kernel_rfl
theorem ag_2 : tyAgg Tryd.prog 2 = some none := by kernel_rfl
theorem ts_2 : tySize Tryd.prog 2 = some 1 := by kernel_rfl
theorem zc_2 : zeroOf Tryd.prog 2 = some (.int .i64 0) := by kernel_rfl
theorem ti_2 : Tryd.prog.info? 2 = some Tryd.t2 := by kernel_rfl
theorem tz_2 : Tryd.t2.zero = some (.int .i64 0) := by kernel_rfl
theorem ag_3 : tyAgg Tryd.prog 3 = some none := by kernel_rfl
theorem ts_3 : tySize Tryd.prog 3 = some 1 := by kernel_rfl
theorem zc_3 : zeroOf Tryd.prog 3 = some (.int .i64 0) := by kernel_rfl
theorem ti_3 : Tryd.prog.info? 3 = some Tryd.t3 := by kernel_rfl
theorem tz_3 : Tryd.t3.zero = some (.int .i64 0) := by kernel_rfl
theorem ag_4 : tyAgg Tryd.prog 4 = some none := by kernel_rfl
theorem ts_4 : tySize Tryd.prog 4 = some 1 := by kernel_rfl
theorem zc_4 : zeroOf Tryd.prog 4 = some (.bool false) := by kernel_rfl
theorem ti_4 : Tryd.prog.info? 4 = some Tryd.t4 := by kernel_rfl
theorem tz_4 : Tryd.t4.zero = some (.bool false) := by kernel_rfl
theorem ag_5 : tyAgg Tryd.prog 5 = some none := by kernel_rfl
theorem ts_5 : tySize Tryd.prog 5 = some 1 := by kernel_rfl
theorem zc_5 : zeroOf Tryd.prog 5 = some (.int .u8 0) := by kernel_rfl
theorem ti_5 : Tryd.prog.info? 5 = some Tryd.t5 := by kernel_rfl
theorem tz_5 : Tryd.t5.zero = some (.int .u8 0) := by kernel_rfl
theorem ag_6 : tyAgg Tryd.prog 6 = some none := by kernel_rfl
theorem ts_6 : tySize Tryd.prog 6 = some 1 := by kernel_rfl
theorem zc_6 : zeroOf Tryd.prog 6 = some (.int .u8 0) := by kernel_rfl
theorem ti_6 : Tryd.prog.info? 6 = some Tryd.t6 := by kernel_rfl
theorem tz_6 : Tryd.t6.zero = some (.int .u8 0) := by kernel_rfl
theorem ag_7 : tyAgg Tryd.prog 7 = some (some 4) := by kernel_rfl
theorem ts_7 : tySize Tryd.prog 7 = some 4 := by kernel_rfl
theorem fo_7_0 : fldOff Tryd.prog 7 0 = some 0 := by kernel_rfl
theorem fo_7_1 : fldOff Tryd.prog 7 1 = some 1 := by kernel_rfl
theorem fo_7_2 : fldOff Tryd.prog 7 2 = some 2 := by kernel_rfl
theorem fo_7_3 : fldOff Tryd.prog 7 3 = some 3 := by kernel_rfl
theorem zc_7 : zeroOf Tryd.prog 7 = some (.agg #[.int .i64 0, .int .i64 0, .bool false, .int .u8 0]) := by kernel_rfl
theorem ti_7 : Tryd.prog.info? 7 = some Tryd.t7 := by kernel_rfl
theorem tz_7 : Tryd.t7.zero = some (.agg #[.int .i64 0, .int .i64 0, .bool false, .int .u8 0]) := by kernel_rfl
theorem bu_7 : BuTy Tryd.prog 7 [(0, 1), (1, 1), (2, 1), (3, 1)] [.int .i64 0, .int .i64 0, .bool false, .int .u8 0] := ⟨_, _, Tryd.underlying7, zc_7, rfl, by kernel_rfl⟩
theorem ag_8 : tyAgg Tryd.prog 8 = some (some 4) := by kernel_rfl
theorem ts_8 : tySize Tryd.prog 8 = some 4 := by kernel_rfl
theorem fo_8_0 : fldOff Tryd.prog 8 0 = some 0 := by kernel_rfl
theorem fo_8_1 : fldOff Tryd.prog 8 1 = some 1 := by kernel_rfl
theorem fo_8_2 : fldOff Tryd.prog 8 2 = some 2 := by kernel_rfl
theorem fo_8_3 : fldOff Tryd.prog 8 3 = some 3 := by kernel_rfl
theorem zc_8 : zeroOf Tryd.prog 8 = some (.agg #[.int .i64 0, .int .i64 0, .bool false, .int .u8 0]) := by kernel_rfl
theorem ti_8 : Tryd.prog.info? 8 = some Tryd.t8 := by kernel_rfl
theorem tz_8 : Tryd.t8.zero = some (.agg #[.int .i64 0, .int .i64 0, .bool false, .int .u8 0]) := by kernel_rfl
theorem bu_8 : BuTy Tryd.prog 8 [(0, 1), (1, 1), (2, 1), (3, 1)] [.int .i64 0, .int .i64 0, .bool false, .int .u8 0] := ⟨_, _, Tryd.underlying8, zc_8, rfl, by kernel_rfl⟩
theorem ag_9 : tyAgg Tryd.prog 9 = some none := by kernel_rfl
theorem ts_9 : tySize Tryd.prog 9 = some 1 := by kernel_rfl
theorem zc_9 : zeroOf Tryd.prog 9 = some (.string ByteArray.empty) := by kernel_rfl
theorem ti_9 : Tryd.prog.info? 9 = some Tryd.t9 := by kernel_rfl
theorem tz_9 : Tryd.t9.zero = some (.string ByteArray.empty) := by kernel_rfl
theorem ag_10 : tyAgg Tryd.prog 10 = some none := by kernel_rfl
theorem ts_10 : tySize Tryd.prog 10 = some 1 := by kernel_rfl
theorem zc_10 : zeroOf Tryd.prog 10 = some (.string ByteArray.empty) := by kernel_rfl
theorem ti_10 : Tryd.prog.info? 10 = some Tryd.t10 := by kernel_rfl
theorem tz_10 : Tryd.t10.zero = some (.string ByteArray.empty) := by kernel_rfl
theorem ag_11 : tyAgg Tryd.prog 11 = some none := by kernel_rfl
theorem ts_11 : tySize Tryd.prog 11 = some 1 := by kernel_rfl
theorem zc_11 : zeroOf Tryd.prog 11 = some (.string ByteArray.empty) := by kernel_rfl
theorem ti_11 : Tryd.prog.info? 11 = some Tryd.t11 := by kernel_rfl
theorem tz_11 : Tryd.t11.zero = some (.string ByteArray.empty) := by kernel_rfl
theorem ag_12 : tyAgg Tryd.prog 12 = some none := by kernel_rfl
theorem ts_12 : tySize Tryd.prog 12 = some 1 := by kernel_rfl
theorem zc_12 : zeroOf Tryd.prog 12 = some (.int .u64 0) := by kernel_rfl
theorem ti_12 : Tryd.prog.info? 12 = some Tryd.t12 := by kernel_rfl
theorem tz_12 : Tryd.t12.zero = some (.int .u64 0) := by kernel_rfl
theorem ag_13 : tyAgg Tryd.prog 13 = some (some 2) := by kernel_rfl
theorem ts_13 : tySize Tryd.prog 13 = some 2 := by kernel_rfl
theorem fo_13_0 : fldOff Tryd.prog 13 0 = some 0 := by kernel_rfl
theorem fo_13_1 : fldOff Tryd.prog 13 1 = some 1 := by kernel_rfl
theorem zc_13 : zeroOf Tryd.prog 13 = some (.agg #[.string ByteArray.empty, .int .u64 0]) := by kernel_rfl
theorem ti_13 : Tryd.prog.info? 13 = some Tryd.t13 := by kernel_rfl
theorem tz_13 : Tryd.t13.zero = some (.agg #[.string ByteArray.empty, .int .u64 0]) := by kernel_rfl
theorem bu_13 : BuTy Tryd.prog 13 [(0, 1), (1, 1)] [.string ByteArray.empty, .int .u64 0] := ⟨_, _, Tryd.underlying13, zc_13, rfl, by kernel_rfl⟩
theorem ag_14 : tyAgg Tryd.prog 14 = some (some 2) := by kernel_rfl
theorem ts_14 : tySize Tryd.prog 14 = some 2 := by kernel_rfl
theorem fo_14_0 : fldOff Tryd.prog 14 0 = some 0 := by kernel_rfl
theorem fo_14_1 : fldOff Tryd.prog 14 1 = some 1 := by kernel_rfl
theorem zc_14 : zeroOf Tryd.prog 14 = some (.agg #[.string ByteArray.empty, .int .u64 0]) := by kernel_rfl
theorem ti_14 : Tryd.prog.info? 14 = some Tryd.t14 := by kernel_rfl
theorem tz_14 : Tryd.t14.zero = some (.agg #[.string ByteArray.empty, .int .u64 0]) := by kernel_rfl
theorem bu_14 : BuTy Tryd.prog 14 [(0, 1), (1, 1)] [.string ByteArray.empty, .int .u64 0] := ⟨_, _, Tryd.underlying14, zc_14, rfl, by kernel_rfl⟩
theorem ag_15 : tyAgg Tryd.prog 15 = some none := by kernel_rfl
theorem ts_15 : tySize Tryd.prog 15 = some 1 := by kernel_rfl
theorem zc_15 : zeroOf Tryd.prog 15 = some (.pointer none) := by kernel_rfl
theorem ti_15 : Tryd.prog.info? 15 = some Tryd.t15 := by kernel_rfl
theorem tz_15 : Tryd.t15.zero = some (.pointer none) := by kernel_rfl
theorem ag_16 : tyAgg Tryd.prog 16 = some none := by kernel_rfl
theorem ts_16 : tySize Tryd.prog 16 = some 1 := by kernel_rfl
theorem zc_16 : zeroOf Tryd.prog 16 = some (.pointer none) := by kernel_rfl
theorem ti_16 : Tryd.prog.info? 16 = some Tryd.t16 := by kernel_rfl
theorem tz_16 : Tryd.t16.zero = some (.pointer none) := by kernel_rfl
theorem ag_17 : tyAgg Tryd.prog 17 = some none := by kernel_rfl
theorem ts_17 : tySize Tryd.prog 17 = some 1 := by kernel_rfl
theorem zc_17 : zeroOf Tryd.prog 17 = some (.pointer none) := by kernel_rfl
theorem ti_17 : Tryd.prog.info? 17 = some Tryd.t17 := by kernel_rfl
theorem tz_17 : Tryd.t17.zero = some (.pointer none) := by kernel_rfl
theorem ag_18 : tyAgg Tryd.prog 18 = some (some 1) := by kernel_rfl
theorem ts_18 : tySize Tryd.prog 18 = some 1 := by kernel_rfl
theorem fo_18_0 : fldOff Tryd.prog 18 0 = some 0 := by kernel_rfl
theorem zc_18 : zeroOf Tryd.prog 18 = some (.agg #[.pointer none]) := by kernel_rfl
theorem ti_18 : Tryd.prog.info? 18 = some Tryd.t18 := by kernel_rfl
theorem tz_18 : Tryd.t18.zero = some (.agg #[.pointer none]) := by kernel_rfl
theorem bu_18 : BuTy Tryd.prog 18 [(0, 1)] [.pointer none] := ⟨_, _, Tryd.underlying18, zc_18, rfl, by kernel_rfl⟩
theorem ag_19 : tyAgg Tryd.prog 19 = some (some 1) := by kernel_rfl
theorem ts_19 : tySize Tryd.prog 19 = some 1 := by kernel_rfl
theorem fo_19_0 : fldOff Tryd.prog 19 0 = some 0 := by kernel_rfl
theorem zc_19 : zeroOf Tryd.prog 19 = some (.agg #[.pointer none]) := by kernel_rfl
theorem ti_19 : Tryd.prog.info? 19 = some Tryd.t19 := by kernel_rfl
theorem tz_19 : Tryd.t19.zero = some (.agg #[.pointer none]) := by kernel_rfl
theorem bu_19 : BuTy Tryd.prog 19 [(0, 1)] [.pointer none] := ⟨_, _, Tryd.underlying19, zc_19, rfl, by kernel_rfl⟩
theorem ag_20 : tyAgg Tryd.prog 20 = some none := by kernel_rfl
theorem ts_20 : tySize Tryd.prog 20 = some 1 := by kernel_rfl
theorem zc_20 : zeroOf Tryd.prog 20 = some (.nilIface) := by kernel_rfl
theorem ti_20 : Tryd.prog.info? 20 = some Tryd.t20 := by kernel_rfl
theorem tz_20 : Tryd.t20.zero = some (.nilIface) := by kernel_rfl
theorem ag_21 : tyAgg Tryd.prog 21 = some none := by kernel_rfl
theorem ts_21 : tySize Tryd.prog 21 = some 1 := by kernel_rfl
theorem zc_21 : zeroOf Tryd.prog 21 = some (.int .i32 0) := by kernel_rfl
theorem ti_21 : Tryd.prog.info? 21 = some Tryd.t21 := by kernel_rfl
theorem tz_21 : Tryd.t21.zero = some (.int .i32 0) := by kernel_rfl
theorem ag_22 : tyAgg Tryd.prog 22 = some none := by kernel_rfl
theorem ts_22 : tySize Tryd.prog 22 = some 1 := by kernel_rfl
theorem sz_22 : slSize Tryd.prog 22 = some 2 := by kernel_rfl
theorem st_22 : SlTy Tryd.prog 22 31 2 16 := ⟨Tryd.underlying22, ⟨_, _, (by kernel_rfl : Tryd.prog.info? 31 = some Tryd.t31), (by kernel_rfl : Tryd.t31.zero = some (.agg #[.int .i64 0, .int .i64 0])), by kernel_rfl, by kernel_rfl, by kernel_rfl⟩, by decide⟩
theorem zc_22 : zeroOf Tryd.prog 22 = some (.slice none 0 0) := by kernel_rfl
theorem ti_22 : Tryd.prog.info? 22 = some Tryd.t22 := by kernel_rfl
theorem tz_22 : Tryd.t22.zero = some (.slice none 0 0) := by kernel_rfl
theorem ag_23 : tyAgg Tryd.prog 23 = some none := by kernel_rfl
theorem ts_23 : tySize Tryd.prog 23 = some 1 := by kernel_rfl
theorem sz_23 : slSize Tryd.prog 23 = some 8 := by kernel_rfl
theorem st_23 : SlTy Tryd.prog 23 34 8 64 := ⟨Tryd.underlying23, ⟨_, _, (by kernel_rfl : Tryd.prog.info? 34 = some Tryd.t34), (by kernel_rfl : Tryd.t34.zero = some (.agg #[.int .i64 0, .int .i64 0, .int .i64 0, .int .i64 0, .int .i64 0, .int .i64 0, .int .i64 0, .int .i64 0])), by kernel_rfl, by kernel_rfl, by kernel_rfl⟩, by decide⟩
theorem zc_23 : zeroOf Tryd.prog 23 = some (.slice none 0 0) := by kernel_rfl
theorem ti_23 : Tryd.prog.info? 23 = some Tryd.t23 := by kernel_rfl
theorem tz_23 : Tryd.t23.zero = some (.slice none 0 0) := by kernel_rfl
theorem ag_24 : tyAgg Tryd.prog 24 = some (some 2) := by kernel_rfl
theorem ts_24 : tySize Tryd.prog 24 = some 2 := by kernel_rfl
theorem fo_24_0 : fldOff Tryd.prog 24 0 = some 0 := by kernel_rfl
theorem fo_24_1 : fldOff Tryd.prog 24 1 = some 1 := by kernel_rfl
theorem zc_24 : zeroOf Tryd.prog 24 = some (.agg #[.slice none 0 0, .slice none 0 0]) := by kernel_rfl
theorem ti_24 : Tryd.prog.info? 24 = some Tryd.t24 := by kernel_rfl
theorem tz_24 : Tryd.t24.zero = some (.agg #[.slice none 0 0, .slice none 0 0]) := by kernel_rfl
theorem bu_24 : BuTy Tryd.prog 24 [(0, 1), (1, 1)] [.slice none 0 0, .slice none 0 0] := ⟨_, _, Tryd.underlying24, zc_24, rfl, by kernel_rfl⟩
theorem ag_25 : tyAgg Tryd.prog 25 = some (some 2) := by kernel_rfl
theorem ts_25 : tySize Tryd.prog 25 = some 2 := by kernel_rfl
theorem fo_25_0 : fldOff Tryd.prog 25 0 = some 0 := by kernel_rfl
theorem fo_25_1 : fldOff Tryd.prog 25 1 = some 1 := by kernel_rfl
theorem zc_25 : zeroOf Tryd.prog 25 = some (.agg #[.slice none 0 0, .slice none 0 0]) := by kernel_rfl
theorem ti_25 : Tryd.prog.info? 25 = some Tryd.t25 := by kernel_rfl
theorem tz_25 : Tryd.t25.zero = some (.agg #[.slice none 0 0, .slice none 0 0]) := by kernel_rfl
theorem bu_25 : BuTy Tryd.prog 25 [(0, 1), (1, 1)] [.slice none 0 0, .slice none 0 0] := ⟨_, _, Tryd.underlying25, zc_25, rfl, by kernel_rfl⟩
theorem ag_26 : tyAgg Tryd.prog 26 = some none := by kernel_rfl
theorem ts_26 : tySize Tryd.prog 26 = some 1 := by kernel_rfl
theorem sz_26 : slSize Tryd.prog 26 = some 1 := by kernel_rfl
theorem st_26 : SlTy Tryd.prog 26 3 1 8 := ⟨Tryd.underlying26, ⟨_, _, (by kernel_rfl : Tryd.prog.info? 3 = some Tryd.t3), (by kernel_rfl : Tryd.t3.zero = some (.int .i64 0)), by kernel_rfl, by kernel_rfl, by kernel_rfl⟩, by decide⟩
theorem zc_26 : zeroOf Tryd.prog 26 = some (.slice none 0 0) := by kernel_rfl
theorem ti_26 : Tryd.prog.info? 26 = some Tryd.t26 := by kernel_rfl
theorem tz_26 : Tryd.t26.zero = some (.slice none 0 0) := by kernel_rfl
theorem ag_27 : tyAgg Tryd.prog 27 = some none := by kernel_rfl
theorem ts_27 : tySize Tryd.prog 27 = some 1 := by kernel_rfl
theorem zc_27 : zeroOf Tryd.prog 27 = some (.nilFunc) := by kernel_rfl
theorem ti_27 : Tryd.prog.info? 27 = some Tryd.t27 := by kernel_rfl
theorem tz_27 : Tryd.t27.zero = some (.nilFunc) := by kernel_rfl
theorem ag_28 : tyAgg Tryd.prog 28 = some none := by kernel_rfl
theorem ts_28 : tySize Tryd.prog 28 = some 1 := by kernel_rfl
theorem zc_28 : zeroOf Tryd.prog 28 = some (.nilFunc) := by kernel_rfl
theorem ti_28 : Tryd.prog.info? 28 = some Tryd.t28 := by kernel_rfl
theorem tz_28 : Tryd.t28.zero = some (.nilFunc) := by kernel_rfl
theorem ag_29 : tyAgg Tryd.prog 29 = some none := by kernel_rfl
theorem ts_29 : tySize Tryd.prog 29 = some 1 := by kernel_rfl
theorem zc_29 : zeroOf Tryd.prog 29 = some (.nilFunc) := by kernel_rfl
theorem ti_29 : Tryd.prog.info? 29 = some Tryd.t29 := by kernel_rfl
theorem tz_29 : Tryd.t29.zero = some (.nilFunc) := by kernel_rfl
theorem ag_30 : tyAgg Tryd.prog 30 = some (some 2) := by kernel_rfl
theorem ts_30 : tySize Tryd.prog 30 = some 2 := by kernel_rfl
theorem fo_30_0 : fldOff Tryd.prog 30 0 = some 0 := by kernel_rfl
theorem fo_30_1 : fldOff Tryd.prog 30 1 = some 1 := by kernel_rfl
theorem zc_30 : zeroOf Tryd.prog 30 = some (.agg #[.int .i64 0, .int .i64 0]) := by kernel_rfl
theorem ti_30 : Tryd.prog.info? 30 = some Tryd.t30 := by kernel_rfl
theorem tz_30 : Tryd.t30.zero = some (.agg #[.int .i64 0, .int .i64 0]) := by kernel_rfl
theorem bu_30 : BuTy Tryd.prog 30 [(0, 1), (1, 1)] [.int .i64 0, .int .i64 0] := ⟨_, _, Tryd.underlying30, zc_30, rfl, by kernel_rfl⟩
theorem ag_31 : tyAgg Tryd.prog 31 = some (some 2) := by kernel_rfl
theorem ts_31 : tySize Tryd.prog 31 = some 2 := by kernel_rfl
theorem fo_31_0 : fldOff Tryd.prog 31 0 = some 0 := by kernel_rfl
theorem fo_31_1 : fldOff Tryd.prog 31 1 = some 1 := by kernel_rfl
theorem zc_31 : zeroOf Tryd.prog 31 = some (.agg #[.int .i64 0, .int .i64 0]) := by kernel_rfl
theorem ti_31 : Tryd.prog.info? 31 = some Tryd.t31 := by kernel_rfl
theorem tz_31 : Tryd.t31.zero = some (.agg #[.int .i64 0, .int .i64 0]) := by kernel_rfl
theorem bu_31 : BuTy Tryd.prog 31 [(0, 1), (1, 1)] [.int .i64 0, .int .i64 0] := ⟨_, _, Tryd.underlying31, zc_31, rfl, by kernel_rfl⟩
theorem ag_32 : tyAgg Tryd.prog 32 = some none := by kernel_rfl
theorem ts_32 : tySize Tryd.prog 32 = some 1 := by kernel_rfl
theorem zc_32 : zeroOf Tryd.prog 32 = some (.nilFunc) := by kernel_rfl
theorem ti_32 : Tryd.prog.info? 32 = some Tryd.t32 := by kernel_rfl
theorem tz_32 : Tryd.t32.zero = some (.nilFunc) := by kernel_rfl
theorem ag_33 : tyAgg Tryd.prog 33 = some (some 8) := by kernel_rfl
theorem ts_33 : tySize Tryd.prog 33 = some 8 := by kernel_rfl
theorem fo_33_0 : fldOff Tryd.prog 33 0 = some 0 := by kernel_rfl
theorem fo_33_1 : fldOff Tryd.prog 33 1 = some 1 := by kernel_rfl
theorem fo_33_2 : fldOff Tryd.prog 33 2 = some 2 := by kernel_rfl
theorem fo_33_3 : fldOff Tryd.prog 33 3 = some 3 := by kernel_rfl
theorem fo_33_4 : fldOff Tryd.prog 33 4 = some 4 := by kernel_rfl
theorem fo_33_5 : fldOff Tryd.prog 33 5 = some 5 := by kernel_rfl
theorem fo_33_6 : fldOff Tryd.prog 33 6 = some 6 := by kernel_rfl
theorem fo_33_7 : fldOff Tryd.prog 33 7 = some 7 := by kernel_rfl
theorem zc_33 : zeroOf Tryd.prog 33 = some (.agg #[.int .i64 0, .int .i64 0, .int .i64 0, .int .i64 0, .int .i64 0, .int .i64 0, .int .i64 0, .int .i64 0]) := by kernel_rfl
theorem ti_33 : Tryd.prog.info? 33 = some Tryd.t33 := by kernel_rfl
theorem tz_33 : Tryd.t33.zero = some (.agg #[.int .i64 0, .int .i64 0, .int .i64 0, .int .i64 0, .int .i64 0, .int .i64 0, .int .i64 0, .int .i64 0]) := by kernel_rfl
theorem bu_33 : BuTy Tryd.prog 33 [(0, 1), (1, 1), (2, 1), (3, 1), (4, 1), (5, 1), (6, 1), (7, 1)] [.int .i64 0, .int .i64 0, .int .i64 0, .int .i64 0, .int .i64 0, .int .i64 0, .int .i64 0, .int .i64 0] := ⟨_, _, Tryd.underlying33, zc_33, rfl, by kernel_rfl⟩
theorem ag_34 : tyAgg Tryd.prog 34 = some (some 8) := by kernel_rfl
theorem ts_34 : tySize Tryd.prog 34 = some 8 := by kernel_rfl
theorem fo_34_0 : fldOff Tryd.prog 34 0 = some 0 := by kernel_rfl
theorem fo_34_1 : fldOff Tryd.prog 34 1 = some 1 := by kernel_rfl
theorem fo_34_2 : fldOff Tryd.prog 34 2 = some 2 := by kernel_rfl
theorem fo_34_3 : fldOff Tryd.prog 34 3 = some 3 := by kernel_rfl
theorem fo_34_4 : fldOff Tryd.prog 34 4 = some 4 := by kernel_rfl
theorem fo_34_5 : fldOff Tryd.prog 34 5 = some 5 := by kernel_rfl
theorem fo_34_6 : fldOff Tryd.prog 34 6 = some 6 := by kernel_rfl
theorem fo_34_7 : fldOff Tryd.prog 34 7 = some 7 := by kernel_rfl
theorem zc_34 : zeroOf Tryd.prog 34 = some (.agg #[.int .i64 0, .int .i64 0, .int .i64 0, .int .i64 0, .int .i64 0, .int .i64 0, .int .i64 0, .int .i64 0]) := by kernel_rfl
theorem ti_34 : Tryd.prog.info? 34 = some Tryd.t34 := by kernel_rfl
theorem tz_34 : Tryd.t34.zero = some (.agg #[.int .i64 0, .int .i64 0, .int .i64 0, .int .i64 0, .int .i64 0, .int .i64 0, .int .i64 0, .int .i64 0]) := by kernel_rfl
theorem bu_34 : BuTy Tryd.prog 34 [(0, 1), (1, 1), (2, 1), (3, 1), (4, 1), (5, 1), (6, 1), (7, 1)] [.int .i64 0, .int .i64 0, .int .i64 0, .int .i64 0, .int .i64 0, .int .i64 0, .int .i64 0, .int .i64 0] := ⟨_, _, Tryd.underlying34, zc_34, rfl, by kernel_rfl⟩
theorem ag_35 : tyAgg Tryd.prog 35 = some none := by kernel_rfl
theorem ts_35 : tySize Tryd.prog 35 = some 1 := by kernel_rfl
theorem zc_35 : zeroOf Tryd.prog 35 = some (.nilFunc) := by kernel_rfl
theorem ti_35 : Tryd.prog.info? 35 = some Tryd.t35 := by kernel_rfl
theorem tz_35 : Tryd.t35.zero = some (.nilFunc) := by kernel_rfl
theorem ag_36 : tyAgg Tryd.prog 36 = some none := by kernel_rfl
theorem ts_36 : tySize Tryd.prog 36 = some 1 := by kernel_rfl
theorem zc_36 : zeroOf Tryd.prog 36 = some (.nilFunc) := by kernel_rfl
theorem ti_36 : Tryd.prog.info? 36 = some Tryd.t36 := by kernel_rfl
theorem tz_36 : Tryd.t36.zero = some (.nilFunc) := by kernel_rfl
theorem ag_37 : tyAgg Tryd.prog 37 = some none := by kernel_rfl
theorem ts_37 : tySize Tryd.prog 37 = some 1 := by kernel_rfl
theorem zc_37 : zeroOf Tryd.prog 37 = some (.nilFunc) := by kernel_rfl
theorem ti_37 : Tryd.prog.info? 37 = some Tryd.t37 := by kernel_rfl
theorem tz_37 : Tryd.t37.zero = some (.nilFunc) := by kernel_rfl
theorem ag_38 : tyAgg Tryd.prog 38 = some none := by kernel_rfl
theorem ts_38 : tySize Tryd.prog 38 = some 1 := by kernel_rfl
theorem zc_38 : zeroOf Tryd.prog 38 = some (.nilFunc) := by kernel_rfl
theorem ti_38 : Tryd.prog.info? 38 = some Tryd.t38 := by kernel_rfl
theorem tz_38 : Tryd.t38.zero = some (.nilFunc) := by kernel_rfl
theorem ag_39 : tyAgg Tryd.prog 39 = some none := by kernel_rfl
theorem ts_39 : tySize Tryd.prog 39 = some 1 := by kernel_rfl
theorem zc_39 : zeroOf Tryd.prog 39 = some (.nilFunc) := by kernel_rfl
theorem ti_39 : Tryd.prog.info? 39 = some Tryd.t39 := by kernel_rfl
theorem tz_39 : Tryd.t39.zero = some (.nilFunc) := by kernel_rfl
theorem ag_40 : tyAgg Tryd.prog 40 = some none := by kernel_rfl
theorem ts_40 : tySize Tryd.prog 40 = some 1 := by kernel_rfl
theorem zc_40 : zeroOf Tryd.prog 40 = some (.nilFunc) := by kernel_rfl
theorem ti_40 : Tryd.prog.info? 40 = some Tryd.t40 := by kernel_rfl
theorem tz_40 : Tryd.t40.zero = some (.nilFunc) := by kernel_rfl
theorem ag_41 : tyAgg Tryd.prog 41 = some none := by kernel_rfl
theorem ts_41 : tySize Tryd.prog 41 = some 1 := by kernel_rfl
theorem zc_41 : zeroOf Tryd.prog 41 = some (.nilFunc) := by kernel_rfl
theorem ti_41 : Tryd.prog.info? 41 = some Tryd.t41 := by kernel_rfl
theorem tz_41 : Tryd.t41.zero = some (.nilFunc) := by kernel_rfl
theorem ag_42 : tyAgg Tryd.prog 42 = some none := by kernel_rfl
theorem ts_42 : tySize Tryd.prog 42 = some 1 := by kernel_rfl
theorem zc_42 : zeroOf Tryd.prog 42 = some (.nilIface) := by kernel_rfl
theorem ti_42 : Tryd.prog.info? 42 = some Tryd.t42 := by kernel_rfl
theorem tz_42 : Tryd.t42.zero = some (.nilIface) := by kernel_rfl
theorem ag_43 : tyAgg Tryd.prog 43 = some none := by kernel_rfl
theorem ts_43 : tySize Tryd.prog 43 = some 1 := by kernel_rfl
theorem zc_43 : zeroOf Tryd.prog 43 = some (.nilIface) := by kernel_rfl
theorem ti_43 : Tryd.prog.info? 43 = some Tryd.t43 := by kernel_rfl
theorem tz_43 : Tryd.t43.zero = some (.nilIface) := by kernel_rfl
theorem ts_44 : tySize Tryd.prog 44 = some 1 := by kernel_rfl
theorem zc_44 : zeroOf Tryd.prog 44 = some (.tuple #[.agg #[.slice none 0 0, .slice none 0 0], .nilIface]) := by kernel_rfl
theorem ti_44 : Tryd.prog.info? 44 = some Tryd.t44 := by kernel_rfl
theorem tz_44 : Tryd.t44.zero = some (.tuple #[.agg #[.slice none 0 0, .slice none 0 0], .nilIface]) := by kernel_rfl
theorem ag_45 : tyAgg Tryd.prog 45 = some none := by kernel_rfl
theorem ts_45 : tySize Tryd.prog 45 = some 1 := by kernel_rfl
theorem zc_45 : zeroOf Tryd.prog 45 = some (.nilFunc) := by kernel_rfl
theorem ti_45 : Tryd.prog.info? 45 = some Tryd.t45 := by kernel_rfl
theorem tz_45 : Tryd.t45.zero = some (.nilFunc) := by kernel_rfl
theorem ag_46 : tyAgg Tryd.prog 46 = some none := by kernel_rfl
theorem ts_46 : tySize Tryd.prog 46 = some 1 := by kernel_rfl
theorem zc_46 : zeroOf Tryd.prog 46 = some (.nilFunc) := by kernel_rfl
theorem ti_46 : Tryd.prog.info? 46 = some Tryd.t46 := by kernel_rfl
theorem tz_46 : Tryd.t46.zero = some (.nilFunc) := by kernel_rfl
theorem ag_47 : tyAgg Tryd.prog 47 = some none := by kernel_rfl
theorem ts_47 : tySize Tryd.prog 47 = some 1 := by kernel_rfl
theorem zc_47 : zeroOf Tryd.prog 47 = some (.nilFunc) := by kernel_rfl
theorem ti_47 : Tryd.prog.info? 47 = some Tryd.t47 := by kernel_rfl
theorem tz_47 : Tryd.t47.zero = some (.nilFunc) := by kernel_rfl
theorem ag_48 : tyAgg Tryd.prog 48 = some none := by kernel_rfl
theorem ts_48 : tySize Tryd.prog 48 = some 1 := by kernel_rfl
theorem zc_48 : zeroOf Tryd.prog 48 = some (.nilFunc) := by kernel_rfl
theorem ti_48 : Tryd.prog.info? 48 = some Tryd.t48 := by kernel_rfl
theorem tz_48 : Tryd.t48.zero = some (.nilFunc) := by kernel_rfl
theorem ag_49 : tyAgg Tryd.prog 49 = some none := by kernel_rfl
theorem ts_49 : tySize Tryd.prog 49 = some 1 := by kernel_rfl
theorem zc_49 : zeroOf Tryd.prog 49 = some (.nilFunc) := by kernel_rfl
theorem ti_49 : Tryd.prog.info? 49 = some Tryd.t49 := by kernel_rfl
theorem tz_49 : Tryd.t49.zero = some (.nilFunc) := by kernel_rfl
theorem ag_50 : tyAgg Tryd.prog 50 = some none := by kernel_rfl
theorem ts_50 : tySize Tryd.prog 50 = some 1 := by kernel_rfl
theorem zc_50 : zeroOf Tryd.prog 50 = some (.nilFunc) := by kernel_rfl
theorem ti_50 : Tryd.prog.info? 50 = some Tryd.t50 := by kernel_rfl
theorem tz_50 : Tryd.t50.zero = some (.nilFunc) := by kernel_rfl
theorem ag_51 : tyAgg Tryd.prog 51 = some none := by kernel_rfl
theorem ts_51 : tySize Tryd.prog 51 = some 1 := by kernel_rfl
theorem zc_51 : zeroOf Tryd.prog 51 = some (.nilFunc) := by kernel_rfl
theorem ti_51 : Tryd.prog.info? 51 = some Tryd.t51 := by kernel_rfl
theorem tz_51 : Tryd.t51.zero = some (.nilFunc) := by kernel_rfl
theorem ag_52 : tyAgg Tryd.prog 52 = some none := by kernel_rfl
theorem ts_52 : tySize Tryd.prog 52 = some 1 := by kernel_rfl
theorem zc_52 : zeroOf Tryd.prog 52 = some (.nilFunc) := by kernel_rfl
theorem ti_52 : Tryd.prog.info? 52 = some Tryd.t52 := by kernel_rfl
theorem tz_52 : Tryd.t52.zero = some (.nilFunc) := by kernel_rfl
theorem ag_53 : tyAgg Tryd.prog 53 = some none := by kernel_rfl
theorem ts_53 : tySize Tryd.prog 53 = some 1 := by kernel_rfl
theorem zc_53 : zeroOf Tryd.prog 53 = some (.nilFunc) := by kernel_rfl
theorem ti_53 : Tryd.prog.info? 53 = some Tryd.t53 := by kernel_rfl
theorem tz_53 : Tryd.t53.zero = some (.nilFunc) := by kernel_rfl
theorem ag_54 : tyAgg Tryd.prog 54 = some none := by kernel_rfl
theorem ts_54 : tySize Tryd.prog 54 = some 1 := by kernel_rfl
theorem zc_54 : zeroOf Tryd.prog 54 = some (.nilFunc) := by kernel_rfl
theorem ti_54 : Tryd.prog.info? 54 = some Tryd.t54 := by kernel_rfl
theorem tz_54 : Tryd.t54.zero = some (.nilFunc) := by kernel_rfl
theorem ag_55 : tyAgg Tryd.prog 55 = some none := by kernel_rfl
theorem ts_55 : tySize Tryd.prog 55 = some 1 := by kernel_rfl
theorem sz_55 : slSize Tryd.prog 55 = some 7 := by kernel_rfl
theorem st_55 : SlTy Tryd.prog 55 61 7 72 := ⟨Tryd.underlying55, ⟨_, _, (by kernel_rfl : Tryd.prog.info? 61 = some Tryd.t61), (by kernel_rfl : Tryd.t61.zero = some (.agg #[.int .i64 0, .int .i64 0, .int .i64 0, .int .i64 0, .int .i64 0, .int .i64 0, .slice none 0 0])), by kernel_rfl, by kernel_rfl, by kernel_rfl⟩, by decide⟩
theorem zc_55 : zeroOf Tryd.prog 55 = some (.slice none 0 0) := by kernel_rfl
theorem ti_55 : Tryd.prog.info? 55 = some Tryd.t55 := by kernel_rfl
theorem tz_55 : Tryd.t55.zero = some (.slice none 0 0) := by kernel_rfl
theorem ts_56 : tySize Tryd.prog 56 = some 1 := by kernel_rfl
theorem zc_56 : zeroOf Tryd.prog 56 = some (.tuple #[.slice none 0 0, .nilIface]) := by kernel_rfl
theorem ti_56 : Tryd.prog.info? 56 = some Tryd.t56 := by kernel_rfl
theorem tz_56 : Tryd.t56.zero = some (.tuple #[.slice none 0 0, .nilIface]) := by kernel_rfl
theorem ag_57 : tyAgg Tryd.prog 57 = some none := by kernel_rfl
theorem ts_57 : tySize Tryd.prog 57 = some 1 := by kernel_rfl
theorem zc_57 : zeroOf Tryd.prog 57 = some (.nilFunc) := by kernel_rfl
theorem ti_57 : Tryd.prog.info? 57 = some Tryd.t57 := by kernel_rfl
theorem tz_57 : Tryd.t57.zero = some (.nilFunc) := by kernel_rfl
theorem ag_58 : tyAgg Tryd.prog 58 = some none := by kernel_rfl
theorem ts_58 : tySize Tryd.prog 58 = some 1 := by kernel_rfl
theorem zc_58 : zeroOf Tryd.prog 58 = some (.nilFunc) := by kernel_rfl
theorem ti_58 : Tryd.prog.info? 58 = some Tryd.t58 := by kernel_rfl
theorem tz_58 : Tryd.t58.zero = some (.nilFunc) := by kernel_rfl
theorem ag_59 : tyAgg Tryd.prog 59 = some none := by kernel_rfl
theorem ts_59 : tySize Tryd.prog 59 = some 1 := by kernel_rfl
theorem sz_59 : slSize Tryd.prog 59 = some 8 := by kernel_rfl
theorem st_59 : SlTy Tryd.prog 59 72 8 64 := ⟨Tryd.underlying59, ⟨_, _, (by kernel_rfl : Tryd.prog.info? 72 = some Tryd.t72), (by kernel_rfl : Tryd.t72.zero = some (.agg #[.int .i64 0, .int .i64 0, .int .i64 0, .int .i64 0, .int .i64 0, .int .i64 0, .int .i64 0, .int .i64 0])), by kernel_rfl, by kernel_rfl, by kernel_rfl⟩, by decide⟩
theorem zc_59 : zeroOf Tryd.prog 59 = some (.slice none 0 0) := by kernel_rfl
theorem ti_59 : Tryd.prog.info? 59 = some Tryd.t59 := by kernel_rfl
theorem tz_59 : Tryd.t59.zero = some (.slice none 0 0) := by kernel_rfl
theorem ag_60 : tyAgg Tryd.prog 60 = some (some 7) := by kernel_rfl
theorem ts_60 : tySize Tryd.prog 60 = some 7 := by kernel_rfl
theorem fo_60_0 : fldOff Tryd.prog 60 0 = some 0 := by kernel_rfl
theorem fo_60_1 : fldOff Tryd.prog 60 1 = some 1 := by kernel_rfl
theorem fo_60_2 : fldOff Tryd.prog 60 2 = some 2 := by kernel_rfl
theorem fo_60_3 : fldOff Tryd.prog 60 3 = some 3 := by kernel_rfl
theorem fo_60_4 : fldOff Tryd.prog 60 4 = some 4 := by kernel_rfl
theorem fo_60_5 : fldOff Tryd.prog 60 5 = some 5 := by kernel_rfl
theorem fo_60_6 : fldOff Tryd.prog 60 6 = some 6 := by kernel_rfl
theorem zc_60 : zeroOf Tryd.prog 60 = some (.agg #[.int .i64 0, .int .i64 0, .int .i64 0, .int .i64 0, .int .i64 0, .int .i64 0, .slice none 0 0]) := by kernel_rfl
theorem ti_60 : Tryd.prog.info? 60 = some Tryd.t60 := by kernel_rfl
theorem tz_60 : Tryd.t60.zero = some (.agg #[.int .i64 0, .int .i64 0, .int .i64 0, .int .i64 0, .int .i64 0, .int .i64 0, .slice none 0 0]) := by kernel_rfl
theorem bu_60 : BuTy Tryd.prog 60 [(0, 1), (1, 1), (2, 1), (3, 1), (4, 1), (5, 1), (6, 1)] [.int .i64 0, .int .i64 0, .int .i64 0, .int .i64 0, .int .i64 0, .int .i64 0, .slice none 0 0] := ⟨_, _, Tryd.underlying60, zc_60, rfl, by kernel_rfl⟩
theorem ag_61 : tyAgg Tryd.prog 61 = some (some 7) := by kernel_rfl
theorem ts_61 : tySize Tryd.prog 61 = some 7 := by kernel_rfl
theorem fo_61_0 : fldOff Tryd.prog 61 0 = some 0 := by kernel_rfl
theorem fo_61_1 : fldOff Tryd.prog 61 1 = some 1 := by kernel_rfl
theorem fo_61_2 : fldOff Tryd.prog 61 2 = some 2 := by kernel_rfl
theorem fo_61_3 : fldOff Tryd.prog 61 3 = some 3 := by kernel_rfl
theorem fo_61_4 : fldOff Tryd.prog 61 4 = some 4 := by kernel_rfl
theorem fo_61_5 : fldOff Tryd.prog 61 5 = some 5 := by kernel_rfl
theorem fo_61_6 : fldOff Tryd.prog 61 6 = some 6 := by kernel_rfl
theorem zc_61 : zeroOf Tryd.prog 61 = some (.agg #[.int .i64 0, .int .i64 0, .int .i64 0, .int .i64 0, .int .i64 0, .int .i64 0, .slice none 0 0]) := by kernel_rfl
theorem ti_61 : Tryd.prog.info? 61 = some Tryd.t61 := by kernel_rfl
theorem tz_61 : Tryd.t61.zero = some (.agg #[.int .i64 0, .int .i64 0, .int .i64 0, .int .i64 0, .int .i64 0, .int .i64 0, .slice none 0 0]) := by kernel_rfl
theorem bu_61 : BuTy Tryd.prog 61 [(0, 1), (1, 1), (2, 1), (3, 1), (4, 1), (5, 1), (6, 1)] [.int .i64 0, .int .i64 0, .int .i64 0, .int .i64 0, .int .i64 0, .int .i64 0, .slice none 0 0] := ⟨_, _, Tryd.underlying61, zc_61, rfl, by kernel_rfl⟩
theorem ag_62 : tyAgg Tryd.prog 62 = some none := by kernel_rfl
theorem ts_62 : tySize Tryd.prog 62 = some 1 := by kernel_rfl
theorem zc_62 : zeroOf Tryd.prog 62 = some (.nilFunc) := by kernel_rfl
theorem ti_62 : Tryd.prog.info? 62 = some Tryd.t62 := by kernel_rfl
theorem tz_62 : Tryd.t62.zero = some (.nilFunc) := by kernel_rfl
theorem ag_63 : tyAgg Tryd.prog 63 = some none := by kernel_rfl
theorem ts_63 : tySize Tryd.prog 63 = some 1 := by kernel_rfl
theorem zc_63 : zeroOf Tryd.prog 63 = some (.nilFunc) := by kernel_rfl
theorem ti_63 : Tryd.prog.info? 63 = some Tryd.t63 := by kernel_rfl
theorem tz_63 : Tryd.t63.zero = some (.nilFunc) := by kernel_rfl
theorem ag_64 : tyAgg Tryd.prog 64 = some none := by kernel_rfl
theorem ts_64 : tySize Tryd.prog 64 = some 1 := by kernel_rfl
theorem zc_64 : zeroOf Tryd.prog 64 = some (.nilFunc) := by kernel_rfl
theorem ti_64 : Tryd.prog.info? 64 = some Tryd.t64 := by kernel_rfl
theorem tz_64 : Tryd.t64.zero = some (.nilFunc) := by kernel_rfl
theorem ag_65 : tyAgg Tryd.prog 65 = some none := by kernel_rfl
theorem ts_65 : tySize Tryd.prog 65 = some 1 := by kernel_rfl
theorem zc_65 : zeroOf Tryd.prog 65 = some (.nilFunc) := by kernel_rfl
theorem ti_65 : Tryd.prog.info? 65 = some Tryd.t65 := by kernel_rfl
theorem tz_65 : Tryd.t65.zero = some (.nilFunc) := by kernel_rfl
theorem ag_66 : tyAgg Tryd.prog 66 = some none := by kernel_rfl
theorem ts_66 : tySize Tryd.prog 66 = some 1 := by kernel_rfl
theorem zc_66 : zeroOf Tryd.prog 66 = some (.nilFunc) := by kernel_rfl
theorem ti_66 : Tryd.prog.info? 66 = some Tryd.t66 := by kernel_rfl
theorem tz_66 : Tryd.t66.zero = some (.nilFunc) := by kernel_rfl
theorem ag_67 : tyAgg Tryd.prog 67 = some none := by kernel_rfl
theorem ts_67 : tySize Tryd.prog 67 = some 1 := by kernel_rfl
theorem zc_67 : zeroOf Tryd.prog 67 = some (.nilFunc) := by kernel_rfl
theorem ti_67 : Tryd.prog.info? 67 = some Tryd.t67 := by kernel_rfl
theorem tz_67 : Tryd.t67.zero = some (.nilFunc) := by kernel_rfl
theorem ag_68 : tyAgg Tryd.prog 68 = some none := by kernel_rfl
theorem ts_68 : tySize Tryd.prog 68 = some 1 := by kernel_rfl
theorem zc_68 : zeroOf Tryd.prog 68 = some (.nilFunc) := by kernel_rfl
theorem ti_68 : Tryd.prog.info? 68 = some Tryd.t68 := by kernel_rfl
theorem tz_68 : Tryd.t68.zero = some (.nilFunc) := by kernel_rfl
theorem ts_69 : tySize Tryd.prog 69 = some 1 := by kernel_rfl
theorem zc_69 : zeroOf Tryd.prog 69 = some (.tuple #[.int .i64 0, .bool false]) := by kernel_rfl
theorem ti_69 : Tryd.prog.info? 69 = some Tryd.t69 := by kernel_rfl
theorem tz_69 : Tryd.t69.zero = some (.tuple #[.int .i64 0, .bool false]) := by kernel_rfl
theorem ag_70 : tyAgg Tryd.prog 70 = some none := by kernel_rfl
theorem ts_70 : tySize Tryd.prog 70 = some 1 := by kernel_rfl
theorem zc_70 : zeroOf Tryd.prog 70 = some (.nilFunc) := by kernel_rfl
theorem ti_70 : Tryd.prog.info? 70 = some Tryd.t70 := by kernel_rfl
theorem tz_70 : Tryd.t70.zero = some (.nilFunc) := by kernel_rfl
theorem ag_71 : tyAgg Tryd.prog 71 = some (some 8) := by kernel_rfl
theorem ts_71 : tySize Tryd.prog 71 = some 8 := by kernel_rfl
theorem fo_71_0 : fldOff Tryd.prog 71 0 = some 0 := by kernel_rfl
theorem fo_71_1 : fldOff Tryd.prog 71 1 = some 1 := by kernel_rfl
theorem fo_71_2 : fldOff Tryd.prog 71 2 = some 2 := by kernel_rfl
theorem fo_71_3 : fldOff Tryd.prog 71 3 = some 3 := by kernel_rfl
theorem fo_71_4 : fldOff Tryd.prog 71 4 = some 4 := by kernel_rfl
theorem fo_71_5 : fldOff Tryd.prog 71 5 = some 5 := by kernel_rfl
theorem fo_71_6 : fldOff Tryd.prog 71 6 = some 6 := by kernel_rfl
theorem fo_71_7 : fldOff Tryd.prog 71 7 = some 7 := by kernel_rfl
theorem zc_71 : zeroOf Tryd.prog 71 = some (.agg #[.int .i64 0, .int .i64 0, .int .i64 0, .int .i64 0, .int .i64 0, .int .i64 0, .int .i64 0, .int .i64 0]) := by kernel_rfl
theorem ti_71 : Tryd.prog.info? 71 = some Tryd.t71 := by kernel_rfl
theorem tz_71 : Tryd.t71.zero = some (.agg #[.int .i64 0, .int .i64 0, .int .i64 0, .int .i64 0, .int .i64 0, .int .i64 0, .int .i64 0, .int .i64 0]) := by kernel_rfl
theorem bu_71 : BuTy Tryd.prog 71 [(0, 1), (1, 1), (2, 1), (3, 1), (4, 1), (5, 1), (6, 1), (7, 1)] [.int .i64 0, .int .i64 0, .int .i64 0, .int .i64 0, .int .i64 0, .int .i64 0, .int .i64 0, .int .i64 0] := ⟨_, _, Tryd.underlying71, zc_71, rfl, by kernel_rfl⟩
theorem ag_72 : tyAgg Tryd.prog 72 = some (some 8) := by kernel_rfl
theorem ts_72 : tySize Tryd.prog 72 = some 8 := by kernel_rfl
theorem fo_72_0 : fldOff Tryd.prog 72 0 = some 0 := by kernel_rfl
theorem fo_72_1 : fldOff Tryd.prog 72 1 = some 1 := by kernel_rfl
theorem fo_72_2 : fldOff Tryd.prog 72 2 = some 2 := by kernel_rfl
theorem fo_72_3 : fldOff Tryd.prog 72 3 = some 3 := by kernel_rfl
theorem fo_72_4 : fldOff Tryd.prog 72 4 = some 4 := by kernel_rfl
theorem fo_72_5 : fldOff Tryd.prog 72 5 = some 5 := by kernel_rfl
theorem fo_72_6 : fldOff Tryd.prog 72 6 = some 6 := by kernel_rfl
theorem fo_72_7 : fldOff Tryd.prog 72 7 = some 7 := by kernel_rfl
theorem zc_72 : zeroOf Tryd.prog 72 = some (.agg #[.int .i64 0, .int .i64 0, .int .i64 0, .int .i64 0, .int .i64 0, .int .i64 0, .int .i64 0, .int .i64 0]) := by kernel_rfl
theorem ti_72 : Tryd.prog.info? 72 = some Tryd.t72 := by kernel_rfl
theorem tz_72 : Tryd.t72.zero = some (.agg #[.int .i64 0, .int .i64 0, .int .i64 0, .int .i64 0, .int .i64 0, .int .i64 0, .int .i64 0, .int .i64 0]) := by kernel_rfl
theorem bu_72 : BuTy Tryd.prog 72 [(0, 1), (1, 1), (2, 1), (3, 1), (4, 1), (5, 1), (6, 1), (7, 1)] [.int .i64 0, .int .i64 0, .int .i64 0, .int .i64 0, .int .i64 0, .int .i64 0, .int .i64 0, .int .i64 0] := ⟨_, _, Tryd.underlying72, zc_72, rfl, by kernel_rfl⟩
theorem ag_73 : tyAgg Tryd.prog 73 = some none := by kernel_rfl
theorem ts_73 : tySize Tryd.prog 73 = some 1 := by kernel_rfl
theorem zc_73 : zeroOf Tryd.prog 73 = some (.nilFunc) := by kernel_rfl
theorem ti_73 : Tryd.prog.info? 73 = some Tryd.t73 := by kernel_rfl
theorem tz_73 : Tryd.t73.zero = some (.nilFunc) := by kernel_rfl
theorem ag_74 : tyAgg Tryd.prog 74 = some none := by kernel_rfl
theorem ts_74 : tySize Tryd.prog 74 = some 1 := by kernel_rfl
theorem zc_74 : zeroOf Tryd.prog 74 = some (.pointer none) := by kernel_rfl
theorem ti_74 : Tryd.prog.info? 74 = some Tryd.t74 := by kernel_rfl
theorem tz_74 : Tryd.t74.zero = some (.pointer none) := by kernel_rfl
theorem ts_75 : tySize Tryd.prog 75 = some 1 := by kernel_rfl
theorem zc_75 : zeroOf Tryd.prog 75 = some (.tuple #[.pointer none, .nilIface]) := by kernel_rfl
theorem ti_75 : Tryd.prog.info? 75 = some Tryd.t75 := by kernel_rfl
theorem tz_75 : Tryd.t75.zero = some (.tuple #[.pointer none, .nilIface]) := by kernel_rfl
theorem ag_76 : tyAgg Tryd.prog 76 = some none := by kernel_rfl
theorem ts_76 : tySize Tryd.prog 76 = some 1 := by kernel_rfl
theorem zc_76 : zeroOf Tryd.prog 76 = some (.nilFunc) := by kernel_rfl
theorem ti_76 : Tryd.prog.info? 76 = some Tryd.t76 := by kernel_rfl
theorem tz_76 : Tryd.t76.zero = some (.nilFunc) := by kernel_rfl
theorem ag_77 : tyAgg Tryd.prog 77 = some none := by kernel_rfl
theorem ts_77 : tySize Tryd.prog 77 = some 1 := by kernel_rfl
theorem zc_77 : zeroOf Tryd.prog 77 = some (.nilFunc) := by kernel_rfl
theorem ti_77 : Tryd.prog.info? 77 = some Tryd.t77 := by kernel_rfl
theorem tz_77 : Tryd.t77.zero = some (.nilFunc) := by kernel_rfl
theorem ag_78 : tyAgg Tryd.prog 78 = some none := by kernel_rfl
theorem ts_78 : tySize Tryd.prog 78 = some 1 := by kernel_rfl
theorem zc_78 : zeroOf Tryd.prog 78 = some (.nilFunc) := by kernel_rfl
theorem ti_78 : Tryd.prog.info? 78 = some Tryd.t78 := by kernel_rfl
theorem tz_78 : Tryd.t78.zero = some (.nilFunc) := by kernel_rfl
theorem ag_79 : tyAgg Tryd.prog 79 = some none := by kernel_rfl
theorem ts_79 : tySize Tryd.prog 79 = some 1 := by kernel_rfl
theorem zc_79 : zeroOf Tryd.prog 79 = some (.nilFunc) := by kernel_rfl
theorem ti_79 : Tryd.prog.info? 79 = some Tryd.t79 := by kernel_rfl
theorem tz_79 : Tryd.t79.zero = some (.nilFunc) := by kernel_rfl
theorem ag_80 : tyAgg Tryd.prog 80 = some none := by kernel_rfl
theorem ts_80 : tySize Tryd.prog 80 = some 1 := by kernel_rfl
theorem zc_80 : zeroOf Tryd.prog 80 = some (.nilFunc) := by kernel_rfl
theorem ti_80 : Tryd.prog.info? 80 = some Tryd.t80 := by kernel_rfl
theorem tz_80 : Tryd.t80.zero = some (.nilFunc) := by kernel_rfl
theorem ag_81 : tyAgg Tryd.prog 81 = some none := by kernel_rfl
theorem ts_81 : tySize Tryd.prog 81 = some 1 := by kernel_rfl
theorem zc_81 : zeroOf Tryd.prog 81 = some (.pointer none) := by kernel_rfl
theorem ti_81 : Tryd.prog.info? 81 = some Tryd.t81 := by kernel_rfl
theorem tz_81 : Tryd.t81.zero = some (.pointer none) := by kernel_rfl
theorem ag_82 : tyAgg Tryd.prog 82 = some (some 2) := by kernel_rfl
theorem ts_82 : tySize Tryd.prog 82 = some 2 := by kernel_rfl
theorem fo_82_0 : fldOff Tryd.prog 82 0 = some 0 := by kernel_rfl
theorem fo_82_1 : fldOff Tryd.prog 82 1 = some 1 := by kernel_rfl
theorem zc_82 : zeroOf Tryd.prog 82 = some (.agg #[.int .i64 0, .nilIface]) := by kernel_rfl
theorem ti_82 : Tryd.prog.info? 82 = some Tryd.t82 := by kernel_rfl
theorem tz_82 : Tryd.t82.zero = some (.agg #[.int .i64 0, .nilIface]) := by kernel_rfl
theorem bu_82 : BuTy Tryd.prog 82 [(0, 1), (1, 1)] [.int .i64 0, .nilIface] := ⟨_, _, Tryd.underlying82, zc_82, rfl, by kernel_rfl⟩
theorem ag_83 : tyAgg Tryd.prog 83 = some (some 2) := by kernel_rfl
theorem ts_83 : tySize Tryd.prog 83 = some 2 := by kernel_rfl
theorem fo_83_0 : fldOff Tryd.prog 83 0 = some 0 := by kernel_rfl
theorem fo_83_1 : fldOff Tryd.prog 83 1 = some 1 := by kernel_rfl
theorem zc_83 : zeroOf Tryd.prog 83 = some (.agg #[.int .i64 0, .nilIface]) := by kernel_rfl
theorem ti_83 : Tryd.prog.info? 83 = some Tryd.t83 := by kernel_rfl
theorem tz_83 : Tryd.t83.zero = some (.agg #[.int .i64 0, .nilIface]) := by kernel_rfl
theorem bu_83 : BuTy Tryd.prog 83 [(0, 1), (1, 1)] [.int .i64 0, .nilIface] := ⟨_, _, Tryd.underlying83, zc_83, rfl, by kernel_rfl⟩
theorem ag_84 : tyAgg Tryd.prog 84 = some none := by kernel_rfl
theorem ts_84 : tySize Tryd.prog 84 = some 1 := by kernel_rfl
theorem sz_84 : slSize Tryd.prog 84 = some 1 := by kernel_rfl
theorem st_84 : SlTy Tryd.prog 84 88 1 8 := ⟨Tryd.underlying84, ⟨_, _, (by kernel_rfl : Tryd.prog.info? 88 = some Tryd.t88), (by kernel_rfl : Tryd.t88.zero = some (.pointer none)), by kernel_rfl, by kernel_rfl, by kernel_rfl⟩, by decide⟩
theorem zc_84 : zeroOf Tryd.prog 84 = some (.slice none 0 0) := by kernel_rfl
theorem ti_84 : Tryd.prog.info? 84 = some Tryd.t84 := by kernel_rfl
theorem tz_84 : Tryd.t84.zero = some (.slice none 0 0) := by kernel_rfl
theorem ag_85 : tyAgg Tryd.prog 85 = some none := by kernel_rfl
theorem ts_85 : tySize Tryd.prog 85 = some 1 := by kernel_rfl
theorem zc_85 : zeroOf Tryd.prog 85 = some (.map none) := by kernel_rfl
theorem ti_85 : Tryd.prog.info? 85 = some Tryd.t85 := by kernel_rfl
theorem tz_85 : Tryd.t85.zero = some (.map none) := by kernel_rfl
theorem ag_86 : tyAgg Tryd.prog 86 = some (some 5) := by kernel_rfl
theorem ts_86 : tySize Tryd.prog 86 = some 5 := by kernel_rfl
theorem fo_86_0 : fldOff Tryd.prog 86 0 = some 0 := by kernel_rfl
theorem fo_86_1 : fldOff Tryd.prog 86 1 = some 1 := by kernel_rfl
theorem fo_86_2 : fldOff Tryd.prog 86 2 = some 2 := by kernel_rfl
theorem fo_86_3 : fldOff Tryd.prog 86 3 = some 3 := by kernel_rfl
theorem fo_86_4 : fldOff Tryd.prog 86 4 = some 4 := by kernel_rfl
theorem zc_86 : zeroOf Tryd.prog 86 = some (.agg #[.slice none 0 0, .int .i64 0, .slice none 0 0, .map none, .map none]) := by kernel_rfl
theorem ti_86 : Tryd.prog.info? 86 = some Tryd.t86 := by kernel_rfl
theorem tz_86 : Tryd.t86.zero = some (.agg #[.slice none 0 0, .int .i64 0, .slice none 0 0, .map none, .map none]) := by kernel_rfl
theorem bu_86 : BuTy Tryd.prog 86 [(0, 1), (1, 1), (2, 1), (3, 1), (4, 1)] [.slice none 0 0, .int .i64 0, .slice none 0 0, .map none, .map none] := ⟨_, _, Tryd.underlying86, zc_86, rfl, by kernel_rfl⟩
theorem ag_87 : tyAgg Tryd.prog 87 = some (some 5) := by kernel_rfl
theorem ts_87 : tySize Tryd.prog 87 = some 5 := by kernel_rfl
theorem fo_87_0 : fldOff Tryd.prog 87 0 = some 0 := by kernel_rfl
theorem fo_87_1 : fldOff Tryd.prog 87 1 = some 1 := by kernel_rfl
theorem fo_87_2 : fldOff Tryd.prog 87 2 = some 2 := by kernel_rfl
theorem fo_87_3 : fldOff Tryd.prog 87 3 = some 3 := by kernel_rfl
theorem fo_87_4 : fldOff Tryd.prog 87 4 = some 4 := by kernel_rfl
theorem zc_87 : zeroOf Tryd.prog 87 = some (.agg #[.slice none 0 0, .int .i64 0, .slice none 0 0, .map none, .map none]) := by kernel_rfl
theorem ti_87 : Tryd.prog.info? 87 = some Tryd.t87 := by kernel_rfl
theorem tz_87 : Tryd.t87.zero = some (.agg #[.slice none 0 0, .int .i64 0, .slice none 0 0, .map none, .map none]) := by kernel_rfl
theorem bu_87 : BuTy Tryd.prog 87 [(0, 1), (1, 1), (2, 1), (3, 1), (4, 1)] [.slice none 0 0, .int .i64 0, .slice none 0 0, .map none, .map none] := ⟨_, _, Tryd.underlying87, zc_87, rfl, by kernel_rfl⟩
theorem ag_88 : tyAgg Tryd.prog 88 = some none := by kernel_rfl
theorem ts_88 : tySize Tryd.prog 88 = some 1 := by kernel_rfl
theorem zc_88 : zeroOf Tryd.prog 88 = some (.pointer none) := by kernel_rfl
theorem ti_88 : Tryd.prog.info? 88 = some Tryd.t88 := by kernel_rfl
theorem tz_88 : Tryd.t88.zero = some (.pointer none) := by kernel_rfl
theorem ag_89 : tyAgg Tryd.prog 89 = some (some 8) := by kernel_rfl
theorem ts_89 : tySize Tryd.prog 89 = some 8 := by kernel_rfl
theorem fo_89_0 : fldOff Tryd.prog 89 0 = some 0 := by kernel_rfl
theorem fo_89_1 : fldOff Tryd.prog 89 1 = some 7 := by kernel_rfl
theorem zc_89 : zeroOf Tryd.prog 89 = some (.agg #[.int .i64 0, .int .i64 0, .int .i64 0, .int .i64 0, .int .i64 0, .int .i64 0, .slice none 0 0, .int .i64 0]) := by kernel_rfl
theorem ti_89 : Tryd.prog.info? 89 = some Tryd.t89 := by kernel_rfl
theorem tz_89 : Tryd.t89.zero = some (.agg #[.int .i64 0, .int .i64 0, .int .i64 0, .int .i64 0, .int .i64 0, .int .i64 0, .slice none 0 0, .int .i64 0]) := by kernel_rfl
theorem bu_89 : BuTy Tryd.prog 89 [(0, 7), (7, 1)] [.int .i64 0, .int .i64 0, .int .i64 0, .int .i64 0, .int .i64 0, .int .i64 0, .slice none 0 0, .int .i64 0] := ⟨_, _, Tryd.underlying89, zc_89, rfl, by kernel_rfl⟩
theorem ag_90 : tyAgg Tryd.prog 90 = some (some 8) := by kernel_rfl
theorem ts_90 : tySize Tryd.prog 90 = some 8 := by kernel_rfl
theorem fo_90_0 : fldOff Tryd.prog 90 0 = some 0 := by kernel_rfl
theorem fo_90_1 : fldOff Tryd.prog 90 1 = some 7 := by kernel_rfl
theorem zc_90 : zeroOf Tryd.prog 90 = some (.agg #[.int .i64 0, .int .i64 0, .int .i64 0, .int .i64 0, .int .i64 0, .int .i64 0, .slice none 0 0, .int .i64 0]) := by kernel_rfl
theorem ti_90 : Tryd.prog.info? 90 = some Tryd.t90 := by kernel_rfl
theorem tz_90 : Tryd.t90.zero = some (.agg #[.int .i64 0, .int .i64 0, .int .i64 0, .int .i64 0, .int .i64 0, .int .i64 0, .slice none 0 0, .int .i64 0]) := by kernel_rfl
theorem bu_90 : BuTy Tryd.prog 90 [(0, 7), (7, 1)] [.int .i64 0, .int .i64 0, .int .i64 0, .int .i64 0, .int .i64 0, .int .i64 0, .slice none 0 0, .int .i64 0] := ⟨_, _, Tryd.underlying90, zc_90, rfl, by kernel_rfl⟩
theorem ag_91 : tyAgg Tryd.prog 91 = some none := by kernel_rfl
theorem ts_91 : tySize Tryd.prog 91 = some 1 := by kernel_rfl
theorem zc_91 : zeroOf Tryd.prog 91 = some (.nilFunc) := by kernel_rfl
theorem ti_91 : Tryd.prog.info? 91 = some Tryd.t91 := by kernel_rfl
theorem tz_91 : Tryd.t91.zero = some (.nilFunc) := by kernel_rfl
theorem ag_92 : tyAgg Tryd.prog 92 = some none := by kernel_rfl
theorem ts_92 : tySize Tryd.prog 92 = some 1 := by kernel_rfl
theorem zc_92 : zeroOf Tryd.prog 92 = some (.nilFunc) := by kernel_rfl
theorem ti_92 : Tryd.prog.info? 92 = some Tryd.t92 := by kernel_rfl
theorem tz_92 : Tryd.t92.zero = some (.nilFunc) := by kernel_rfl
theorem ag_93 : tyAgg Tryd.prog 93 = some none := by kernel_rfl
theorem ts_93 : tySize Tryd.prog 93 = some 1 := by kernel_rfl
theorem zc_93 : zeroOf Tryd.prog 93 = some (.nilFunc) := by kernel_rfl
theorem ti_93 : Tryd.prog.info? 93 = some Tryd.t93 := by kernel_rfl
theorem tz_93 : Tryd.t93.zero = some (.nilFunc) := by kernel_rfl
theorem ts_94 : tySize Tryd.prog 94 = some 1 := by kernel_rfl
theorem zc_94 : zeroOf Tryd.prog 94 = some (.tuple #[.pointer none, .bool false]) := by kernel_rfl
theorem ti_94 : Tryd.prog.info? 94 = some Tryd.t94 := by kernel_rfl
theorem tz_94 : Tryd.t94.zero = some (.tuple #[.pointer none, .bool false]) := by kernel_rfl
theorem ag_95 : tyAgg Tryd.prog 95 = some none := by kernel_rfl
theorem ts_95 : tySize Tryd.prog 95 = some 1 := by kernel_rfl
theorem zc_95 : zeroOf Tryd.prog 95 = some (.nilFunc) := by kernel_rfl
theorem ti_95 : Tryd.prog.info? 95 = some Tryd.t95 := by kernel_rfl
theorem tz_95 : Tryd.t95.zero = some (.nilFunc) := by kernel_rfl
theorem ag_96 : tyAgg Tryd.prog 96 = some (some 2) := by kernel_rfl
theorem ts_96 : tySize Tryd.prog 96 = some 2 := by kernel_rfl
theorem fo_96_0 : fldOff Tryd.prog 96 0 = some 0 := by kernel_rfl
theorem fo_96_1 : fldOff Tryd.prog 96 1 = some 1 := by kernel_rfl
theorem zc_96 : zeroOf Tryd.prog 96 = some (.agg #[.slice none 0 0, .nilFunc]) := by kernel_rfl
theorem ti_96 : Tryd.prog.info? 96 = some Tryd.t96 := by kernel_rfl
theorem tz_96 : Tryd.t96.zero = some (.agg #[.slice none 0 0, .nilFunc]) := by kernel_rfl
theorem bu_96 : BuTy Tryd.prog 96 [(0, 1), (1, 1)] [.slice none 0 0, .nilFunc] := ⟨_, _, Tryd.underlying96, zc_96, rfl, by kernel_rfl⟩
theorem ag_97 : tyAgg Tryd.prog 97 = some (some 2) := by kernel_rfl
theorem ts_97 : tySize Tryd.prog 97 = some 2 := by kernel_rfl
theorem fo_97_0 : fldOff Tryd.prog 97 0 = some 0 := by kernel_rfl
theorem fo_97_1 : fldOff Tryd.prog 97 1 = some 1 := by kernel_rfl
theorem zc_97 : zeroOf Tryd.prog 97 = some (.agg #[.slice none 0 0, .nilFunc]) := by kernel_rfl
theorem ti_97 : Tryd.prog.info? 97 = some Tryd.t97 := by kernel_rfl
theorem tz_97 : Tryd.t97.zero = some (.agg #[.slice none 0 0, .nilFunc]) := by kernel_rfl
theorem bu_97 : BuTy Tryd.prog 97 [(0, 1), (1, 1)] [.slice none 0 0, .nilFunc] := ⟨_, _, Tryd.underlying97, zc_97, rfl, by kernel_rfl⟩
theorem ag_98 : tyAgg Tryd.prog 98 = some none := by kernel_rfl
theorem ts_98 : tySize Tryd.prog 98 = some 1 := by kernel_rfl
theorem zc_98 : zeroOf Tryd.prog 98 = some (.map none) := by kernel_rfl
theorem ti_98 : Tryd.prog.info? 98 = some Tryd.t98 := by kernel_rfl
theorem tz_98 : Tryd.t98.zero = some (.map none) := by kernel_rfl
theorem ag_99 : tyAgg Tryd.prog 99 = some none := by kernel_rfl
theorem ts_99 : tySize Tryd.prog 99 = some 1 := by kernel_rfl
theorem zc_99 : zeroOf Tryd.prog 99 = some (.nilFunc) := by kernel_rfl
theorem ti_99 : Tryd.prog.info? 99 = some Tryd.t99 := by kernel_rfl
theorem tz_99 : Tryd.t99.zero = some (.nilFunc) := by kernel_rfl
theorem ag_100 : tyAgg Tryd.prog 100 = some none := by kernel_rfl
theorem ts_100 : tySize Tryd.prog 100 = some 1 := by kernel_rfl
theorem zc_100 : zeroOf Tryd.prog 100 = some (.nilFunc) := by kernel_rfl
theorem ti_100 : Tryd.prog.info? 100 = some Tryd.t100 := by kernel_rfl
theorem tz_100 : Tryd.t100.zero = some (.nilFunc) := by kernel_rfl
theorem ag_101 : tyAgg Tryd.prog 101 = some none := by kernel_rfl
theorem ts_101 : tySize Tryd.prog 101 = some 1 := by kernel_rfl
theorem zc_101 : zeroOf Tryd.prog 101 = some (.nilFunc) := by kernel_rfl
theorem ti_101 : Tryd.prog.info? 101 = some Tryd.t101 := by kernel_rfl
theorem tz_101 : Tryd.t101.zero = some (.nilFunc) := by kernel_rfl
theorem ag_102 : tyAgg Tryd.prog 102 = some none := by kernel_rfl
theorem ts_102 : tySize Tryd.prog 102 = some 1 := by kernel_rfl
theorem zc_102 : zeroOf Tryd.prog 102 = some (.map none) := by kernel_rfl
theorem ti_102 : Tryd.prog.info? 102 = some Tryd.t102 := by kernel_rfl
theorem tz_102 : Tryd.t102.zero = some (.map none) := by kernel_rfl
theorem ag_103 : tyAgg Tryd.prog 103 = some none := by kernel_rfl
theorem ts_103 : tySize Tryd.prog 103 = some 1 := by kernel_rfl
theorem zc_103 : zeroOf Tryd.prog 103 = some (.nilFunc) := by kernel_rfl
theorem ti_103 : Tryd.prog.info? 103 = some Tryd.t103 := by kernel_rfl
theorem tz_103 : Tryd.t103.zero = some (.nilFunc) := by kernel_rfl
theorem ag_104 : tyAgg Tryd.prog 104 = some none := by kernel_rfl
theorem ts_104 : tySize Tryd.prog 104 = some 1 := by kernel_rfl
theorem zc_104 : zeroOf Tryd.prog 104 = some (.nilFunc) := by kernel_rfl
theorem ti_104 : Tryd.prog.info? 104 = some Tryd.t104 := by kernel_rfl
theorem tz_104 : Tryd.t104.zero = some (.nilFunc) := by kernel_rfl
theorem ag_105 : tyAgg Tryd.prog 105 = some (some 4) := by kernel_rfl
theorem ts_105 : tySize Tryd.prog 105 = some 4 := by kernel_rfl
theorem fo_105_0 : fldOff Tryd.prog 105 0 = some 0 := by kernel_rfl
theorem fo_105_1 : fldOff Tryd.prog 105 1 = some 1 := by kernel_rfl
theorem fo_105_2 : fldOff Tryd.prog 105 2 = some 2 := by kernel_rfl
theorem fo_105_3 : fldOff Tryd.prog 105 3 = some 3 := by kernel_rfl
theorem zc_105 : zeroOf Tryd.prog 105 = some (.agg #[.nilFunc, .int .i64 0, .int .i64 0, .int .i64 0]) := by kernel_rfl
theorem ti_105 : Tryd.prog.info? 105 = some Tryd.t105 := by kernel_rfl
theorem tz_105 : Tryd.t105.zero = some (.agg #[.nilFunc, .int .i64 0, .int .i64 0, .int .i64 0]) := by kernel_rfl
theorem bu_105 : BuTy Tryd.prog 105 [(0, 1), (1, 1), (2, 1), (3, 1)] [.nilFunc, .int .i64 0, .int .i64 0, .int .i64 0] := ⟨_, _, Tryd.underlying105, zc_105, rfl, by kernel_rfl⟩
theorem ag_106 : tyAgg Tryd.prog 106 = some (some 4) := by kernel_rfl
theorem ts_106 : tySize Tryd.prog 106 = some 4 := by kernel_rfl
theorem fo_106_0 : fldOff Tryd.prog 106 0 = some 0 := by kernel_rfl
theorem fo_106_1 : fldOff Tryd.prog 106 1 = some 1 := by kernel_rfl
theorem fo_106_2 : fldOff Tryd.prog 106 2 = some 2 := by kernel_rfl
theorem fo_106_3 : fldOff Tryd.prog 106 3 = some 3 := by kernel_rfl
theorem zc_106 : zeroOf Tryd.prog 106 = some (.agg #[.nilFunc, .int .i64 0, .int .i64 0, .int .i64 0]) := by kernel_rfl
theorem ti_106 : Tryd.prog.info? 106 = some Tryd.t106 := by kernel_rfl
theorem tz_106 : Tryd.t106.zero = some (.agg #[.nilFunc, .int .i64 0, .int .i64 0, .int .i64 0]) := by kernel_rfl
theorem bu_106 : BuTy Tryd.prog 106 [(0, 1), (1, 1), (2, 1), (3, 1)] [.nilFunc, .int .i64 0, .int .i64 0, .int .i64 0] := ⟨_, _, Tryd.underlying106, zc_106, rfl, by kernel_rfl⟩
theorem ts_107 : tySize Tryd.prog 107 = some 1 := by kernel_rfl
theorem zc_107 : zeroOf Tryd.prog 107 = some (.tuple #[.agg #[.nilFunc, .int .i64 0, .int .i64 0, .int .i64 0], .bool false]) := by kernel_rfl
theorem ti_107 : Tryd.prog.info? 107 = some Tryd.t107 := by kernel_rfl
theorem tz_107 : Tryd.t107.zero = some (.tuple #[.agg #[.nilFunc, .int .i64 0, .int .i64 0, .int .i64 0], .bool false]) := by kernel_rfl
theorem ag_108 : tyAgg Tryd.prog 108 = some none := by kernel_rfl
theorem ts_108 : tySize Tryd.prog 108 = some 1 := by kernel_rfl
theorem zc_108 : zeroOf Tryd.prog 108 = some (.pointer none) := by kernel_rfl
theorem ti_108 : Tryd.prog.info? 108 = some Tryd.t108 := by kernel_rfl
theorem tz_108 : Tryd.t108.zero = some (.pointer none) := by kernel_rfl
theorem ag_109 : tyAgg Tryd.prog 109 = some none := by kernel_rfl
theorem ts_109 : tySize Tryd.prog 109 = some 1 := by kernel_rfl
theorem zc_109 : zeroOf Tryd.prog 109 = some (.pointer none) := by kernel_rfl
theorem ti_109 : Tryd.prog.info? 109 = some Tryd.t109 := by kernel_rfl
theorem tz_109 : Tryd.t109.zero = some (.pointer none) := by kernel_rfl
theorem ag_110 : tyAgg Tryd.prog 110 = some none := by kernel_rfl
theorem ts_110 : tySize Tryd.prog 110 = some 1 := by kernel_rfl
theorem zc_110 : zeroOf Tryd.prog 110 = some (.nilFunc) := by kernel_rfl
theorem ti_110 : Tryd.prog.info? 110 = some Tryd.t110 := by kernel_rfl
theorem tz_110 : Tryd.t110.zero = some (.nilFunc) := by kernel_rfl
theorem ag_111 : tyAgg Tryd.prog 111 = some none := by kernel_rfl
theorem ts_111 : tySize Tryd.prog 111 = some 1 := by kernel_rfl
theorem zc_111 : zeroOf Tryd.prog 111 = some (.pointer none) := by kernel_rfl
theorem ti_111 : Tryd.prog.info? 111 = some Tryd.t111 := by kernel_rfl
theorem tz_111 : Tryd.t111.zero = some (.pointer none) := by kernel_rfl
theorem ag_112 : tyAgg Tryd.prog 112 = some none := by kernel_rfl
theorem ts_112 : tySize Tryd.prog 112 = some 1 := by kernel_rfl
theorem zc_112 : zeroOf Tryd.prog 112 = some (.nilFunc) := by kernel_rfl
theorem ti_112 : Tryd.prog.info? 112 = some Tryd.t112 := by kernel_rfl
theorem tz_112 : Tryd.t112.zero = some (.nilFunc) := by kernel_rfl
theorem ag_113 : tyAgg Tryd.prog 113 = some none := by kernel_rfl
theorem ts_113 : tySize Tryd.prog 113 = some 1 := by kernel_rfl
theorem zc_113 : zeroOf Tryd.prog 113 = some (.nilFunc) := by kernel_rfl
theorem ti_113 : Tryd.prog.info? 113 = some Tryd.t113 := by kernel_rfl
theorem tz_113 : Tryd.t113.zero = some (.nilFunc) := by kernel_rfl
theorem ts_114 : tySize Tryd.prog 114 = some 1 := by kernel_rfl
theorem zc_114 : zeroOf Tryd.prog 114 = some (.tuple #[.string ByteArray.empty, .int .i64 0]) := by kernel_rfl
theorem ti_114 : Tryd.prog.info? 114 = some Tryd.t114 := by kernel_rfl
theorem tz_114 : Tryd.t114.zero = some (.tuple #[.string ByteArray.empty, .int .i64 0]) := by kernel_rfl
theorem ag_115 : tyAgg Tryd.prog 115 = some none := by kernel_rfl
theorem ts_115 : tySize Tryd.prog 115 = some 1 := by kernel_rfl
theorem zc_115 : zeroOf Tryd.prog 115 = some (.nilFunc) := by kernel_rfl
theorem ti_115 : Tryd.prog.info? 115 = some Tryd.t115 := by kernel_rfl
theorem tz_115 : Tryd.t115.zero = some (.nilFunc) := by kernel_rfl
theorem ag_116 : tyAgg Tryd.prog 116 = some none := by kernel_rfl
theorem ts_116 : tySize Tryd.prog 116 = some 1 := by kernel_rfl
theorem sz_116 : slSize Tryd.prog 116 = some 4 := by kernel_rfl
theorem st_116 : SlTy Tryd.prog 116 106 4 32 := ⟨Tryd.underlying116, ⟨_, _, (by kernel_rfl : Tryd.prog.info? 106 = some Tryd.t106), (by kernel_rfl : Tryd.t106.zero = some (.agg #[.nilFunc, .int .i64 0, .int .i64 0, .int .i64 0])), by kernel_rfl, by kernel_rfl, by kernel_rfl⟩, by decide⟩
theorem zc_116 : zeroOf Tryd.prog 116 = some (.slice none 0 0) := by kernel_rfl
theorem ti_116 : Tryd.prog.info? 116 = some Tryd.t116 := by kernel_rfl
theorem tz_116 : Tryd.t116.zero = some (.slice none 0 0) := by kernel_rfl
theorem ag_117 : tyAgg Tryd.prog 117 = some none := by kernel_rfl
theorem ts_117 : tySize Tryd.prog 117 = some 1 := by kernel_rfl
theorem zc_117 : zeroOf Tryd.prog 117 = some (.nilFunc) := by kernel_rfl
theorem ti_117 : Tryd.prog.info? 117 = some Tryd.t117 := by kernel_rfl
theorem tz_117 : Tryd.t117.zero = some (.nilFunc) := by kernel_rfl
theorem ag_118 : tyAgg Tryd.prog 118 = some none := by kernel_rfl
theorem ts_118 : tySize Tryd.prog 118 = some 1 := by kernel_rfl
theorem zc_118 : zeroOf Tryd.prog 118 = some (.nilFunc) := by kernel_rfl
theorem ti_118 : Tryd.prog.info? 118 = some Tryd.t118 := by kernel_rfl
theorem tz_118 : Tryd.t118.zero = some (.nilFunc) := by kernel_rfl
theorem ag_119 : tyAgg Tryd.prog 119 = some none := by kernel_rfl
theorem ts_119 : tySize Tryd.prog 119 = some 1 := by kernel_rfl
theorem zc_119 : zeroOf Tryd.prog 119 = some (.nilFunc) := by kernel_rfl
theorem ti_119 : Tryd.prog.info? 119 = some Tryd.t119 := by kernel_rfl
theorem tz_119 : Tryd.t119.zero = some (.nilFunc) := by kernel_rfl
theorem ag_120 : tyAgg Tryd.prog 120 = some (some 4) := by kernel_rfl
theorem ts_120 : tySize Tryd.prog 120 = some 4 := by kernel_rfl
theorem ar_120 : arSize Tryd.prog 120 = some (4, 1) := by kernel_rfl
theorem zc_120 : zeroOf Tryd.prog 120 = some (.agg #[.string ByteArray.empty, .string ByteArray.empty, .string ByteArray.empty, .string ByteArray.empty]) := by kernel_rfl
theorem ti_120 : Tryd.prog.info? 120 = some Tryd.t120 := by kernel_rfl
theorem tz_120 : Tryd.t120.zero = some (.agg #[.string ByteArray.empty, .string ByteArray.empty, .string ByteArray.empty, .string ByteArray.empty]) := by kernel_rfl
theorem ag_121 : tyAgg Tryd.prog 121 = some none := by kernel_rfl
theorem ts_121 : tySize Tryd.prog 121 = some 1 := by kernel_rfl
theorem zc_121 : zeroOf Tryd.prog 121 = some (.nilFunc) := by kernel_rfl
theorem ti_121 : Tryd.prog.info? 121 = some Tryd.t121 := by kernel_rfl
theorem tz_121 : Tryd.t121.zero = some (.nilFunc) := by kernel_rfl
theorem ag_122 : tyAgg Tryd.prog 122 = some (some 7) := by kernel_rfl
theorem ts_122 : tySize Tryd.prog 122 = some 7 := by kernel_rfl
theorem ar_122 : arSize Tryd.prog 122 = some (7, 1) := by kernel_rfl
theorem zc_122 : zeroOf Tryd.prog 122 = some (.agg #[.string ByteArray.empty, .string ByteArray.empty, .string ByteArray.empty, .string ByteArray.empty, .string ByteArray.empty, .string ByteArray.empty, .string ByteArray.empty]) := by kernel_rfl
theorem ti_122 : Tryd.prog.info? 122 = some Tryd.t122 := by kernel_rfl
theorem tz_122 : Tryd.t122.zero = some (.agg #[.string ByteArray.empty, .string ByteArray.empty, .string ByteArray.empty, .string ByteArray.empty, .string ByteArray.empty, .string ByteArray.empty, .string ByteArray.empty]) := by kernel_rfl
theorem ag_123 : tyAgg Tryd.prog 123 = some (some 9) := by kernel_rfl
theorem ts_123 : tySize Tryd.prog 123 = some 9 := by kernel_rfl
theorem ar_123 : arSize Tryd.prog 123 = some (9, 1) := by kernel_rfl
theorem zc_123 : zeroOf Tryd.prog 123 = some (.agg #[.string ByteArray.empty, .string ByteArray.empty, .string ByteArray.empty, .string ByteArray.empty, .string ByteArray.empty, .string ByteArray.empty, .string ByteArray.empty, .string ByteArray.empty, .string ByteArray.empty]) := by kernel_rfl
theorem ti_123 : Tryd.prog.info? 123 = some Tryd.t123 := by kernel_rfl
theorem tz_123 : Tryd.t123.zero = some (.agg #[.string ByteArray.empty, .string ByteArray.empty, .string ByteArray.empty, .string ByteArray.empty, .string ByteArray.empty, .string ByteArray.empty, .string ByteArray.empty, .string ByteArray.empty, .string ByteArray.empty]) := by kernel_rfl
theorem ag_124 : tyAgg Tryd.prog 124 = some (some 3) := by kernel_rfl
theorem ts_124 : tySize Tryd.prog 124 = some 3 := by kernel_rfl
theorem ar_124 : arSize Tryd.prog 124 = some (3, 1) := by kernel_rfl
theorem zc_124 : zeroOf Tryd.prog 124 = some (.agg #[.string ByteArray.empty, .string ByteArray.empty, .string ByteArray.empty]) := by kernel_rfl
theorem ti_124 : Tryd.prog.info? 124 = some Tryd.t124 := by kernel_rfl
theorem tz_124 : Tryd.t124.zero = some (.agg #[.string ByteArray.empty, .string ByteArray.empty, .string ByteArray.empty]) := by kernel_rfl
theorem ag_125 : tyAgg Tryd.prog 125 = some none := by kernel_rfl
theorem ts_125 : tySize Tryd.prog 125 = some 1 := by kernel_rfl
theorem zc_125 : zeroOf Tryd.prog 125 = some (.pointer none) := by kernel_rfl
theorem ti_125 : Tryd.prog.info? 125 = some Tryd.t125 := by kernel_rfl
theorem tz_125 : Tryd.t125.zero = some (.pointer none) := by kernel_rfl
theorem ag_126 : tyAgg Tryd.prog 126 = some (some 4) := by kernel_rfl
theorem ts_126 : tySize Tryd.prog 126 = some 4 := by kernel_rfl
theorem fo_126_0 : fldOff Tryd.prog 126 0 = some 0 := by kernel_rfl
theorem fo_126_1 : fldOff Tryd.prog 126 1 = some 1 := by kernel_rfl
theorem fo_126_2 : fldOff Tryd.prog 126 2 = some 2 := by kernel_rfl
theorem fo_126_3 : fldOff Tryd.prog 126 3 = some 3 := by kernel_rfl
theorem zc_126 : zeroOf Tryd.prog 126 = some (.agg #[.pointer none, .pointer none, .pointer none, .string ByteArray.empty]) := by kernel_rfl
theorem ti_126 : Tryd.prog.info? 126 = some Tryd.t126 := by kernel_rfl
theorem tz_126 : Tryd.t126.zero = some (.agg #[.pointer none, .pointer none, .pointer none, .string ByteArray.empty]) := by kernel_rfl
theorem bu_126 : BuTy Tryd.prog 126 [(0, 1), (1, 1), (2, 1), (3, 1)] [.pointer none, .pointer none, .pointer none, .string ByteArray.empty] := ⟨_, _, Tryd.underlying126, zc_126, rfl, by kernel_rfl⟩
theorem ag_127 : tyAgg Tryd.prog 127 = some (some 4) := by kernel_rfl
theorem ts_127 : tySize Tryd.prog 127 = some 4 := by kernel_rfl
theorem fo_127_0 : fldOff Tryd.prog 127 0 = some 0 := by kernel_rfl
theorem fo_127_1 : fldOff Tryd.prog 127 1 = some 1 := by kernel_rfl
theorem fo_127_2 : fldOff Tryd.prog 127 2 = some 2 := by kernel_rfl
theorem fo_127_3 : fldOff Tryd.prog 127 3 = some 3 := by kernel_rfl
theorem zc_127 : zeroOf Tryd.prog 127 = some (.agg #[.pointer none, .pointer none, .pointer none, .string ByteArray.empty]) := by kernel_rfl
theorem ti_127 : Tryd.prog.info? 127 = some Tryd.t127 := by kernel_rfl
theorem tz_127 : Tryd.t127.zero = some (.agg #[.pointer none, .pointer none, .pointer none, .string ByteArray.empty]) := by kernel_rfl
theorem bu_127 : BuTy Tryd.prog 127 [(0, 1), (1, 1), (2, 1), (3, 1)] [.pointer none, .pointer none, .pointer none, .string ByteArray.empty] := ⟨_, _, Tryd.underlying127, zc_127, rfl, by kernel_rfl⟩
theorem ag_128 : tyAgg Tryd.prog 128 = some (some 0) := by kernel_rfl
theorem ts_128 : tySize Tryd.prog 128 = some 0 := by kernel_rfl
theorem ar_128 : arSize Tryd.prog 128 = some (0, 1) := by kernel_rfl
theorem zc_128 : zeroOf Tryd.prog 128 = some (.agg #[]) := by kernel_rfl
theorem ti_128 : Tryd.prog.info? 128 = some Tryd.t128 := by kernel_rfl
theorem tz_128 : Tryd.t128.zero = some (.agg #[]) := by kernel_rfl
theorem ag_129 : tyAgg Tryd.prog 129 = some (some 0) := by kernel_rfl
theorem ts_129 : tySize Tryd.prog 129 = some 0 := by kernel_rfl
theorem zc_129 : zeroOf Tryd.prog 129 = some (.agg #[]) := by kernel_rfl
theorem ti_129 : Tryd.prog.info? 129 = some Tryd.t129 := by kernel_rfl
theorem tz_129 : Tryd.t129.zero = some (.agg #[]) := by kernel_rfl
theorem bu_129 : BuTy Tryd.prog 129 [(0, 0)] [] := ⟨_, _, Tryd.underlying129, zc_129, rfl, by kernel_rfl⟩
theorem ag_130 : tyAgg Tryd.prog 130 = some (some 0) := by kernel_rfl
theorem ts_130 : tySize Tryd.prog 130 = some 0 := by kernel_rfl
theorem zc_130 : zeroOf Tryd.prog 130 = some (.agg #[]) := by kernel_rfl
theorem ti_130 : Tryd.prog.info? 130 = some Tryd.t130 := by kernel_rfl
theorem tz_130 : Tryd.t130.zero = some (.agg #[]) := by kernel_rfl
theorem bu_130 : BuTy Tryd.prog 130 [(0, 0)] [] := ⟨_, _, Tryd.underlying130, zc_130, rfl, by kernel_rfl⟩
theorem ag_131 : tyAgg Tryd.prog 131 = some none := by kernel_rfl
theorem ts_131 : tySize Tryd.prog 131 = some 1 := by kernel_rfl
theorem zc_131 : zeroOf Tryd.prog 131 = some (.nilFunc) := by kernel_rfl
theorem ti_131 : Tryd.prog.info? 131 = some Tryd.t131 := by kernel_rfl
theorem tz_131 : Tryd.t131.zero = some (.nilFunc) := by kernel_rfl
theorem ag_132 : tyAgg Tryd.prog 132 = some none := by kernel_rfl
theorem ts_132 : tySize Tryd.prog 132 = some 1 := by kernel_rfl
theorem zc_132 : zeroOf Tryd.prog 132 = some (.int .u32 0) := by kernel_rfl
theorem ti_132 : Tryd.prog.info? 132 = some Tryd.t132 := by kernel_rfl
theorem tz_132 : Tryd.t132.zero = some (.int .u32 0) := by kernel_rfl
theorem ag_133 : tyAgg Tryd.prog 133 = some none := by kernel_rfl
theorem ts_133 : tySize Tryd.prog 133 = some 1 := by kernel_rfl
theorem zc_133 : zeroOf Tryd.prog 133 = some (.int .u8 0) := by kernel_rfl
theorem ti_133 : Tryd.prog.info? 133 = some Tryd.t133 := by kernel_rfl
theorem tz_133 : Tryd.t133.zero = some (.int .u8 0) := by kernel_rfl
theorem ag_134 : tyAgg Tryd.prog 134 = some none := by kernel_rfl
theorem ts_134 : tySize Tryd.prog 134 = some 1 := by kernel_rfl
theorem zc_134 : zeroOf Tryd.prog 134 = some (.int .u8 0) := by kernel_rfl
theorem ti_134 : Tryd.prog.info? 134 = some Tryd.t134 := by kernel_rfl
theorem tz_134 : Tryd.t134.zero = some (.int .u8 0) := by kernel_rfl
theorem ag_135 : tyAgg Tryd.prog 135 = some none := by kernel_rfl
theorem ts_135 : tySize Tryd.prog 135 = some 1 := by kernel_rfl
theorem zc_135 : zeroOf Tryd.prog 135 = some (.nilFunc) := by kernel_rfl
theorem ti_135 : Tryd.prog.info? 135 = some Tryd.t135 := by kernel_rfl
theorem tz_135 : Tryd.t135.zero = some (.nilFunc) := by kernel_rfl
theorem ag_136 : tyAgg Tryd.prog 136 = some none := by kernel_rfl
theorem ts_136 : tySize Tryd.prog 136 = some 1 := by kernel_rfl
theorem zc_136 : zeroOf Tryd.prog 136 = some (.pointer none) := by kernel_rfl
theorem ti_136 : Tryd.prog.info? 136 = some Tryd.t136 := by kernel_rfl
theorem tz_136 : Tryd.t136.zero = some (.pointer none) := by kernel_rfl
theorem ag_137 : tyAgg Tryd.prog 137 = some none := by kernel_rfl
theorem ts_137 : tySize Tryd.prog 137 = some 1 := by kernel_rfl
theorem zc_137 : zeroOf Tryd.prog 137 = some (.int .i32 0) := by kernel_rfl
theorem ti_137 : Tryd.prog.info? 137 = some Tryd.t137 := by kernel_rfl
theorem tz_137 : Tryd.t137.zero = some (.int .i32 0) := by kernel_rfl
theorem ag_138 : tyAgg Tryd.prog 138 = some none := by kernel_rfl
theorem ts_138 : tySize Tryd.prog 138 = some 1 := by kernel_rfl
theorem zc_138 : zeroOf Tryd.prog 138 = some (.int .i32 0) := by kernel_rfl
theorem ti_138 : Tryd.prog.info? 138 = some Tryd.t138 := by kernel_rfl
theorem tz_138 : Tryd.t138.zero = some (.int .i32 0) := by kernel_rfl
theorem ag_139 : tyAgg Tryd.prog 139 = some (some 11) := by kernel_rfl
theorem ts_139 : tySize Tryd.prog 139 = some 11 := by kernel_rfl
theorem fo_139_0 : fldOff Tryd.prog 139 0 = some 0 := by kernel_rfl
theorem fo_139_1 : fldOff Tryd.prog 139 1 = some 1 := by kernel_rfl
theorem fo_139_2 : fldOff Tryd.prog 139 2 = some 2 := by kernel_rfl
theorem fo_139_3 : fldOff Tryd.prog 139 3 = some 3 := by kernel_rfl
theorem fo_139_4 : fldOff Tryd.prog 139 4 = some 4 := by kernel_rfl
theorem fo_139_5 : fldOff Tryd.prog 139 5 = some 5 := by kernel_rfl
theorem fo_139_6 : fldOff Tryd.prog 139 6 = some 6 := by kernel_rfl
theorem fo_139_7 : fldOff Tryd.prog 139 7 = some 7 := by kernel_rfl
theorem fo_139_8 : fldOff Tryd.prog 139 8 = some 8 := by kernel_rfl
theorem fo_139_9 : fldOff Tryd.prog 139 9 = some 9 := by kernel_rfl
theorem fo_139_10 : fldOff Tryd.prog 139 10 = some 10 := by kernel_rfl
theorem zc_139 : zeroOf Tryd.prog 139 = some (.agg #[.int .u64 0, .int .u64 0, .int .u32 0, .int .u8 0, .int .u8 0, .int .u8 0, .int .u8 0, .nilFunc, .pointer none, .int .i32 0, .int .i32 0]) := by kernel_rfl
theorem ti_139 : Tryd.prog.info? 139 = some Tryd.t139 := by kernel_rfl
theorem tz_139 : Tryd.t139.zero = some (.agg #[.int .u64 0, .int .u64 0, .int .u32 0, .int .u8 0, .int .u8 0, .int .u8 0, .int .u8 0, .nilFunc, .pointer none, .int .i32 0, .int .i32 0]) := by kernel_rfl
theorem bu_139 : BuTy Tryd.prog 139 [(0, 1), (1, 1), (2, 1), (3, 1), (4, 1), (5, 1), (6, 1), (7, 1), (8, 1), (9, 1), (10, 1)] [.int .u64 0, .int .u64 0, .int .u32 0, .int .u8 0, .int .u8 0, .int .u8 0, .int .u8 0, .nilFunc, .pointer none, .int .i32 0, .int .i32 0] := ⟨_, _, Tryd.underlying139, zc_139, rfl, by kernel_rfl⟩
theorem ag_140 : tyAgg Tryd.prog 140 = some (some 11) := by kernel_rfl
theorem ts_140 : tySize Tryd.prog 140 = some 11 := by kernel_rfl
theorem fo_140_0 : fldOff Tryd.prog 140 0 = some 0 := by kernel_rfl
theorem fo_140_1 : fldOff Tryd.prog 140 1 = some 1 := by kernel_rfl
theorem fo_140_2 : fldOff Tryd.prog 140 2 = some 2 := by kernel_rfl
theorem fo_140_3 : fldOff Tryd.prog 140 3 = some 3 := by kernel_rfl
theorem fo_140_4 : fldOff Tryd.prog 140 4 = some 4 := by kernel_rfl
theorem fo_140_5 : fldOff Tryd.prog 140 5 = some 5 := by kernel_rfl
theorem fo_140_6 : fldOff Tryd.prog 140 6 = some 6 := by kernel_rfl
theorem fo_140_7 : fldOff Tryd.prog 140 7 = some 7 := by kernel_rfl
theorem fo_140_8 : fldOff Tryd.prog 140 8 = some 8 := by kernel_rfl
theorem fo_140_9 : fldOff Tryd.prog 140 9 = some 9 := by kernel_rfl
theorem fo_140_10 : fldOff Tryd.prog 140 10 = some 10 := by kernel_rfl
theorem zc_140 : zeroOf Tryd.prog 140 = some (.agg #[.int .u64 0, .int .u64 0, .int .u32 0, .int .u8 0, .int .u8 0, .int .u8 0, .int .u8 0, .nilFunc, .pointer none, .int .i32 0, .int .i32 0]) := by kernel_rfl
theorem ti_140 : Tryd.prog.info? 140 = some Tryd.t140 := by kernel_rfl
theorem tz_140 : Tryd.t140.zero = some (.agg #[.int .u64 0, .int .u64 0, .int .u32 0, .int .u8 0, .int .u8 0, .int .u8 0, .int .u8 0, .nilFunc, .pointer none, .int .i32 0, .int .i32 0]) := by kernel_rfl
theorem bu_140 : BuTy Tryd.prog 140 [(0, 1), (1, 1), (2, 1), (3, 1), (4, 1), (5, 1), (6, 1), (7, 1), (8, 1), (9, 1), (10, 1)] [.int .u64 0, .int .u64 0, .int .u32 0, .int .u8 0, .int .u8 0, .int .u8 0, .int .u8 0, .nilFunc, .pointer none, .int .i32 0, .int .i32 0] := ⟨_, _, Tryd.underlying140, zc_140, rfl, by kernel_rfl⟩
theorem ag_141 : tyAgg Tryd.prog 141 = some (some 1) := by kernel_rfl
theorem ts_141 : tySize Tryd.prog 141 = some 1 := by kernel_rfl
theorem fo_141_0 : fldOff Tryd.prog 141 0 = some 0 := by kernel_rfl
theorem zc_141 : zeroOf Tryd.prog 141 = some (.agg #[.string ByteArray.empty]) := by kernel_rfl
theorem ti_141 : Tryd.prog.info? 141 = some Tryd.t141 := by kernel_rfl
theorem tz_141 : Tryd.t141.zero = some (.agg #[.string ByteArray.empty]) := by kernel_rfl
theorem bu_141 : BuTy Tryd.prog 141 [(0, 1)] [.string ByteArray.empty] := ⟨_, _, Tryd.underlying141, zc_141, rfl, by kernel_rfl⟩
theorem ag_142 : tyAgg Tryd.prog 142 = some (some 1) := by kernel_rfl
theorem ts_142 : tySize Tryd.prog 142 = some 1 := by kernel_rfl
theorem fo_142_0 : fldOff Tryd.prog 142 0 = some 0 := by kernel_rfl
theorem zc_142 : zeroOf Tryd.prog 142 = some (.agg #[.string ByteArray.empty]) := by kernel_rfl
theorem ti_142 : Tryd.prog.info? 142 = some Tryd.t142 := by kernel_rfl
theorem tz_142 : Tryd.t142.zero = some (.agg #[.string ByteArray.empty]) := by kernel_rfl
theorem bu_142 : BuTy Tryd.prog 142 [(0, 1)] [.string ByteArray.empty] := ⟨_, _, Tryd.underlying142, zc_142, rfl, by kernel_rfl⟩
theorem ag_143 : tyAgg Tryd.prog 143 = some none := by kernel_rfl
theorem ts_143 : tySize Tryd.prog 143 = some 1 := by kernel_rfl
theorem zc_143 : zeroOf Tryd.prog 143 = some (.pointer none) := by kernel_rfl
theorem ti_143 : Tryd.prog.info? 143 = some Tryd.t143 := by kernel_rfl
theorem tz_143 : Tryd.t143.zero = some (.pointer none) := by kernel_rfl
theorem ag_144 : tyAgg Tryd.prog 144 = some none := by kernel_rfl
theorem ts_144 : tySize Tryd.prog 144 = some 1 := by kernel_rfl
theorem zc_144 : zeroOf Tryd.prog 144 = some (.nilFunc) := by kernel_rfl
theorem ti_144 : Tryd.prog.info? 144 = some Tryd.t144 := by kernel_rfl
theorem tz_144 : Tryd.t144.zero = some (.nilFunc) := by kernel_rfl
theorem ba_120 : BuArr Tryd.prog 120 1 [.string ByteArray.empty, .string ByteArray.empty, .string ByteArray.empty, .string ByteArray.empty] := ⟨_, _, _, _, Tryd.underlying120, zc_120, rfl, ti_9, rfl⟩
theorem ba_122 : BuArr Tryd.prog 122 1 [.string ByteArray.empty, .string ByteArray.empty, .string ByteArray.empty, .string ByteArray.empty, .string ByteArray.empty, .string ByteArray.empty, .string ByteArray.empty] := ⟨_, _, _, _, Tryd.underlying122, zc_122, rfl, ti_9, rfl⟩
theorem ba_123 : BuArr Tryd.prog 123 1 [.string ByteArray.empty, .string ByteArray.empty, .string ByteArray.empty, .string ByteArray.empty, .string ByteArray.empty, .string ByteArray.empty, .string ByteArray.empty, .string ByteArray.empty, .string ByteArray.empty] := ⟨_, _, _, _, Tryd.underlying123, zc_123, rfl, ti_9, rfl⟩
theorem ba_124 : BuArr Tryd.prog 124 1 [.string ByteArray.empty, .string ByteArray.empty, .string ByteArray.empty] := ⟨_, _, _, _, Tryd.underlying124, zc_124, rfl, ti_9, rfl⟩
theorem ba_128 : BuArr Tryd.prog 128 1 [] := ⟨_, _, _, _, Tryd.underlying128, zc_128, rfl, ti_16, rfl⟩
theorem fn_2 : Fun Tryd.prog 2 := ⟨_, Tryd.func2, by kernel_rfl, by kernel_rfl⟩
theorem fn_3 : Fun Tryd.prog 3 := ⟨_, Tryd.func3, by kernel_rfl, by kernel_rfl⟩
theorem fn_4 : Fun Tryd.prog 4 := ⟨_, Tryd.func4, by kernel_rfl, by kernel_rfl⟩
theorem fn_5 : Fun Tryd.prog 5 := ⟨_, Tryd.func5, by kernel_rfl, by kernel_rfl⟩
theorem fn_6 : Fun Tryd.prog 6 := ⟨_, Tryd.func6, by kernel_rfl, by kernel_rfl⟩
theorem fn_7 : Fun Tryd.prog 7 := ⟨_, Tryd.func7, by kernel_rfl, by kernel_rfl⟩
theorem fn_8 : Fun Tryd.prog 8 := ⟨_, Tryd.func8, by kernel_rfl, by kernel_rfl⟩
theorem fn_9 : Fun Tryd.prog 9 := ⟨_, Tryd.func9, by kernel_rfl, by kernel_rfl⟩
theorem fn_10 : Fun Tryd.prog 10 := ⟨_, Tryd.func10, by kernel_rfl, by kernel_rfl⟩
theorem fn_11 : Fun Tryd.prog 11 := ⟨_, Tryd.func11, by kernel_rfl, by kernel_rfl⟩
theorem fn_12 : Fun Tryd.prog 12 := ⟨_, Tryd.func12, by kernel_rfl, by kernel_rfl⟩
theorem fn_13 : Fun Tryd.prog 13 := ⟨_, Tryd.func13, by kernel_rfl, by kernel_rfl⟩
theorem fn_14 : Fun Tryd.prog 14 := ⟨_, Tryd.func14, by kernel_rfl, by kernel_rfl⟩
theorem fn_15 : Fun Tryd.prog 15 := ⟨_, Tryd.func15, by kernel_rfl, by kernel_rfl⟩
theorem fn_16 : Fun Tryd.prog 16 := ⟨_, Tryd.func16, by kernel_rfl, by kernel_rfl⟩
theorem fn_17 : Fun Tryd.prog 17 := ⟨_, Tryd.func17, by kernel_rfl, by kernel_rfl⟩
theorem fn_18 : Fun Tryd.prog 18 := ⟨_, Tryd.func18, by kernel_rfl, by kernel_rfl⟩
theorem fn_19 : Fun Tryd.prog 19 := ⟨_, Tryd.func19, by kernel_rfl, by kernel_rfl⟩
theorem fn_20 : Fun Tryd.prog 20 := ⟨_, Tryd.func20, by kernel_rfl, by kernel_rfl⟩
theorem fn_21 : Fun Tryd.prog 21 := ⟨_, Tryd.func21, by kernel_rfl, by kernel_rfl⟩
theorem fn_22 : Fun Tryd.prog 22 := ⟨_, Tryd.func22, by kernel_rfl, by kernel_rfl⟩
theorem fn_23 : Fun Tryd.prog 23 := ⟨_, Tryd.func23, by kernel_rfl, by kernel_rfl⟩
theorem fn_24 : Fun Tryd.prog 24 := ⟨_, Tryd.func24, by kernel_rfl, by kernel_rfl⟩
theorem fn_25 : Fun Tryd.prog 25 := ⟨_, Tryd.func25, by kernel_rfl, by kernel_rfl⟩
theorem fn_26 : Fun Tryd.prog 26 := ⟨_, Tryd.func26, by kernel_rfl, by kernel_rfl⟩
theorem fn_27 : Fun Tryd.prog 27 := ⟨_, Tryd.func27, by kernel_rfl, by kernel_rfl⟩
theorem fn_28 : Fun Tryd.prog 28 := ⟨_, Tryd.func28, by kernel_rfl, by kernel_rfl⟩
theorem fn_29 : Fun Tryd.prog 29 := ⟨_, Tryd.func29, by kernel_rfl, by kernel_rfl⟩
theorem fn_30 : Fun Tryd.prog 30 := ⟨_, Tryd.func30, by kernel_rfl, by kernel_rfl⟩
theorem fn_31 : Fun Tryd.prog 31 := ⟨_, Tryd.func31, by kernel_rfl, by kernel_rfl⟩
theorem fn_32 : Fun Tryd.prog 32 := ⟨_, Tryd.func32, by kernel_rfl, by kernel_rfl⟩
theorem fn_33 : Fun Tryd.prog 33 := ⟨_, Tryd.func33, by kernel_rfl, by kernel_rfl⟩
theorem fn_34 : Fun Tryd.prog 34 := ⟨_, Tryd.func34, by kernel_rfl, by kernel_rfl⟩
theorem fn_35 : Fun Tryd.prog 35 := ⟨_, Tryd.func35, by kernel_rfl, by kernel_rfl⟩
theorem fn_36 : Fun Tryd.prog 36 := ⟨_, Tryd.func36, by kernel_rfl, by kernel_rfl⟩
theorem fn_37 : Fun Tryd.prog 37 := ⟨_, Tryd.func37, by kernel_rfl, by kernel_rfl⟩
theorem fn_38 : Fun Tryd.prog 38 := ⟨_, Tryd.func38, by kernel_rfl, by kernel_rfl⟩
theorem fn_39 : Fun Tryd.prog 39 := ⟨_, Tryd.func39, by kernel_rfl, by kernel_rfl⟩
theorem fn_40 : Fun Tryd.prog 40 := ⟨_, Tryd.func40, by kernel_rfl, by kernel_rfl⟩
theorem fn_41 : Fun Tryd.prog 41 := ⟨_, Tryd.func41, by kernel_rfl, by kernel_rfl⟩
theorem fn_42 : Fun Tryd.prog 42 := ⟨_, Tryd.func42, by kernel_rfl, by kernel_rfl⟩
theorem fn_43 : Fun Tryd.prog 43 := ⟨_, Tryd.func43, by kernel_rfl, by kernel_rfl⟩
theorem fn_44 : Fun Tryd.prog 44 := ⟨_, Tryd.func44, by kernel_rfl, by kernel_rfl⟩
theorem fn_45 : Fun Tryd.prog 45 := ⟨_, Tryd.func45, by kernel_rfl, by kernel_rfl⟩
theorem fn_46 : Fun Tryd.prog 46 := ⟨_, Tryd.func46, by kernel_rfl, by kernel_rfl⟩
theorem fn_47 : Fun Tryd.prog 47 := ⟨_, Tryd.func47, by kernel_rfl, by kernel_rfl⟩
theorem fn_48 : Fun Tryd.prog 48 := ⟨_, Tryd.func48, by kernel_rfl, by kernel_rfl⟩
theorem fn_49 : Fun Tryd.prog 49 := ⟨_, Tryd.func49, by kernel_rfl, by kernel_rfl⟩
theorem fn_50 : Fun Tryd.prog 50 := ⟨_, Tryd.func50, by kernel_rfl, by kernel_rfl⟩
theorem fn_51 : Fun Tryd.prog 51 := ⟨_, Tryd.func51, by kernel_rfl, by kernel_rfl⟩
theorem fn_52 : Fun Tryd.prog 52 := ⟨_, Tryd.func52, by kernel_rfl, by kernel_rfl⟩
theorem fn_53 : Fun Tryd.prog 53 := ⟨_, Tryd.func53, by kernel_rfl, by kernel_rfl⟩
theorem fn_54 : Fun Tryd.prog 54 := ⟨_, Tryd.func54, by kernel_rfl, by kernel_rfl⟩
theorem fn_55 : Fun Tryd.prog 55 := ⟨_, Tryd.func55, by kernel_rfl, by kernel_rfl⟩
theorem fn_56 : Fun Tryd.prog 56 := ⟨_, Tryd.func56, by kernel_rfl, by kernel_rfl⟩
theorem fn_57 : Fun Tryd.prog 57 := ⟨_, Tryd.func57, by kernel_rfl, by kernel_rfl⟩
theorem fn_58 : Fun Tryd.prog 58 := ⟨_, Tryd.func58, by kernel_rfl, by kernel_rfl⟩
theorem fn_59 : Fun Tryd.prog 59 := ⟨_, Tryd.func59, by kernel_rfl, by kernel_rfl⟩
theorem fn_60 : Fun Tryd.prog 60 := ⟨_, Tryd.func60, by kernel_rfl, by kernel_rfl⟩
theorem fn_61 : Fun Tryd.prog 61 := ⟨_, Tryd.func61, by kernel_rfl, by kernel_rfl⟩
theorem fn_62 : Fun Tryd.prog 62 := ⟨_, Tryd.func62, by kernel_rfl, by kernel_rfl⟩
theorem fn_63 : Fun Tryd.prog 63 := ⟨_, Tryd.func63, by kernel_rfl, by kernel_rfl⟩
theorem fn_64 : Fun Tryd.prog 64 := ⟨_, Tryd.func64, by kernel_rfl, by kernel_rfl⟩
theorem fn_65 : Fun Tryd.prog 65 := ⟨_, Tryd.func65, by kernel_rfl, by kernel_rfl⟩
theorem fn_66 : Fun Tryd.prog 66 := ⟨_, Tryd.func66, by kernel_rfl, by kernel_rfl⟩
theorem fn_67 : Fun Tryd.prog 67 := ⟨_, Tryd.func67, by kernel_rfl, by kernel_rfl⟩
theorem fn_68 : Fun Tryd.prog 68 := ⟨_, Tryd.func68, by kernel_rfl, by kernel_rfl⟩
theorem fn_69 : Fun Tryd.prog 69 := ⟨_, Tryd.func69, by kernel_rfl, by kernel_rfl⟩
theorem fn_70 : Fun Tryd.prog 70 := ⟨_, Tryd.func70, by kernel_rfl, by kernel_rfl⟩
theorem fn_71 : Fun Tryd.prog 71 := ⟨_, Tryd.func71, by kernel_rfl, by kernel_rfl⟩
theorem fn_72 : Fun Tryd.prog 72 := ⟨_, Tryd.func72, by kernel_rfl, by kernel_rfl⟩
theorem fn_73 : Fun Tryd.prog 73 := ⟨_, Tryd.func73, by kernel_rfl, by kernel_rfl⟩
theorem fn_74 : Fun Tryd.prog 74 := ⟨_, Tryd.func74, by kernel_rfl, by kernel_rfl⟩
theorem fn_75 : Fun Tryd.prog 75 := ⟨_, Tryd.func75, by kernel_rfl, by kernel_rfl⟩
theorem fn_76 : Fun Tryd.prog 76 := ⟨_, Tryd.func76, by kernel_rfl, by kernel_rfl⟩
theorem fn_77 : Fun Tryd.prog 77 := ⟨_, Tryd.func77, by kernel_rfl, by kernel_rfl⟩
theorem fn_78 : Fun Tryd.prog 78 := ⟨_, Tryd.func78, by kernel_rfl, by kernel_rfl⟩
theorem fn_79 : Fun Tryd.prog 79 := ⟨_, Tryd.func79, by kernel_rfl, by kernel_rfl⟩
theorem fn_80 : Fun Tryd.prog 80 := ⟨_, Tryd.func80, by kernel_rfl, by kernel_rfl⟩
theorem fn_81 : Fun Tryd.prog 81 := ⟨_, Tryd.func81, by kernel_rfl, by kernel_rfl⟩
theorem fn_82 : Fun Tryd.prog 82 := ⟨_, Tryd.func82, by kernel_rfl, by kernel_rfl⟩
theorem fn_83 : Fun Tryd.prog 83 := ⟨_, Tryd.func83, by kernel_rfl, by kernel_rfl⟩
theorem fn_84 : Fun Tryd.prog 84 := ⟨_, Tryd.func84, by kernel_rfl, by kernel_rfl⟩
theorem fn_85 : Fun Tryd.prog 85 := ⟨_, Tryd.func85, by kernel_rfl, by kernel_rfl⟩
theorem fn_86 : Fun Tryd.prog 86 := ⟨_, Tryd.func86, by kernel_rfl, by kernel_rfl⟩
theorem fn_87 : Fun Tryd.prog 87 := ⟨_, Tryd.func87, by kernel_rfl, by kernel_rfl⟩
theorem fn_88 : Fun Tryd.prog 88 := ⟨_, Tryd.func88, by kernel_rfl, by kernel_rfl⟩
theorem fn_89 : Fun Tryd.prog 89 := ⟨_, Tryd.func89, by kernel_rfl, by kernel_rfl⟩
theorem fn_90 : Fun Tryd.prog 90 := ⟨_, Tryd.func90, by kernel_rfl, by kernel_rfl⟩
theorem fn_91 : Fun Tryd.prog 91 := ⟨_, Tryd.func91, by kernel_rfl, by kernel_rfl⟩
theorem fn_92 : Fun Tryd.prog 92 := ⟨_, Tryd.func92, by kernel_rfl, by kernel_rfl⟩
theorem fn_93 : Fun Tryd.prog 93 := ⟨_, Tryd.func93, by kernel_rfl, by kernel_rfl⟩
theorem fn_94 : Fun Tryd.prog 94 := ⟨_, Tryd.func94, by kernel_rfl, by kernel_rfl⟩
theorem fn_95 : Fun Tryd.prog 95 := ⟨_, Tryd.func95, by kernel_rfl, by kernel_rfl⟩
theorem fn_96 : Fun Tryd.prog 96 := ⟨_, Tryd.func96, by kernel_rfl, by kernel_rfl⟩
theorem fn_97 : Fun Tryd.prog 97 := ⟨_, Tryd.func97, by kernel_rfl, by kernel_rfl⟩
theorem fn_98 : Fun Tryd.prog 98 := ⟨_, Tryd.func98, by kernel_rfl, by kernel_rfl⟩

end Go.Proofs.YtijafcilfefafaaDoor
