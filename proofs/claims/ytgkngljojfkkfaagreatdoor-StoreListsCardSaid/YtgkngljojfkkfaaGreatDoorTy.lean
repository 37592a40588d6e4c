/- The types of the program: how many cells, where the fields lie, their zeros; the functions that can be called. -/
import Derived.Test.YtgkngljojfkkfaaGreatDoorProg
import Derived.Test.YtgkngljojfkkfaaGreatDoorU28
namespace Go.Proofs.YtgkngljojfkkfaaGreatDoor
open Go Go.U

theorem ts_0 : tySize Tryz.prog 0 = some 1 := by kernel_rfl
theorem zc_0 : zeroOf Tryz.prog 0 = some (.tuple #[]) := by kernel_rfl
theorem ti_0 : Tryz.prog.info? 0 = some Tryz.t0 := by kernel_rfl
theorem tz_0 : Tryz.t0.zero = some (.tuple #[]) := by kernel_rfl
theorem ag_1 : tyAgg Tryz.prog 1 = some none := by kernel_rfl
theorem ts_1 : tySize Tryz.prog 1 = some 1 := by kernel_rfl
theorem zc_1 : zeroOf Tryz.prog 1 = some (.nilFunc) := by kernel_rfl
theorem ti_1 : Tryz.prog.info? 1 = some Tryz.t1 := by kernel_rfl
theorem tz_1 : Tryz.t1.zero = some (.nilFunc) := by kernel_rfl
theorem ag_2 : tyAgg Tryz.prog 2 = some none := by kernel_rfl
theorem ts_2 : tySize Tryz.prog 2 = some 1 := by kernel_rfl
theorem zc_2 : zeroOf Tryz.prog 2 = some (.int .i64 0) := by kernel_rfl
theorem ti_2 : Tryz.prog.info? 2 = some Tryz.t2 := by kernel_rfl
theorem tz_2 : Tryz.t2.zero = some (.int .i64 0) := by kernel_rfl
theorem ag_3 : tyAgg Tryz.prog 3 = some none := by kernel_rfl
theorem ts_3 : tySize Tryz.prog 3 = some 1 := by kernel_rfl
theorem zc_3 : zeroOf Tryz.prog 3 = some (.int .i64 0) := by kernel_rfl
theorem ti_3 : Tryz.prog.info? 3 = some Tryz.t3 := by kernel_rfl
theorem tz_3 : Tryz.t3.zero = some (.int .i64 0) := by kernel_rfl
theorem ag_4 : tyAgg Tryz.prog 4 = some none := by kernel_rfl
theorem ts_4 : tySize Tryz.prog 4 = some 1 := by kernel_rfl
theorem zc_4 : zeroOf Tryz.prog 4 = some (.bool false) := by kernel_rfl
theorem ti_4 : Tryz.prog.info? 4 = some Tryz.t4 := by kernel_rfl
theorem tz_4 : Tryz.t4.zero = some (.bool false) := by kernel_rfl
theorem ag_5 : tyAgg Tryz.prog 5 = some none := by kernel_rfl
theorem ts_5 : tySize Tryz.prog 5 = some 1 := by kernel_rfl
theorem zc_5 : zeroOf Tryz.prog 5 = some (.int .u8 0) := by kernel_rfl
theorem ti_5 : Tryz.prog.info? 5 = some Tryz.t5 := by kernel_rfl
theorem tz_5 : Tryz.t5.zero = some (.int .u8 0) := by kernel_rfl
theorem ag_6 : tyAgg Tryz.prog 6 = some none := by kernel_rfl
theorem ts_6 : tySize Tryz.prog 6 = some 1 := by kernel_rfl
theorem zc_6 : zeroOf Tryz.prog 6 = some (.int .u8 0) := by kernel_rfl
theorem ti_6 : Tryz.prog.info? 6 = some Tryz.t6 := by kernel_rfl
theorem tz_6 : Tryz.t6.zero = some (.int .u8 0) := by kernel_rfl
theorem ag_7 : tyAgg Tryz.prog 7 = some (some 4) := by kernel_rfl
theorem ts_7 : tySize Tryz.prog 7 = some 4 := by kernel_rfl
theorem fo_7_0 : fldOff Tryz.prog 7 0 = some 0 := by kernel_rfl
theorem fo_7_1 : fldOff Tryz.prog 7 1 = some 1 := by kernel_rfl
theorem fo_7_2 : fldOff Tryz.prog 7 2 = some 2 := by kernel_rfl
theorem fo_7_3 : fldOff Tryz.prog 7 3 = some 3 := by kernel_rfl
theorem zc_7 : zeroOf Tryz.prog 7 = some (.agg #[.int .i64 0, .int .i64 0, .bool false, .int .u8 0]) := by kernel_rfl
theorem ti_7 : Tryz.prog.info? 7 = some Tryz.t7 := by kernel_rfl
theorem tz_7 : Tryz.t7.zero = some (.agg #[.int .i64 0, .int .i64 0, .bool false, .int .u8 0]) := by kernel_rfl
theorem bu_7 : BuTy Tryz.prog 7 [(0, 1), (1, 1), (2, 1), (3, 1)] [.int .i64 0, .int .i64 0, .bool false, .int .u8 0] := ⟨_, _, Tryz.underlying7, zc_7, rfl, by kernel_rfl⟩
theorem ag_8 : tyAgg Tryz.prog 8 = some (some 4) := by kernel_rfl
theorem ts_8 : tySize Tryz.prog 8 = some 4 := by kernel_rfl
theorem fo_8_0 : fldOff Tryz.prog 8 0 = some 0 := by kernel_rfl
theorem fo_8_1 : fldOff Tryz.prog 8 1 = some 1 := by kernel_rfl
theorem fo_8_2 : fldOff Tryz.prog 8 2 = some 2 := by kernel_rfl
theorem fo_8_3 : fldOff Tryz.prog 8 3 = some 3 := by kernel_rfl
theorem zc_8 : zeroOf Tryz.prog 8 = some (.agg #[.int .i64 0, .int .i64 0, .bool false, .int .u8 0]) := by kernel_rfl
theorem ti_8 : Tryz.prog.info? 8 = some Tryz.t8 := by kernel_rfl
theorem tz_8 : Tryz.t8.zero = some (.agg #[.int .i64 0, .int .i64 0, .bool false, .int .u8 0]) := by kernel_rfl
theorem bu_8 : BuTy Tryz.prog 8 [(0, 1), (1, 1), (2, 1), (3, 1)] [.int .i64 0, .int .i64 0, .bool false, .int .u8 0] := ⟨_, _, Tryz.underlying8, zc_8, rfl, by kernel_rfl⟩
theorem ag_9 : tyAgg Tryz.prog 9 = some none := by kernel_rfl
theorem ts_9 : tySize Tryz.prog 9 = some 1 := by kernel_rfl
theorem zc_9 : zeroOf Tryz.prog 9 = some (.string ByteArray.empty) := by kernel_rfl
theorem ti_9 : Tryz.prog.info? 9 = some Tryz.t9 := by kernel_rfl
theorem tz_9 : Tryz.t9.zero = some (.string ByteArray.empty) := by kernel_rfl
theorem ag_10 : tyAgg Tryz.prog 10 = some none := by kernel_rfl
theorem ts_10 : tySize Tryz.prog 10 = some 1 := by kernel_rfl
theorem zc_10 : zeroOf Tryz.prog 10 = some (.string ByteArray.empty) := by kernel_rfl
theorem ti_10 : Tryz.prog.info? 10 = some Tryz.t10 := by kernel_rfl
theorem tz_10 : Tryz.t10.zero = some (.string ByteArray.empty) := by kernel_rfl
theorem ag_11 : tyAgg Tryz.prog 11 = some none := by kernel_rfl
theorem ts_11 : tySize Tryz.prog 11 = some 1 := by kernel_rfl
theorem zc_11 : zeroOf Tryz.prog 11 = some (.string ByteArray.empty) := by kernel_rfl
theorem ti_11 : Tryz.prog.info? 11 = some Tryz.t11 := by kernel_rfl
theorem tz_11 : Tryz.t11.zero = some (.string ByteArray.empty) := by kernel_rfl
theorem ag_12 : tyAgg Tryz.prog 12 = some none := by kernel_rfl
theorem ts_12 : tySize Tryz.prog 12 = some 1 := by kernel_rfl
theorem zc_12 : zeroOf Tryz.prog 12 = some (.int .u64 0) := by kernel_rfl
theorem ti_12 : Tryz.prog.info? 12 = some Tryz.t12 := by kernel_rfl
theorem tz_12 : Tryz.t12.zero = some (.int .u64 0) := by kernel_rfl
theorem ag_13 : tyAgg Tryz.prog 13 = some (some 2) := by kernel_rfl
theorem ts_13 : tySize Tryz.prog 13 = some 2 := by kernel_rfl
theorem fo_13_0 : fldOff Tryz.prog 13 0 = some 0 := by kernel_rfl
theorem fo_13_1 : fldOff Tryz.prog 13 1 = some 1 := by kernel_rfl
theorem zc_13 : zeroOf Tryz.prog 13 = some (.agg #[.string ByteArray.empty, .int .u64 0]) := by kernel_rfl
theorem ti_13 : Tryz.prog.info? 13 = some Tryz.t13 := by kernel_rfl
theorem tz_13 : Tryz.t13.zero = some (.agg #[.string ByteArray.empty, .int .u64 0]) := by kernel_rfl
theorem bu_13 : BuTy Tryz.prog 13 [(0, 1), (1, 1)] [.string ByteArray.empty, .int .u64 0] := ⟨_, _, Tryz.underlying13, zc_13, rfl, by kernel_rfl⟩
theorem ag_14 : tyAgg Tryz.prog 14 = some (some 2) := by kernel_rfl
theorem ts_14 : tySize Tryz.prog 14 = some 2 := by kernel_rfl
theorem fo_14_0 : fldOff Tryz.prog 14 0 = some 0 := by kernel_rfl
theorem fo_14_1 : fldOff Tryz.prog 14 1 = some 1 := by kernel_rfl
theorem zc_14 : zeroOf Tryz.prog 14 = some (.agg #[.string ByteArray.empty, .int .u64 0]) := by kernel_rfl
theorem ti_14 : Tryz.prog.info? 14 = some Tryz.t14 := by kernel_rfl
theorem tz_14 : Tryz.t14.zero = some (.agg #[.string ByteArray.empty, .int .u64 0]) := by kernel_rfl
theorem bu_14 : BuTy Tryz.prog 14 [(0, 1), (1, 1)] [.string ByteArray.empty, .int .u64 0] := ⟨_, _, Tryz.underlying14, zc_14, rfl, by kernel_rfl⟩
theorem ag_15 : tyAgg Tryz.prog 15 = some none := by kernel_rfl
theorem ts_15 : tySize Tryz.prog 15 = some 1 := by kernel_rfl
theorem zc_15 : zeroOf Tryz.prog 15 = some (.pointer none) := by kernel_rfl
theorem ti_15 : Tryz.prog.info? 15 = some Tryz.t15 := by kernel_rfl
theorem tz_15 : Tryz.t15.zero = some (.pointer none) := by kernel_rfl
theorem ag_16 : tyAgg Tryz.prog 16 = some none := by kernel_rfl
theorem ts_16 : tySize Tryz.prog 16 = some 1 := by kernel_rfl
theorem zc_16 : zeroOf Tryz.prog 16 = some (.pointer none) := by kernel_rfl
theorem ti_16 : Tryz.prog.info? 16 = some Tryz.t16 := by kernel_rfl
theorem tz_16 : Tryz.t16.zero = some (.pointer none) := by kernel_rfl
theorem ag_17 : tyAgg Tryz.prog 17 = some none := by kernel_rfl
theorem ts_17 : tySize Tryz.prog 17 = some 1 := by kernel_rfl
theorem zc_17 : zeroOf Tryz.prog 17 = some (.pointer none) := by kernel_rfl
theorem ti_17 : Tryz.prog.info? 17 = some Tryz.t17 := by kernel_rfl
theorem tz_17 : Tryz.t17.zero = some (.pointer none) := by kernel_rfl
theorem ag_18 : tyAgg Tryz.prog 18 = some (some 1) := by kernel_rfl
theorem ts_18 : tySize Tryz.prog 18 = some 1 := by kernel_rfl
theorem fo_18_0 : fldOff Tryz.prog 18 0 = some 0 := by kernel_rfl
theorem zc_18 : zeroOf Tryz.prog 18 = some (.agg #[.pointer none]) := by kernel_rfl
theorem ti_18 : Tryz.prog.info? 18 = some Tryz.t18 := by kernel_rfl
theorem tz_18 : Tryz.t18.zero = some (.agg #[.pointer none]) := by kernel_rfl
theorem bu_18 : BuTy Tryz.prog 18 [(0, 1)] [.pointer none] := ⟨_, _, Tryz.underlying18, zc_18, rfl, by kernel_rfl⟩
theorem ag_19 : tyAgg Tryz.prog 19 = some (some 1) := by kernel_rfl
theorem ts_19 : tySize Tryz.prog 19 = some 1 := by kernel_rfl
theorem fo_19_0 : fldOff Tryz.prog 19 0 = some 0 := by kernel_rfl
theorem zc_19 : zeroOf Tryz.prog 19 = some (.agg #[.pointer none]) := by kernel_rfl
theorem ti_19 : Tryz.prog.info? 19 = some Tryz.t19 := by kernel_rfl
theorem tz_19 : Tryz.t19.zero = some (.agg #[.pointer none]) := by kernel_rfl
theorem bu_19 : BuTy Tryz.prog 19 [(0, 1)] [.pointer none] := ⟨_, _, Tryz.underlying19, zc_19, rfl, by kernel_rfl⟩
theorem ag_20 : tyAgg Tryz.prog 20 = some none := by kernel_rfl
theorem ts_20 : tySize Tryz.prog 20 = some 1 := by kernel_rfl
theorem zc_20 : zeroOf Tryz.prog 20 = some (.nilIface) := by kernel_rfl
theorem ti_20 : Tryz.prog.info? 20 = some Tryz.t20 := by kernel_rfl
theorem tz_20 : Tryz.t20.zero = some (.nilIface) := by kernel_rfl
theorem ag_21 : tyAgg Tryz.prog 21 = some none := by kernel_rfl
theorem ts_21 : tySize Tryz.prog 21 = some 1 := by kernel_rfl
theorem zc_21 : zeroOf Tryz.prog 21 = some (.int .i32 0) := by kernel_rfl
theorem ti_21 : Tryz.prog.info? 21 = some Tryz.t21 := by kernel_rfl
theorem tz_21 : Tryz.t21.zero = some (.int .i32 0) := by kernel_rfl
theorem ag_22 : tyAgg Tryz.prog 22 = some none := by kernel_rfl
theorem ts_22 : tySize Tryz.prog 22 = some 1 := by kernel_rfl
theorem sz_22 : slSize Tryz.prog 22 = some 3 := by kernel_rfl
theorem st_22 : SlTy Tryz.prog 22 24 3 24 := ⟨Tryz.underlying22, ⟨_, _, (by kernel_rfl : Tryz.prog.info? 24 = some Tryz.t24), (by kernel_rfl : Tryz.t24.zero = some (.agg #[.int .i64 0, .int .i64 0, .int .i64 0])), by kernel_rfl, by kernel_rfl, by kernel_rfl⟩, by decide⟩
theorem zc_22 : zeroOf Tryz.prog 22 = some (.slice none 0 0) := by kernel_rfl
theorem ti_22 : Tryz.prog.info? 22 = some Tryz.t22 := by kernel_rfl
theorem tz_22 : Tryz.t22.zero = some (.slice none 0 0) := by kernel_rfl
theorem ag_23 : tyAgg Tryz.prog 23 = some (some 3) := by kernel_rfl
theorem ts_23 : tySize Tryz.prog 23 = some 3 := by kernel_rfl
theorem fo_23_0 : fldOff Tryz.prog 23 0 = some 0 := by kernel_rfl
theorem fo_23_1 : fldOff Tryz.prog 23 1 = some 1 := by kernel_rfl
theorem fo_23_2 : fldOff Tryz.prog 23 2 = some 2 := by kernel_rfl
theorem zc_23 : zeroOf Tryz.prog 23 = some (.agg #[.int .i64 0, .int .i64 0, .int .i64 0]) := by kernel_rfl
theorem ti_23 : Tryz.prog.info? 23 = some Tryz.t23 := by kernel_rfl
theorem tz_23 : Tryz.t23.zero = some (.agg #[.int .i64 0, .int .i64 0, .int .i64 0]) := by kernel_rfl
theorem bu_23 : BuTy Tryz.prog 23 [(0, 1), (1, 1), (2, 1)] [.int .i64 0, .int .i64 0, .int .i64 0] := ⟨_, _, Tryz.underlying23, zc_23, rfl, by kernel_rfl⟩
theorem ag_24 : tyAgg Tryz.prog 24 = some (some 3) := by kernel_rfl
theorem ts_24 : tySize Tryz.prog 24 = some 3 := by kernel_rfl
theorem fo_24_0 : fldOff Tryz.prog 24 0 = some 0 := by kernel_rfl
theorem fo_24_1 : fldOff Tryz.prog 24 1 = some 1 := by kernel_rfl
theorem fo_24_2 : fldOff Tryz.prog 24 2 = some 2 := by kernel_rfl
theorem zc_24 : zeroOf Tryz.prog 24 = some (.agg #[.int .i64 0, .int .i64 0, .int .i64 0]) := by kernel_rfl
theorem ti_24 : Tryz.prog.info? 24 = some Tryz.t24 := by kernel_rfl
theorem tz_24 : Tryz.t24.zero = some (.agg #[.int .i64 0, .int .i64 0, .int .i64 0]) := by kernel_rfl
theorem bu_24 : BuTy Tryz.prog 24 [(0, 1), (1, 1), (2, 1)] [.int .i64 0, .int .i64 0, .int .i64 0] := ⟨_, _, Tryz.underlying24, zc_24, rfl, by kernel_rfl⟩
theorem ag_25 : tyAgg Tryz.prog 25 = some none := by kernel_rfl
theorem ts_25 : tySize Tryz.prog 25 = some 1 := by kernel_rfl
theorem zc_25 : zeroOf Tryz.prog 25 = some (.nilFunc) := by kernel_rfl
theorem ti_25 : Tryz.prog.info? 25 = some Tryz.t25 := by kernel_rfl
theorem tz_25 : Tryz.t25.zero = some (.nilFunc) := by kernel_rfl
theorem ag_26 : tyAgg Tryz.prog 26 = some none := by kernel_rfl
theorem ts_26 : tySize Tryz.prog 26 = some 1 := by kernel_rfl
theorem sz_26 : slSize Tryz.prog 26 = some 1 := by kernel_rfl
theorem st_26 : SlTy Tryz.prog 26 3 1 8 := ⟨Tryz.underlying26, ⟨_, _, (by kernel_rfl : Tryz.prog.info? 3 = some Tryz.t3), (by kernel_rfl : Tryz.t3.zero = some (.int .i64 0)), by kernel_rfl, by kernel_rfl, by kernel_rfl⟩, by decide⟩
theorem zc_26 : zeroOf Tryz.prog 26 = some (.slice none 0 0) := by kernel_rfl
theorem ti_26 : Tryz.prog.info? 26 = some Tryz.t26 := by kernel_rfl
theorem tz_26 : Tryz.t26.zero = some (.slice none 0 0) := by kernel_rfl
theorem ag_27 : tyAgg Tryz.prog 27 = some none := by kernel_rfl
theorem ts_27 : tySize Tryz.prog 27 = some 1 := by kernel_rfl
theorem sz_27 : slSize Tryz.prog 27 = some 2 := by kernel_rfl
theorem st_27 : SlTy Tryz.prog 27 110 2 16 := ⟨Tryz.underlying27, ⟨_, _, (by kernel_rfl : Tryz.prog.info? 110 = some Tryz.t110), (by kernel_rfl : Tryz.t110.zero = some (.agg #[.int .i64 0, .int .i64 0])), by kernel_rfl, by kernel_rfl, by kernel_rfl⟩, by decide⟩
theorem zc_27 : zeroOf Tryz.prog 27 = some (.slice none 0 0) := by kernel_rfl
theorem ti_27 : Tryz.prog.info? 27 = some Tryz.t27 := by kernel_rfl
theorem tz_27 : Tryz.t27.zero = some (.slice none 0 0) := by kernel_rfl
theorem ag_28 : tyAgg Tryz.prog 28 = some (some 4) := by kernel_rfl
theorem ts_28 : tySize Tryz.prog 28 = some 4 := by kernel_rfl
theorem fo_28_0 : fldOff Tryz.prog 28 0 = some 0 := by kernel_rfl
theorem fo_28_1 : fldOff Tryz.prog 28 1 = some 1 := by kernel_rfl
theorem fo_28_2 : fldOff Tryz.prog 28 2 = some 2 := by kernel_rfl
theorem fo_28_3 : fldOff Tryz.prog 28 3 = some 3 := by kernel_rfl
theorem zc_28 : zeroOf Tryz.prog 28 = some (.agg #[.int .i64 0, .int .i64 0, .slice none 0 0, .slice none 0 0]) := by kernel_rfl
theorem ti_28 : Tryz.prog.info? 28 = some Tryz.t28 := by kernel_rfl
theorem tz_28 : Tryz.t28.zero = some (.agg #[.int .i64 0, .int .i64 0, .slice none 0 0, .slice none 0 0]) := by kernel_rfl
theorem bu_28 : BuTy Tryz.prog 28 [(0, 1), (1, 1), (2, 1), (3, 1)] [.int .i64 0, .int .i64 0, .slice none 0 0, .slice none 0 0] := ⟨_, _, Tryz.underlying28, zc_28, rfl, by kernel_rfl⟩
theorem ag_29 : tyAgg Tryz.prog 29 = some (some 4) := by kernel_rfl
theorem ts_29 : tySize Tryz.prog 29 = some 4 := by kernel_rfl
theorem fo_29_0 : fldOff Tryz.prog 29 0 = some 0 := by kernel_rfl
theorem fo_29_1 : fldOff Tryz.prog 29 1 = some 1 := by kernel_rfl
theorem fo_29_2 : fldOff Tryz.prog 29 2 = some 2 := by kernel_rfl
theorem fo_29_3 : fldOff Tryz.prog 29 3 = some 3 := by kernel_rfl
theorem zc_29 : zeroOf Tryz.prog 29 = some (.agg #[.int .i64 0, .int .i64 0, .slice none 0 0, .slice none 0 0]) := by kernel_rfl
theorem ti_29 : Tryz.prog.info? 29 = some Tryz.t29 := by kernel_rfl
theorem tz_29 : Tryz.t29.zero = some (.agg #[.int .i64 0, .int .i64 0, .slice none 0 0, .slice none 0 0]) := by kernel_rfl
theorem bu_29 : BuTy Tryz.prog 29 [(0, 1), (1, 1), (2, 1), (3, 1)] [.int .i64 0, .int .i64 0, .slice none 0 0, .slice none 0 0] := ⟨_, _, Tryz.underlying29, zc_29, rfl, by kernel_rfl⟩
theorem ag_30 : tyAgg Tryz.prog 30 = some none := by kernel_rfl
theorem ts_30 : tySize Tryz.prog 30 = some 1 := by kernel_rfl
theorem zc_30 : zeroOf Tryz.prog 30 = some (.nilIface) := by kernel_rfl
theorem ti_30 : Tryz.prog.info? 30 = some Tryz.t30 := by kernel_rfl
theorem tz_30 : Tryz.t30.zero = some (.nilIface) := by kernel_rfl
theorem ag_31 : tyAgg Tryz.prog 31 = some none := by kernel_rfl
theorem ts_31 : tySize Tryz.prog 31 = some 1 := by kernel_rfl
theorem zc_31 : zeroOf Tryz.prog 31 = some (.nilIface) := by kernel_rfl
theorem ti_31 : Tryz.prog.info? 31 = some Tryz.t31 := by kernel_rfl
theorem tz_31 : Tryz.t31.zero = some (.nilIface) := by kernel_rfl
theorem ts_32 : tySize Tryz.prog 32 = some 1 := by kernel_rfl
theorem zc_32 : zeroOf Tryz.prog 32 = some (.tuple #[.agg #[.int .i64 0, .int .i64 0, .slice none 0 0, .slice none 0 0], .nilIface]) := by kernel_rfl
theorem ti_32 : Tryz.prog.info? 32 = some Tryz.t32 := by kernel_rfl
theorem tz_32 : Tryz.t32.zero = some (.tuple #[.agg #[.int .i64 0, .int .i64 0, .slice none 0 0, .slice none 0 0], .nilIface]) := by kernel_rfl
theorem ag_33 : tyAgg Tryz.prog 33 = some none := by kernel_rfl
theorem ts_33 : tySize Tryz.prog 33 = some 1 := by kernel_rfl
theorem zc_33 : zeroOf Tryz.prog 33 = some (.nilFunc) := by kernel_rfl
theorem ti_33 : Tryz.prog.info? 33 = some Tryz.t33 := by kernel_rfl
theorem tz_33 : Tryz.t33.zero = some (.nilFunc) := by kernel_rfl
theorem ag_34 : tyAgg Tryz.prog 34 = some (some 2) := by kernel_rfl
theorem ts_34 : tySize Tryz.prog 34 = some 2 := by kernel_rfl
theorem fo_34_0 : fldOff Tryz.prog 34 0 = some 0 := by kernel_rfl
theorem fo_34_1 : fldOff Tryz.prog 34 1 = some 1 := by kernel_rfl
theorem zc_34 : zeroOf Tryz.prog 34 = some (.agg #[.int .i64 0, .int .i64 0]) := by kernel_rfl
theorem ti_34 : Tryz.prog.info? 34 = some Tryz.t34 := by kernel_rfl
theorem tz_34 : Tryz.t34.zero = some (.agg #[.int .i64 0, .int .i64 0]) := by kernel_rfl
theorem bu_34 : BuTy Tryz.prog 34 [(0, 1), (1, 1)] [.int .i64 0, .int .i64 0] := ⟨_, _, Tryz.underlying34, zc_34, rfl, by kernel_rfl⟩
theorem ag_35 : tyAgg Tryz.prog 35 = some (some 2) := by kernel_rfl
theorem ts_35 : tySize Tryz.prog 35 = some 2 := by kernel_rfl
theorem fo_35_0 : fldOff Tryz.prog 35 0 = some 0 := by kernel_rfl
theorem fo_35_1 : fldOff Tryz.prog 35 1 = some 1 := by kernel_rfl
theorem zc_35 : zeroOf Tryz.prog 35 = some (.agg #[.int .i64 0, .int .i64 0]) := by kernel_rfl
theorem ti_35 : Tryz.prog.info? 35 = some Tryz.t35 := by kernel_rfl
theorem tz_35 : Tryz.t35.zero = some (.agg #[.int .i64 0, .int .i64 0]) := by kernel_rfl
theorem bu_35 : BuTy Tryz.prog 35 [(0, 1), (1, 1)] [.int .i64 0, .int .i64 0] := ⟨_, _, Tryz.underlying35, zc_35, rfl, by kernel_rfl⟩
theorem ts_36 : tySize Tryz.prog 36 = some 1 := by kernel_rfl
theorem zc_36 : zeroOf Tryz.prog 36 = some (.tuple #[.agg #[.int .i64 0, .int .i64 0, .slice none 0 0, .slice none 0 0], .int .i64 0, .int .i64 0, .nilIface]) := by kernel_rfl
theorem ti_36 : Tryz.prog.info? 36 = some Tryz.t36 := by kernel_rfl
theorem tz_36 : Tryz.t36.zero = some (.tuple #[.agg #[.int .i64 0, .int .i64 0, .slice none 0 0, .slice none 0 0], .int .i64 0, .int .i64 0, .nilIface]) := by kernel_rfl
theorem ag_37 : tyAgg Tryz.prog 37 = some none := by kernel_rfl
theorem ts_37 : tySize Tryz.prog 37 = some 1 := by kernel_rfl
theorem zc_37 : zeroOf Tryz.prog 37 = some (.nilFunc) := by kernel_rfl
theorem ti_37 : Tryz.prog.info? 37 = some Tryz.t37 := by kernel_rfl
theorem tz_37 : Tryz.t37.zero = some (.nilFunc) := by kernel_rfl
theorem ag_38 : tyAgg Tryz.prog 38 = some none := by kernel_rfl
theorem ts_38 : tySize Tryz.prog 38 = some 1 := by kernel_rfl
theorem zc_38 : zeroOf Tryz.prog 38 = some (.nilFunc) := by kernel_rfl
theorem ti_38 : Tryz.prog.info? 38 = some Tryz.t38 := by kernel_rfl
theorem tz_38 : Tryz.t38.zero = some (.nilFunc) := by kernel_rfl
theorem ag_39 : tyAgg Tryz.prog 39 = some none := by kernel_rfl
theorem ts_39 : tySize Tryz.prog 39 = some 1 := by kernel_rfl
theorem zc_39 : zeroOf Tryz.prog 39 = some (.nilFunc) := by kernel_rfl
theorem ti_39 : Tryz.prog.info? 39 = some Tryz.t39 := by kernel_rfl
theorem tz_39 : Tryz.t39.zero = some (.nilFunc) := by kernel_rfl
theorem ag_40 : tyAgg Tryz.prog 40 = some none := by kernel_rfl
theorem ts_40 : tySize Tryz.prog 40 = some 1 := by kernel_rfl
theorem zc_40 : zeroOf Tryz.prog 40 = some (.nilFunc) := by kernel_rfl
theorem ti_40 : Tryz.prog.info? 40 = some Tryz.t40 := by kernel_rfl
theorem tz_40 : Tryz.t40.zero = some (.nilFunc) := by kernel_rfl
theorem ag_41 : tyAgg Tryz.prog 41 = some none := by kernel_rfl
theorem ts_41 : tySize Tryz.prog 41 = some 1 := by kernel_rfl
theorem zc_41 : zeroOf Tryz.prog 41 = some (.nilFunc) := by kernel_rfl
theorem ti_41 : Tryz.prog.info? 41 = some Tryz.t41 := by kernel_rfl
theorem tz_41 : Tryz.t41.zero = some (.nilFunc) := by kernel_rfl
theorem ag_42 : tyAgg Tryz.prog 42 = some none := by kernel_rfl
theorem ts_42 : tySize Tryz.prog 42 = some 1 := by kernel_rfl
theorem zc_42 : zeroOf Tryz.prog 42 = some (.nilFunc) := by kernel_rfl
theorem ti_42 : Tryz.prog.info? 42 = some Tryz.t42 := by kernel_rfl
theorem tz_42 : Tryz.t42.zero = some (.nilFunc) := by kernel_rfl
theorem ag_43 : tyAgg Tryz.prog 43 = some none := by kernel_rfl
theorem ts_43 : tySize Tryz.prog 43 = some 1 := by kernel_rfl
theorem zc_43 : zeroOf Tryz.prog 43 = some (.nilFunc) := by kernel_rfl
theorem ti_43 : Tryz.prog.info? 43 = some Tryz.t43 := by kernel_rfl
theorem tz_43 : Tryz.t43.zero = some (.nilFunc) := by kernel_rfl
theorem ag_44 : tyAgg Tryz.prog 44 = some none := by kernel_rfl
theorem ts_44 : tySize Tryz.prog 44 = some 1 := by kernel_rfl
theorem zc_44 : zeroOf Tryz.prog 44 = some (.nilFunc) := by kernel_rfl
theorem ti_44 : Tryz.prog.info? 44 = some Tryz.t44 := by kernel_rfl
theorem tz_44 : Tryz.t44.zero = some (.nilFunc) := by kernel_rfl
theorem ag_45 : tyAgg Tryz.prog 45 = some (some 1) := by kernel_rfl
theorem ts_45 : tySize Tryz.prog 45 = some 1 := by kernel_rfl
theorem fo_45_0 : fldOff Tryz.prog 45 0 = some 0 := by kernel_rfl
theorem zc_45 : zeroOf Tryz.prog 45 = some (.agg #[.slice none 0 0]) := by kernel_rfl
theorem ti_45 : Tryz.prog.info? 45 = some Tryz.t45 := by kernel_rfl
theorem tz_45 : Tryz.t45.zero = some (.agg #[.slice none 0 0]) := by kernel_rfl
theorem bu_45 : BuTy Tryz.prog 45 [(0, 1)] [.slice none 0 0] := ⟨_, _, Tryz.underlying45, zc_45, rfl, by kernel_rfl⟩
theorem ag_46 : tyAgg Tryz.prog 46 = some (some 1) := by kernel_rfl
theorem ts_46 : tySize Tryz.prog 46 = some 1 := by kernel_rfl
theorem fo_46_0 : fldOff Tryz.prog 46 0 = some 0 := by kernel_rfl
theorem zc_46 : zeroOf Tryz.prog 46 = some (.agg #[.slice none 0 0]) := by kernel_rfl
theorem ti_46 : Tryz.prog.info? 46 = some Tryz.t46 := by kernel_rfl
theorem tz_46 : Tryz.t46.zero = some (.agg #[.slice none 0 0]) := by kernel_rfl
theorem bu_46 : BuTy Tryz.prog 46 [(0, 1)] [.slice none 0 0] := ⟨_, _, Tryz.underlying46, zc_46, rfl, by kernel_rfl⟩
theorem ag_47 : tyAgg Tryz.prog 47 = some none := by kernel_rfl
theorem ts_47 : tySize Tryz.prog 47 = some 1 := by kernel_rfl
theorem zc_47 : zeroOf Tryz.prog 47 = some (.nilFunc) := by kernel_rfl
theorem ti_47 : Tryz.prog.info? 47 = some Tryz.t47 := by kernel_rfl
theorem tz_47 : Tryz.t47.zero = some (.nilFunc) := by kernel_rfl
theorem ag_48 : tyAgg Tryz.prog 48 = some none := by kernel_rfl
theorem ts_48 : tySize Tryz.prog 48 = some 1 := by kernel_rfl
theorem zc_48 : zeroOf Tryz.prog 48 = some (.nilFunc) := by kernel_rfl
theorem ti_48 : Tryz.prog.info? 48 = some Tryz.t48 := by kernel_rfl
theorem tz_48 : Tryz.t48.zero = some (.nilFunc) := by kernel_rfl
theorem ag_49 : tyAgg Tryz.prog 49 = some none := by kernel_rfl
theorem ts_49 : tySize Tryz.prog 49 = some 1 := by kernel_rfl
theorem zc_49 : zeroOf Tryz.prog 49 = some (.nilFunc) := by kernel_rfl
theorem ti_49 : Tryz.prog.info? 49 = some Tryz.t49 := by kernel_rfl
theorem tz_49 : Tryz.t49.zero = some (.nilFunc) := by kernel_rfl
theorem ts_50 : tySize Tryz.prog 50 = some 1 := by kernel_rfl
theorem zc_50 : zeroOf Tryz.prog 50 = some (.tuple #[.int .i64 0, .bool false]) := by kernel_rfl
theorem ti_50 : Tryz.prog.info? 50 = some Tryz.t50 := by kernel_rfl
theorem tz_50 : Tryz.t50.zero = some (.tuple #[.int .i64 0, .bool false]) := by kernel_rfl
theorem ag_51 : tyAgg Tryz.prog 51 = some none := by kernel_rfl
theorem ts_51 : tySize Tryz.prog 51 = some 1 := by kernel_rfl
theorem zc_51 : zeroOf Tryz.prog 51 = some (.nilFunc) := by kernel_rfl
theorem ti_51 : Tryz.prog.info? 51 = some Tryz.t51 := by kernel_rfl
theorem tz_51 : Tryz.t51.zero = some (.nilFunc) := by kernel_rfl
theorem ag_52 : tyAgg Tryz.prog 52 = some none := by kernel_rfl
theorem ts_52 : tySize Tryz.prog 52 = some 1 := by kernel_rfl
theorem zc_52 : zeroOf Tryz.prog 52 = some (.nilFunc) := by kernel_rfl
theorem ti_52 : Tryz.prog.info? 52 = some Tryz.t52 := by kernel_rfl
theorem tz_52 : Tryz.t52.zero = some (.nilFunc) := by kernel_rfl
theorem ag_53 : tyAgg Tryz.prog 53 = some none := by kernel_rfl
theorem ts_53 : tySize Tryz.prog 53 = some 1 := by kernel_rfl
theorem zc_53 : zeroOf Tryz.prog 53 = some (.nilFunc) := by kernel_rfl
theorem ti_53 : Tryz.prog.info? 53 = some Tryz.t53 := by kernel_rfl
theorem tz_53 : Tryz.t53.zero = some (.nilFunc) := by kernel_rfl
theorem ag_54 : tyAgg Tryz.prog 54 = some none := by kernel_rfl
theorem ts_54 : tySize Tryz.prog 54 = some 1 := by kernel_rfl
theorem sz_54 : slSize Tryz.prog 54 = some 1 := by kernel_rfl
theorem st_54 : SlTy Tryz.prog 54 9 1 16 := ⟨Tryz.underlying54, ⟨_, _, (by kernel_rfl : Tryz.prog.info? 9 = some Tryz.t9), (by kernel_rfl : Tryz.t9.zero = some (.string ByteArray.empty)), by kernel_rfl, by kernel_rfl, by kernel_rfl⟩, by decide⟩
theorem zc_54 : zeroOf Tryz.prog 54 = some (.slice none 0 0) := by kernel_rfl
theorem ti_54 : Tryz.prog.info? 54 = some Tryz.t54 := by kernel_rfl
theorem tz_54 : Tryz.t54.zero = some (.slice none 0 0) := by kernel_rfl
theorem ag_55 : tyAgg Tryz.prog 55 = some (some 1) := by kernel_rfl
theorem ts_55 : tySize Tryz.prog 55 = some 1 := by kernel_rfl
theorem fo_55_0 : fldOff Tryz.prog 55 0 = some 0 := by kernel_rfl
theorem zc_55 : zeroOf Tryz.prog 55 = some (.agg #[.slice none 0 0]) := by kernel_rfl
theorem ti_55 : Tryz.prog.info? 55 = some Tryz.t55 := by kernel_rfl
theorem tz_55 : Tryz.t55.zero = some (.agg #[.slice none 0 0]) := by kernel_rfl
theorem bu_55 : BuTy Tryz.prog 55 [(0, 1)] [.slice none 0 0] := ⟨_, _, Tryz.underlying55, zc_55, rfl, by kernel_rfl⟩
theorem ag_56 : tyAgg Tryz.prog 56 = some (some 1) := by kernel_rfl
theorem ts_56 : tySize Tryz.prog 56 = some 1 := by kernel_rfl
theorem fo_56_0 : fldOff Tryz.prog 56 0 = some 0 := by kernel_rfl
theorem zc_56 : zeroOf Tryz.prog 56 = some (.agg #[.slice none 0 0]) := by kernel_rfl
theorem ti_56 : Tryz.prog.info? 56 = some Tryz.t56 := by kernel_rfl
theorem tz_56 : Tryz.t56.zero = some (.agg #[.slice none 0 0]) := by kernel_rfl
theorem bu_56 : BuTy Tryz.prog 56 [(0, 1)] [.slice none 0 0] := ⟨_, _, Tryz.underlying56, zc_56, rfl, by kernel_rfl⟩
theorem ag_57 : tyAgg Tryz.prog 57 = some none := by kernel_rfl
theorem ts_57 : tySize Tryz.prog 57 = some 1 := by kernel_rfl
theorem zc_57 : zeroOf Tryz.prog 57 = some (.nilFunc) := by kernel_rfl
theorem ti_57 : Tryz.prog.info? 57 = some Tryz.t57 := by kernel_rfl
theorem tz_57 : Tryz.t57.zero = some (.nilFunc) := by kernel_rfl
theorem ag_58 : tyAgg Tryz.prog 58 = some none := by kernel_rfl
theorem ts_58 : tySize Tryz.prog 58 = some 1 := by kernel_rfl
theorem zc_58 : zeroOf Tryz.prog 58 = some (.nilFunc) := by kernel_rfl
theorem ti_58 : Tryz.prog.info? 58 = some Tryz.t58 := by kernel_rfl
theorem tz_58 : Tryz.t58.zero = some (.nilFunc) := by kernel_rfl
theorem ag_59 : tyAgg Tryz.prog 59 = some none := by kernel_rfl
theorem ts_59 : tySize Tryz.prog 59 = some 1 := by kernel_rfl
theorem zc_59 : zeroOf Tryz.prog 59 = some (.nilFunc) := by kernel_rfl
theorem ti_59 : Tryz.prog.info? 59 = some Tryz.t59 := by kernel_rfl
theorem tz_59 : Tryz.t59.zero = some (.nilFunc) := by kernel_rfl
theorem ag_60 : tyAgg Tryz.prog 60 = some none := by kernel_rfl
theorem ts_60 : tySize Tryz.prog 60 = some 1 := by kernel_rfl
theorem sz_60 : slSize Tryz.prog 60 = some 2 := by kernel_rfl
theorem st_60 : SlTy Tryz.prog 60 35 2 16 := ⟨Tryz.underlying60, ⟨_, _, (by kernel_rfl : Tryz.prog.info? 35 = some Tryz.t35), (by kernel_rfl : Tryz.t35.zero = some (.agg #[.int .i64 0, .int .i64 0])), by kernel_rfl, by kernel_rfl, by kernel_rfl⟩, by decide⟩
theorem zc_60 : zeroOf Tryz.prog 60 = some (.slice none 0 0) := by kernel_rfl
theorem ti_60 : Tryz.prog.info? 60 = some Tryz.t60 := by kernel_rfl
theorem tz_60 : Tryz.t60.zero = some (.slice none 0 0) := by kernel_rfl
theorem ag_61 : tyAgg Tryz.prog 61 = some none := by kernel_rfl
theorem ts_61 : tySize Tryz.prog 61 = some 1 := by kernel_rfl
theorem sz_61 : slSize Tryz.prog 61 = some 4 := by kernel_rfl
theorem st_61 : SlTy Tryz.prog 61 80 4 32 := ⟨Tryz.underlying61, ⟨_, _, (by kernel_rfl : Tryz.prog.info? 80 = some Tryz.t80), (by kernel_rfl : Tryz.t80.zero = some (.agg #[.int .i64 0, .int .i64 0, .int .i64 0, .int .i64 0])), by kernel_rfl, by kernel_rfl, by kernel_rfl⟩, by decide⟩
theorem zc_61 : zeroOf Tryz.prog 61 = some (.slice none 0 0) := by kernel_rfl
theorem ti_61 : Tryz.prog.info? 61 = some Tryz.t61 := by kernel_rfl
theorem tz_61 : Tryz.t61.zero = some (.slice none 0 0) := by kernel_rfl
theorem ag_62 : tyAgg Tryz.prog 62 = some none := by kernel_rfl
theorem ts_62 : tySize Tryz.prog 62 = some 1 := by kernel_rfl
theorem sz_62 : slSize Tryz.prog 62 = some 4 := by kernel_rfl
theorem st_62 : SlTy Tryz.prog 62 29 4 64 := ⟨Tryz.underlying62, ⟨_, _, (by kernel_rfl : Tryz.prog.info? 29 = some Tryz.t29), (by kernel_rfl : Tryz.t29.zero = some (.agg #[.int .i64 0, .int .i64 0, .slice none 0 0, .slice none 0 0])), by kernel_rfl, by kernel_rfl, by kernel_rfl⟩, by decide⟩
theorem zc_62 : zeroOf Tryz.prog 62 = some (.slice none 0 0) := by kernel_rfl
theorem ti_62 : Tryz.prog.info? 62 = some Tryz.t62 := by kernel_rfl
theorem tz_62 : Tryz.t62.zero = some (.slice none 0 0) := by kernel_rfl
theorem ag_63 : tyAgg Tryz.prog 63 = some (some 1) := by kernel_rfl
theorem ts_63 : tySize Tryz.prog 63 = some 1 := by kernel_rfl
theorem fo_63_0 : fldOff Tryz.prog 63 0 = some 0 := by kernel_rfl
theorem zc_63 : zeroOf Tryz.prog 63 = some (.agg #[.slice none 0 0]) := by kernel_rfl
theorem ti_63 : Tryz.prog.info? 63 = some Tryz.t63 := by kernel_rfl
theorem tz_63 : Tryz.t63.zero = some (.agg #[.slice none 0 0]) := by kernel_rfl
theorem bu_63 : BuTy Tryz.prog 63 [(0, 1)] [.slice none 0 0] := ⟨_, _, Tryz.underlying63, zc_63, rfl, by kernel_rfl⟩
theorem ag_64 : tyAgg Tryz.prog 64 = some (some 1) := by kernel_rfl
theorem ts_64 : tySize Tryz.prog 64 = some 1 := by kernel_rfl
theorem fo_64_0 : fldOff Tryz.prog 64 0 = some 0 := by kernel_rfl
theorem zc_64 : zeroOf Tryz.prog 64 = some (.agg #[.slice none 0 0]) := by kernel_rfl
theorem ti_64 : Tryz.prog.info? 64 = some Tryz.t64 := by kernel_rfl
theorem tz_64 : Tryz.t64.zero = some (.agg #[.slice none 0 0]) := by kernel_rfl
theorem bu_64 : BuTy Tryz.prog 64 [(0, 1)] [.slice none 0 0] := ⟨_, _, Tryz.underlying64, zc_64, rfl, by kernel_rfl⟩
theorem ag_65 : tyAgg Tryz.prog 65 = some (some 1) := by kernel_rfl
theorem ts_65 : tySize Tryz.prog 65 = some 1 := by kernel_rfl
theorem fo_65_0 : fldOff Tryz.prog 65 0 = some 0 := by kernel_rfl
theorem zc_65 : zeroOf Tryz.prog 65 = some (.agg #[.slice none 0 0]) := by kernel_rfl
theorem ti_65 : Tryz.prog.info? 65 = some Tryz.t65 := by kernel_rfl
theorem tz_65 : Tryz.t65.zero = some (.agg #[.slice none 0 0]) := by kernel_rfl
theorem bu_65 : BuTy Tryz.prog 65 [(0, 1)] [.slice none 0 0] := ⟨_, _, Tryz.underlying65, zc_65, rfl, by kernel_rfl⟩
theorem ag_66 : tyAgg Tryz.prog 66 = some (some 1) := by kernel_rfl
theorem ts_66 : tySize Tryz.prog 66 = some 1 := by kernel_rfl
theorem fo_66_0 : fldOff Tryz.prog 66 0 = some 0 := by kernel_rfl
theorem zc_66 : zeroOf Tryz.prog 66 = some (.agg #[.slice none 0 0]) := by kernel_rfl
theorem ti_66 : Tryz.prog.info? 66 = some Tryz.t66 := by kernel_rfl
theorem tz_66 : Tryz.t66.zero = some (.agg #[.slice none 0 0]) := by kernel_rfl
theorem bu_66 : BuTy Tryz.prog 66 [(0, 1)] [.slice none 0 0] := ⟨_, _, Tryz.underlying66, zc_66, rfl, by kernel_rfl⟩
theorem ag_67 : tyAgg Tryz.prog 67 = some none := by kernel_rfl
theorem ts_67 : tySize Tryz.prog 67 = some 1 := by kernel_rfl
theorem sz_67 : slSize Tryz.prog 67 = some 4 := by kernel_rfl
theorem st_67 : SlTy Tryz.prog 67 89 4 64 := ⟨Tryz.underlying67, ⟨_, _, (by kernel_rfl : Tryz.prog.info? 89 = some Tryz.t89), (by kernel_rfl : Tryz.t89.zero = some (.agg #[.int .i64 0, .int .i64 0, .slice none 0 0, .slice none 0 0])), by kernel_rfl, by kernel_rfl, by kernel_rfl⟩, by decide⟩
theorem zc_67 : zeroOf Tryz.prog 67 = some (.slice none 0 0) := by kernel_rfl
theorem ti_67 : Tryz.prog.info? 67 = some Tryz.t67 := by kernel_rfl
theorem tz_67 : Tryz.t67.zero = some (.slice none 0 0) := by kernel_rfl
theorem ts_68 : tySize Tryz.prog 68 = some 1 := by kernel_rfl
theorem zc_68 : zeroOf Tryz.prog 68 = some (.tuple #[.agg #[.slice none 0 0], .slice none 0 0, .bool false]) := by kernel_rfl
theorem ti_68 : Tryz.prog.info? 68 = some Tryz.t68 := by kernel_rfl
theorem tz_68 : Tryz.t68.zero = some (.tuple #[.agg #[.slice none 0 0], .slice none 0 0, .bool false]) := by kernel_rfl
theorem ag_69 : tyAgg Tryz.prog 69 = some none := by kernel_rfl
theorem ts_69 : tySize Tryz.prog 69 = some 1 := by kernel_rfl
theorem zc_69 : zeroOf Tryz.prog 69 = some (.nilFunc) := by kernel_rfl
theorem ti_69 : Tryz.prog.info? 69 = some Tryz.t69 := by kernel_rfl
theorem tz_69 : Tryz.t69.zero = some (.nilFunc) := by kernel_rfl
theorem ts_70 : tySize Tryz.prog 70 = some 1 := by kernel_rfl
theorem zc_70 : zeroOf Tryz.prog 70 = some (.tuple #[.agg #[.slice none 0 0], .nilIface]) := by kernel_rfl
theorem ti_70 : Tryz.prog.info? 70 = some Tryz.t70 := by kernel_rfl
theorem tz_70 : Tryz.t70.zero = some (.tuple #[.agg #[.slice none 0 0], .nilIface]) := by kernel_rfl
theorem ag_71 : tyAgg Tryz.prog 71 = some none := by kernel_rfl
theorem ts_71 : tySize Tryz.prog 71 = some 1 := by kernel_rfl
theorem zc_71 : zeroOf Tryz.prog 71 = some (.nilFunc) := by kernel_rfl
theorem ti_71 : Tryz.prog.info? 71 = some Tryz.t71 := by kernel_rfl
theorem tz_71 : Tryz.t71.zero = some (.nilFunc) := by kernel_rfl
theorem ag_72 : tyAgg Tryz.prog 72 = some (some 2) := by kernel_rfl
theorem ts_72 : tySize Tryz.prog 72 = some 2 := by kernel_rfl
theorem fo_72_0 : fldOff Tryz.prog 72 0 = some 0 := by kernel_rfl
theorem fo_72_1 : fldOff Tryz.prog 72 1 = some 1 := by kernel_rfl
theorem zc_72 : zeroOf Tryz.prog 72 = some (.agg #[.int .i64 0, .slice none 0 0]) := by kernel_rfl
theorem ti_72 : Tryz.prog.info? 72 = some Tryz.t72 := by kernel_rfl
theorem tz_72 : Tryz.t72.zero = some (.agg #[.int .i64 0, .slice none 0 0]) := by kernel_rfl
theorem bu_72 : BuTy Tryz.prog 72 [(0, 1), (1, 1)] [.int .i64 0, .slice none 0 0] := ⟨_, _, Tryz.underlying72, zc_72, rfl, by kernel_rfl⟩
theorem ag_73 : tyAgg Tryz.prog 73 = some (some 2) := by kernel_rfl
theorem ts_73 : tySize Tryz.prog 73 = some 2 := by kernel_rfl
theorem fo_73_0 : fldOff Tryz.prog 73 0 = some 0 := by kernel_rfl
theorem fo_73_1 : fldOff Tryz.prog 73 1 = some 1 := by kernel_rfl
theorem zc_73 : zeroOf Tryz.prog 73 = some (.agg #[.int .i64 0, .slice none 0 0]) := by kernel_rfl
theorem ti_73 : Tryz.prog.info? 73 = some Tryz.t73 := by kernel_rfl
theorem tz_73 : Tryz.t73.zero = some (.agg #[.int .i64 0, .slice none 0 0]) := by kernel_rfl
theorem bu_73 : BuTy Tryz.prog 73 [(0, 1), (1, 1)] [.int .i64 0, .slice none 0 0] := ⟨_, _, Tryz.underlying73, zc_73, rfl, by kernel_rfl⟩
theorem ts_74 : tySize Tryz.prog 74 = some 1 := by kernel_rfl
theorem zc_74 : zeroOf Tryz.prog 74 = some (.tuple #[.slice none 0 0, .agg #[.int .i64 0, .slice none 0 0]]) := by kernel_rfl
theorem ti_74 : Tryz.prog.info? 74 = some Tryz.t74 := by kernel_rfl
theorem tz_74 : Tryz.t74.zero = some (.tuple #[.slice none 0 0, .agg #[.int .i64 0, .slice none 0 0]]) := by kernel_rfl
theorem ag_75 : tyAgg Tryz.prog 75 = some none := by kernel_rfl
theorem ts_75 : tySize Tryz.prog 75 = some 1 := by kernel_rfl
theorem zc_75 : zeroOf Tryz.prog 75 = some (.nilFunc) := by kernel_rfl
theorem ti_75 : Tryz.prog.info? 75 = some Tryz.t75 := by kernel_rfl
theorem tz_75 : Tryz.t75.zero = some (.nilFunc) := by kernel_rfl
theorem ag_76 : tyAgg Tryz.prog 76 = some none := by kernel_rfl
theorem ts_76 : tySize Tryz.prog 76 = some 1 := by kernel_rfl
theorem zc_76 : zeroOf Tryz.prog 76 = some (.nilFunc) := by kernel_rfl
theorem ti_76 : Tryz.prog.info? 76 = some Tryz.t76 := by kernel_rfl
theorem tz_76 : Tryz.t76.zero = some (.nilFunc) := by kernel_rfl
theorem ag_77 : tyAgg Tryz.prog 77 = some none := by kernel_rfl
theorem ts_77 : tySize Tryz.prog 77 = some 1 := by kernel_rfl
theorem zc_77 : zeroOf Tryz.prog 77 = some (.nilFunc) := by kernel_rfl
theorem ti_77 : Tryz.prog.info? 77 = some Tryz.t77 := by kernel_rfl
theorem tz_77 : Tryz.t77.zero = some (.nilFunc) := by kernel_rfl
theorem ag_78 : tyAgg Tryz.prog 78 = some none := by kernel_rfl
theorem ts_78 : tySize Tryz.prog 78 = some 1 := by kernel_rfl
theorem zc_78 : zeroOf Tryz.prog 78 = some (.nilFunc) := by kernel_rfl
theorem ti_78 : Tryz.prog.info? 78 = some Tryz.t78 := by kernel_rfl
theorem tz_78 : Tryz.t78.zero = some (.nilFunc) := by kernel_rfl
theorem ag_79 : tyAgg Tryz.prog 79 = some (some 4) := by kernel_rfl
theorem ts_79 : tySize Tryz.prog 79 = some 4 := by kernel_rfl
theorem fo_79_0 : fldOff Tryz.prog 79 0 = some 0 := by kernel_rfl
theorem fo_79_1 : fldOff Tryz.prog 79 1 = some 1 := by kernel_rfl
theorem fo_79_2 : fldOff Tryz.prog 79 2 = some 2 := by kernel_rfl
theorem fo_79_3 : fldOff Tryz.prog 79 3 = some 3 := by kernel_rfl
theorem zc_79 : zeroOf Tryz.prog 79 = some (.agg #[.int .i64 0, .int .i64 0, .int .i64 0, .int .i64 0]) := by kernel_rfl
theorem ti_79 : Tryz.prog.info? 79 = some Tryz.t79 := by kernel_rfl
theorem tz_79 : Tryz.t79.zero = some (.agg #[.int .i64 0, .int .i64 0, .int .i64 0, .int .i64 0]) := by kernel_rfl
theorem bu_79 : BuTy Tryz.prog 79 [(0, 1), (1, 1), (2, 1), (3, 1)] [.int .i64 0, .int .i64 0, .int .i64 0, .int .i64 0] := ⟨_, _, Tryz.underlying79, zc_79, rfl, by kernel_rfl⟩
theorem ag_80 : tyAgg Tryz.prog 80 = some (some 4) := by kernel_rfl
theorem ts_80 : tySize Tryz.prog 80 = some 4 := by kernel_rfl
theorem fo_80_0 : fldOff Tryz.prog 80 0 = some 0 := by kernel_rfl
theorem fo_80_1 : fldOff Tryz.prog 80 1 = some 1 := by kernel_rfl
theorem fo_80_2 : fldOff Tryz.prog 80 2 = some 2 := by kernel_rfl
theorem fo_80_3 : fldOff Tryz.prog 80 3 = some 3 := by kernel_rfl
theorem zc_80 : zeroOf Tryz.prog 80 = some (.agg #[.int .i64 0, .int .i64 0, .int .i64 0, .int .i64 0]) := by kernel_rfl
theorem ti_80 : Tryz.prog.info? 80 = some Tryz.t80 := by kernel_rfl
theorem tz_80 : Tryz.t80.zero = some (.agg #[.int .i64 0, .int .i64 0, .int .i64 0, .int .i64 0]) := by kernel_rfl
theorem bu_80 : BuTy Tryz.prog 80 [(0, 1), (1, 1), (2, 1), (3, 1)] [.int .i64 0, .int .i64 0, .int .i64 0, .int .i64 0] := ⟨_, _, Tryz.underlying80, zc_80, rfl, by kernel_rfl⟩
theorem ts_81 : tySize Tryz.prog 81 = some 1 := by kernel_rfl
theorem zc_81 : zeroOf Tryz.prog 81 = some (.tuple #[.agg #[.slice none 0 0], .int .i64 0, .int .i64 0, .nilIface]) := by kernel_rfl
theorem ti_81 : Tryz.prog.info? 81 = some Tryz.t81 := by kernel_rfl
theorem tz_81 : Tryz.t81.zero = some (.tuple #[.agg #[.slice none 0 0], .int .i64 0, .int .i64 0, .nilIface]) := by kernel_rfl
theorem ag_82 : tyAgg Tryz.prog 82 = some none := by kernel_rfl
theorem ts_82 : tySize Tryz.prog 82 = some 1 := by kernel_rfl
theorem zc_82 : zeroOf Tryz.prog 82 = some (.nilFunc) := by kernel_rfl
theorem ti_82 : Tryz.prog.info? 82 = some Tryz.t82 := by kernel_rfl
theorem tz_82 : Tryz.t82.zero = some (.nilFunc) := by kernel_rfl
theorem ag_83 : tyAgg Tryz.prog 83 = some none := by kernel_rfl
theorem ts_83 : tySize Tryz.prog 83 = some 1 := by kernel_rfl
theorem zc_83 : zeroOf Tryz.prog 83 = some (.nilFunc) := by kernel_rfl
theorem ti_83 : Tryz.prog.info? 83 = some Tryz.t83 := by kernel_rfl
theorem tz_83 : Tryz.t83.zero = some (.nilFunc) := by kernel_rfl
theorem ag_84 : tyAgg Tryz.prog 84 = some none := by kernel_rfl
theorem ts_84 : tySize Tryz.prog 84 = some 1 := by kernel_rfl
theorem zc_84 : zeroOf Tryz.prog 84 = some (.nilFunc) := by kernel_rfl
theorem ti_84 : Tryz.prog.info? 84 = some Tryz.t84 := by kernel_rfl
theorem tz_84 : Tryz.t84.zero = some (.nilFunc) := by kernel_rfl
theorem ag_85 : tyAgg Tryz.prog 85 = some none := by kernel_rfl
theorem ts_85 : tySize Tryz.prog 85 = some 1 := by kernel_rfl
theorem zc_85 : zeroOf Tryz.prog 85 = some (.nilFunc) := by kernel_rfl
theorem ti_85 : Tryz.prog.info? 85 = some Tryz.t85 := by kernel_rfl
theorem tz_85 : Tryz.t85.zero = some (.nilFunc) := by kernel_rfl
theorem ts_86 : tySize Tryz.prog 86 = some 1 := by kernel_rfl
theorem zc_86 : zeroOf Tryz.prog 86 = some (.tuple #[.agg #[.int .i64 0, .int .i64 0, .slice none 0 0, .slice none 0 0], .bool false]) := by kernel_rfl
theorem ti_86 : Tryz.prog.info? 86 = some Tryz.t86 := by kernel_rfl
theorem tz_86 : Tryz.t86.zero = some (.tuple #[.agg #[.int .i64 0, .int .i64 0, .slice none 0 0, .slice none 0 0], .bool false]) := by kernel_rfl
theorem ag_87 : tyAgg Tryz.prog 87 = some none := by kernel_rfl
theorem ts_87 : tySize Tryz.prog 87 = some 1 := by kernel_rfl
theorem zc_87 : zeroOf Tryz.prog 87 = some (.nilFunc) := by kernel_rfl
theorem ti_87 : Tryz.prog.info? 87 = some Tryz.t87 := by kernel_rfl
theorem tz_87 : Tryz.t87.zero = some (.nilFunc) := by kernel_rfl
theorem ag_88 : tyAgg Tryz.prog 88 = some (some 4) := by kernel_rfl
theorem ts_88 : tySize Tryz.prog 88 = some 4 := by kernel_rfl
theorem fo_88_0 : fldOff Tryz.prog 88 0 = some 0 := by kernel_rfl
theorem fo_88_1 : fldOff Tryz.prog 88 1 = some 1 := by kernel_rfl
theorem fo_88_2 : fldOff Tryz.prog 88 2 = some 2 := by kernel_rfl
theorem fo_88_3 : fldOff Tryz.prog 88 3 = some 3 := by kernel_rfl
theorem zc_88 : zeroOf Tryz.prog 88 = some (.agg #[.int .i64 0, .int .i64 0, .slice none 0 0, .slice none 0 0]) := by kernel_rfl
theorem ti_88 : Tryz.prog.info? 88 = some Tryz.t88 := by kernel_rfl
theorem tz_88 : Tryz.t88.zero = some (.agg #[.int .i64 0, .int .i64 0, .slice none 0 0, .slice none 0 0]) := by kernel_rfl
theorem bu_88 : BuTy Tryz.prog 88 [(0, 1), (1, 1), (2, 1), (3, 1)] [.int .i64 0, .int .i64 0, .slice none 0 0, .slice none 0 0] := ⟨_, _, Tryz.underlying88, zc_88, rfl, by kernel_rfl⟩
theorem ag_89 : tyAgg Tryz.prog 89 = some (some 4) := by kernel_rfl
theorem ts_89 : tySize Tryz.prog 89 = some 4 := by kernel_rfl
theorem fo_89_0 : fldOff Tryz.prog 89 0 = some 0 := by kernel_rfl
theorem fo_89_1 : fldOff Tryz.prog 89 1 = some 1 := by kernel_rfl
theorem fo_89_2 : fldOff Tryz.prog 89 2 = some 2 := by kernel_rfl
theorem fo_89_3 : fldOff Tryz.prog 89 3 = some 3 := by kernel_rfl
theorem zc_89 : zeroOf Tryz.prog 89 = some (.agg #[.int .i64 0, .int .i64 0, .slice none 0 0, .slice none 0 0]) := by kernel_rfl
theorem ti_89 : Tryz.prog.info? 89 = some Tryz.t89 := by kernel_rfl
theorem tz_89 : Tryz.t89.zero = some (.agg #[.int .i64 0, .int .i64 0, .slice none 0 0, .slice none 0 0]) := by kernel_rfl
theorem bu_89 : BuTy Tryz.prog 89 [(0, 1), (1, 1), (2, 1), (3, 1)] [.int .i64 0, .int .i64 0, .slice none 0 0, .slice none 0 0] := ⟨_, _, Tryz.underlying89, zc_89, rfl, by kernel_rfl⟩
theorem ag_90 : tyAgg Tryz.prog 90 = some none := by kernel_rfl
theorem ts_90 : tySize Tryz.prog 90 = some 1 := by kernel_rfl
theorem zc_90 : zeroOf Tryz.prog 90 = some (.nilFunc) := by kernel_rfl
theorem ti_90 : Tryz.prog.info? 90 = some Tryz.t90 := by kernel_rfl
theorem tz_90 : Tryz.t90.zero = some (.nilFunc) := by kernel_rfl
theorem ag_91 : tyAgg Tryz.prog 91 = some none := by kernel_rfl
theorem ts_91 : tySize Tryz.prog 91 = some 1 := by kernel_rfl
theorem zc_91 : zeroOf Tryz.prog 91 = some (.nilFunc) := by kernel_rfl
theorem ti_91 : Tryz.prog.info? 91 = some Tryz.t91 := by kernel_rfl
theorem tz_91 : Tryz.t91.zero = some (.nilFunc) := by kernel_rfl
theorem ag_92 : tyAgg Tryz.prog 92 = some none := by kernel_rfl
theorem ts_92 : tySize Tryz.prog 92 = some 1 := by kernel_rfl
theorem zc_92 : zeroOf Tryz.prog 92 = some (.nilFunc) := by kernel_rfl
theorem ti_92 : Tryz.prog.info? 92 = some Tryz.t92 := by kernel_rfl
theorem tz_92 : Tryz.t92.zero = some (.nilFunc) := by kernel_rfl
theorem ag_93 : tyAgg Tryz.prog 93 = some none := by kernel_rfl
theorem ts_93 : tySize Tryz.prog 93 = some 1 := by kernel_rfl
theorem zc_93 : zeroOf Tryz.prog 93 = some (.nilFunc) := by kernel_rfl
theorem ti_93 : Tryz.prog.info? 93 = some Tryz.t93 := by kernel_rfl
theorem tz_93 : Tryz.t93.zero = some (.nilFunc) := by kernel_rfl
theorem ag_94 : tyAgg Tryz.prog 94 = some none := by kernel_rfl
theorem ts_94 : tySize Tryz.prog 94 = some 1 := by kernel_rfl
theorem zc_94 : zeroOf Tryz.prog 94 = some (.nilFunc) := by kernel_rfl
theorem ti_94 : Tryz.prog.info? 94 = some Tryz.t94 := by kernel_rfl
theorem tz_94 : Tryz.t94.zero = some (.nilFunc) := by kernel_rfl
theorem ag_95 : tyAgg Tryz.prog 95 = some none := by kernel_rfl
theorem ts_95 : tySize Tryz.prog 95 = some 1 := by kernel_rfl
theorem zc_95 : zeroOf Tryz.prog 95 = some (.nilFunc) := by kernel_rfl
theorem ti_95 : Tryz.prog.info? 95 = some Tryz.t95 := by kernel_rfl
theorem tz_95 : Tryz.t95.zero = some (.nilFunc) := by kernel_rfl
theorem ag_96 : tyAgg Tryz.prog 96 = some none := by kernel_rfl
theorem ts_96 : tySize Tryz.prog 96 = some 1 := by kernel_rfl
theorem zc_96 : zeroOf Tryz.prog 96 = some (.nilFunc) := by kernel_rfl
theorem ti_96 : Tryz.prog.info? 96 = some Tryz.t96 := by kernel_rfl
theorem tz_96 : Tryz.t96.zero = some (.nilFunc) := by kernel_rfl
theorem ag_97 : tyAgg Tryz.prog 97 = some none := by kernel_rfl
theorem ts_97 : tySize Tryz.prog 97 = some 1 := by kernel_rfl
theorem zc_97 : zeroOf Tryz.prog 97 = some (.nilFunc) := by kernel_rfl
theorem ti_97 : Tryz.prog.info? 97 = some Tryz.t97 := by kernel_rfl
theorem tz_97 : Tryz.t97.zero = some (.nilFunc) := by kernel_rfl
theorem ag_98 : tyAgg Tryz.prog 98 = some none := by kernel_rfl
theorem ts_98 : tySize Tryz.prog 98 = some 1 := by kernel_rfl
theorem zc_98 : zeroOf Tryz.prog 98 = some (.nilFunc) := by kernel_rfl
theorem ti_98 : Tryz.prog.info? 98 = some Tryz.t98 := by kernel_rfl
theorem tz_98 : Tryz.t98.zero = some (.nilFunc) := by kernel_rfl
theorem ag_99 : tyAgg Tryz.prog 99 = some none := by kernel_rfl
theorem ts_99 : tySize Tryz.prog 99 = some 1 := by kernel_rfl
theorem zc_99 : zeroOf Tryz.prog 99 = some (.nilFunc) := by kernel_rfl
theorem ti_99 : Tryz.prog.info? 99 = some Tryz.t99 := by kernel_rfl
theorem tz_99 : Tryz.t99.zero = some (.nilFunc) := by kernel_rfl
theorem ag_100 : tyAgg Tryz.prog 100 = some none := by kernel_rfl
theorem ts_100 : tySize Tryz.prog 100 = some 1 := by kernel_rfl
theorem zc_100 : zeroOf Tryz.prog 100 = some (.nilFunc) := by kernel_rfl
theorem ti_100 : Tryz.prog.info? 100 = some Tryz.t100 := by kernel_rfl
theorem tz_100 : Tryz.t100.zero = some (.nilFunc) := by kernel_rfl
theorem ag_101 : tyAgg Tryz.prog 101 = some none := by kernel_rfl
theorem ts_101 : tySize Tryz.prog 101 = some 1 := by kernel_rfl
theorem zc_101 : zeroOf Tryz.prog 101 = some (.nilFunc) := by kernel_rfl
theorem ti_101 : Tryz.prog.info? 101 = some Tryz.t101 := by kernel_rfl
theorem tz_101 : Tryz.t101.zero = some (.nilFunc) := by kernel_rfl
theorem ag_102 : tyAgg Tryz.prog 102 = some none := by kernel_rfl
theorem ts_102 : tySize Tryz.prog 102 = some 1 := by kernel_rfl
theorem zc_102 : zeroOf Tryz.prog 102 = some (.nilFunc) := by kernel_rfl
theorem ti_102 : Tryz.prog.info? 102 = some Tryz.t102 := by kernel_rfl
theorem tz_102 : Tryz.t102.zero = some (.nilFunc) := by kernel_rfl
theorem ts_103 : tySize Tryz.prog 103 = some 1 := by kernel_rfl
theorem zc_103 : zeroOf Tryz.prog 103 = some (.tuple #[.agg #[.int .i64 0, .int .i64 0, .slice none 0 0, .slice none 0 0], .int .i64 0, .int .i64 0]) := by kernel_rfl
theorem ti_103 : Tryz.prog.info? 103 = some Tryz.t103 := by kernel_rfl
theorem tz_103 : Tryz.t103.zero = some (.tuple #[.agg #[.int .i64 0, .int .i64 0, .slice none 0 0, .slice none 0 0], .int .i64 0, .int .i64 0]) := by kernel_rfl
theorem ag_104 : tyAgg Tryz.prog 104 = some none := by kernel_rfl
theorem ts_104 : tySize Tryz.prog 104 = some 1 := by kernel_rfl
theorem zc_104 : zeroOf Tryz.prog 104 = some (.nilFunc) := by kernel_rfl
theorem ti_104 : Tryz.prog.info? 104 = some Tryz.t104 := by kernel_rfl
theorem tz_104 : Tryz.t104.zero = some (.nilFunc) := by kernel_rfl
theorem ag_105 : tyAgg Tryz.prog 105 = some none := by kernel_rfl
theorem ts_105 : tySize Tryz.prog 105 = some 1 := by kernel_rfl
theorem zc_105 : zeroOf Tryz.prog 105 = some (.nilFunc) := by kernel_rfl
theorem ti_105 : Tryz.prog.info? 105 = some Tryz.t105 := by kernel_rfl
theorem tz_105 : Tryz.t105.zero = some (.nilFunc) := by kernel_rfl
theorem ag_106 : tyAgg Tryz.prog 106 = some none := by kernel_rfl
theorem ts_106 : tySize Tryz.prog 106 = some 1 := by kernel_rfl
theorem zc_106 : zeroOf Tryz.prog 106 = some (.map none) := by kernel_rfl
theorem ti_106 : Tryz.prog.info? 106 = some Tryz.t106 := by kernel_rfl
theorem tz_106 : Tryz.t106.zero = some (.map none) := by kernel_rfl
theorem ag_107 : tyAgg Tryz.prog 107 = some none := by kernel_rfl
theorem ts_107 : tySize Tryz.prog 107 = some 1 := by kernel_rfl
theorem zc_107 : zeroOf Tryz.prog 107 = some (.nilFunc) := by kernel_rfl
theorem ti_107 : Tryz.prog.info? 107 = some Tryz.t107 := by kernel_rfl
theorem tz_107 : Tryz.t107.zero = some (.nilFunc) := by kernel_rfl
theorem ag_108 : tyAgg Tryz.prog 108 = some none := by kernel_rfl
theorem ts_108 : tySize Tryz.prog 108 = some 1 := by kernel_rfl
theorem zc_108 : zeroOf Tryz.prog 108 = some (.nilFunc) := by kernel_rfl
theorem ti_108 : Tryz.prog.info? 108 = some Tryz.t108 := by kernel_rfl
theorem tz_108 : Tryz.t108.zero = some (.nilFunc) := by kernel_rfl
theorem ag_109 : tyAgg Tryz.prog 109 = some (some 2) := by kernel_rfl
theorem ts_109 : tySize Tryz.prog 109 = some 2 := by kernel_rfl
theorem fo_109_0 : fldOff Tryz.prog 109 0 = some 0 := by kernel_rfl
theorem fo_109_1 : fldOff Tryz.prog 109 1 = some 1 := by kernel_rfl
theorem zc_109 : zeroOf Tryz.prog 109 = some (.agg #[.int .i64 0, .int .i64 0]) := by kernel_rfl
theorem ti_109 : Tryz.prog.info? 109 = some Tryz.t109 := by kernel_rfl
theorem tz_109 : Tryz.t109.zero = some (.agg #[.int .i64 0, .int .i64 0]) := by kernel_rfl
theorem bu_109 : BuTy Tryz.prog 109 [(0, 1), (1, 1)] [.int .i64 0, .int .i64 0] := ⟨_, _, Tryz.underlying109, zc_109, rfl, by kernel_rfl⟩
theorem ag_110 : tyAgg Tryz.prog 110 = some (some 2) := by kernel_rfl
theorem ts_110 : tySize Tryz.prog 110 = some 2 := by kernel_rfl
theorem fo_110_0 : fldOff Tryz.prog 110 0 = some 0 := by kernel_rfl
theorem fo_110_1 : fldOff Tryz.prog 110 1 = some 1 := by kernel_rfl
theorem zc_110 : zeroOf Tryz.prog 110 = some (.agg #[.int .i64 0, .int .i64 0]) := by kernel_rfl
theorem ti_110 : Tryz.prog.info? 110 = some Tryz.t110 := by kernel_rfl
theorem tz_110 : Tryz.t110.zero = some (.agg #[.int .i64 0, .int .i64 0]) := by kernel_rfl
theorem bu_110 : BuTy Tryz.prog 110 [(0, 1), (1, 1)] [.int .i64 0, .int .i64 0] := ⟨_, _, Tryz.underlying110, zc_110, rfl, by kernel_rfl⟩
theorem ag_111 : tyAgg Tryz.prog 111 = some none := by kernel_rfl
theorem ts_111 : tySize Tryz.prog 111 = some 1 := by kernel_rfl
theorem zc_111 : zeroOf Tryz.prog 111 = some (.nilFunc) := by kernel_rfl
theorem ti_111 : Tryz.prog.info? 111 = some Tryz.t111 := by kernel_rfl
theorem tz_111 : Tryz.t111.zero = some (.nilFunc) := by kernel_rfl
theorem ag_112 : tyAgg Tryz.prog 112 = some none := by kernel_rfl
theorem ts_112 : tySize Tryz.prog 112 = some 1 := by kernel_rfl
theorem zc_112 : zeroOf Tryz.prog 112 = some (.nilFunc) := by kernel_rfl
theorem ti_112 : Tryz.prog.info? 112 = some Tryz.t112 := by kernel_rfl
theorem tz_112 : Tryz.t112.zero = some (.nilFunc) := by kernel_rfl
theorem ag_113 : tyAgg Tryz.prog 113 = some none := by kernel_rfl
theorem ts_113 : tySize Tryz.prog 113 = some 1 := by kernel_rfl
theorem zc_113 : zeroOf Tryz.prog 113 = some (.nilFunc) := by kernel_rfl
theorem ti_113 : Tryz.prog.info? 113 = some Tryz.t113 := by kernel_rfl
theorem tz_113 : Tryz.t113.zero = some (.nilFunc) := by kernel_rfl
theorem ag_114 : tyAgg Tryz.prog 114 = some none := by kernel_rfl
theorem ts_114 : tySize Tryz.prog 114 = some 1 := by kernel_rfl
theorem zc_114 : zeroOf Tryz.prog 114 = some (.nilFunc) := by kernel_rfl
theorem ti_114 : Tryz.prog.info? 114 = some Tryz.t114 := by kernel_rfl
theorem tz_114 : Tryz.t114.zero = some (.nilFunc) := by kernel_rfl
theorem ag_115 : tyAgg Tryz.prog 115 = some none := by kernel_rfl
theorem ts_115 : tySize Tryz.prog 115 = some 1 := by kernel_rfl
theorem zc_115 : zeroOf Tryz.prog 115 = some (.nilFunc) := by kernel_rfl
theorem ti_115 : Tryz.prog.info? 115 = some Tryz.t115 := by kernel_rfl
theorem tz_115 : Tryz.t115.zero = some (.nilFunc) := by kernel_rfl
theorem ts_116 : tySize Tryz.prog 116 = some 1 := by kernel_rfl
theorem zc_116 : zeroOf Tryz.prog 116 = some (.tuple #[.string ByteArray.empty, .string ByteArray.empty, .bool false]) := by kernel_rfl
theorem ti_116 : Tryz.prog.info? 116 = some Tryz.t116 := by kernel_rfl
theorem tz_116 : Tryz.t116.zero = some (.tuple #[.string ByteArray.empty, .string ByteArray.empty, .bool false]) := by kernel_rfl
theorem ag_117 : tyAgg Tryz.prog 117 = some none := by kernel_rfl
theorem ts_117 : tySize Tryz.prog 117 = some 1 := by kernel_rfl
theorem zc_117 : zeroOf Tryz.prog 117 = some (.nilFunc) := by kernel_rfl
theorem ti_117 : Tryz.prog.info? 117 = some Tryz.t117 := by kernel_rfl
theorem tz_117 : Tryz.t117.zero = some (.nilFunc) := by kernel_rfl
theorem ag_118 : tyAgg Tryz.prog 118 = some none := by kernel_rfl
theorem ts_118 : tySize Tryz.prog 118 = some 1 := by kernel_rfl
theorem zc_118 : zeroOf Tryz.prog 118 = some (.nilFunc) := by kernel_rfl
theorem ti_118 : Tryz.prog.info? 118 = some Tryz.t118 := by kernel_rfl
theorem tz_118 : Tryz.t118.zero = some (.nilFunc) := by kernel_rfl
theorem ts_119 : tySize Tryz.prog 119 = some 1 := by kernel_rfl
theorem zc_119 : zeroOf Tryz.prog 119 = some (.tuple #[.slice none 0 0, .int .i64 0, .int .i64 0, .int .i64 0]) := by kernel_rfl
theorem ti_119 : Tryz.prog.info? 119 = some Tryz.t119 := by kernel_rfl
theorem tz_119 : Tryz.t119.zero = some (.tuple #[.slice none 0 0, .int .i64 0, .int .i64 0, .int .i64 0]) := by kernel_rfl
theorem ag_120 : tyAgg Tryz.prog 120 = some none := by kernel_rfl
theorem ts_120 : tySize Tryz.prog 120 = some 1 := by kernel_rfl
theorem zc_120 : zeroOf Tryz.prog 120 = some (.nilFunc) := by kernel_rfl
theorem ti_120 : Tryz.prog.info? 120 = some Tryz.t120 := by kernel_rfl
theorem tz_120 : Tryz.t120.zero = some (.nilFunc) := by kernel_rfl
theorem ag_121 : tyAgg Tryz.prog 121 = some none := by kernel_rfl
theorem ts_121 : tySize Tryz.prog 121 = some 1 := by kernel_rfl
theorem zc_121 : zeroOf Tryz.prog 121 = some (.nilFunc) := by kernel_rfl
theorem ti_121 : Tryz.prog.info? 121 = some Tryz.t121 := by kernel_rfl
theorem tz_121 : Tryz.t121.zero = some (.nilFunc) := by kernel_rfl
theorem ag_122 : tyAgg Tryz.prog 122 = some none := by kernel_rfl
theorem ts_122 : tySize Tryz.prog 122 = some 1 := by kernel_rfl
theorem zc_122 : zeroOf Tryz.prog 122 = some (.nilFunc) := by kernel_rfl
theorem ti_122 : Tryz.prog.info? 122 = some Tryz.t122 := by kernel_rfl
theorem tz_122 : Tryz.t122.zero = some (.nilFunc) := by kernel_rfl
theorem ag_123 : tyAgg Tryz.prog 123 = some none := by kernel_rfl
theorem ts_123 : tySize Tryz.prog 123 = some 1 := by kernel_rfl
theorem sz_123 : slSize Tryz.prog 123 = some 8 := by kernel_rfl
theorem st_123 : SlTy Tryz.prog 123 152 8 64 := ⟨Tryz.underlying123, ⟨_, _, (by kernel_rfl : Tryz.prog.info? 152 = some Tryz.t152), (by kernel_rfl : Tryz.t152.zero = some (.agg #[.int .i64 0, .int .i64 0, .int .i64 0, .int .i64 0, .int .i64 0, .int .i64 0, .int .i64 0, .int .i64 0])), by kernel_rfl, by kernel_rfl, by kernel_rfl⟩, by decide⟩
theorem zc_123 : zeroOf Tryz.prog 123 = some (.slice none 0 0) := by kernel_rfl
theorem ti_123 : Tryz.prog.info? 123 = some Tryz.t123 := by kernel_rfl
theorem tz_123 : Tryz.t123.zero = some (.slice none 0 0) := by kernel_rfl
theorem ag_124 : tyAgg Tryz.prog 124 = some (some 2) := by kernel_rfl
theorem ts_124 : tySize Tryz.prog 124 = some 2 := by kernel_rfl
theorem fo_124_0 : fldOff Tryz.prog 124 0 = some 0 := by kernel_rfl
theorem fo_124_1 : fldOff Tryz.prog 124 1 = some 1 := by kernel_rfl
theorem zc_124 : zeroOf Tryz.prog 124 = some (.agg #[.slice none 0 0, .slice none 0 0]) := by kernel_rfl
theorem ti_124 : Tryz.prog.info? 124 = some Tryz.t124 := by kernel_rfl
theorem tz_124 : Tryz.t124.zero = some (.agg #[.slice none 0 0, .slice none 0 0]) := by kernel_rfl
theorem bu_124 : BuTy Tryz.prog 124 [(0, 1), (1, 1)] [.slice none 0 0, .slice none 0 0] := ⟨_, _, Tryz.underlying124, zc_124, rfl, by kernel_rfl⟩
theorem ag_125 : tyAgg Tryz.prog 125 = some (some 2) := by kernel_rfl
theorem ts_125 : tySize Tryz.prog 125 = some 2 := by kernel_rfl
theorem fo_125_0 : fldOff Tryz.prog 125 0 = some 0 := by kernel_rfl
theorem fo_125_1 : fldOff Tryz.prog 125 1 = some 1 := by kernel_rfl
theorem zc_125 : zeroOf Tryz.prog 125 = some (.agg #[.slice none 0 0, .slice none 0 0]) := by kernel_rfl
theorem ti_125 : Tryz.prog.info? 125 = some Tryz.t125 := by kernel_rfl
theorem tz_125 : Tryz.t125.zero = some (.agg #[.slice none 0 0, .slice none 0 0]) := by kernel_rfl
theorem bu_125 : BuTy Tryz.prog 125 [(0, 1), (1, 1)] [.slice none 0 0, .slice none 0 0] := ⟨_, _, Tryz.underlying125, zc_125, rfl, by kernel_rfl⟩
theorem ag_126 : tyAgg Tryz.prog 126 = some none := by kernel_rfl
theorem ts_126 : tySize Tryz.prog 126 = some 1 := by kernel_rfl
theorem zc_126 : zeroOf Tryz.prog 126 = some (.nilFunc) := by kernel_rfl
theorem ti_126 : Tryz.prog.info? 126 = some Tryz.t126 := by kernel_rfl
theorem tz_126 : Tryz.t126.zero = some (.nilFunc) := by kernel_rfl
theorem ag_127 : tyAgg Tryz.prog 127 = some none := by kernel_rfl
theorem ts_127 : tySize Tryz.prog 127 = some 1 := by kernel_rfl
theorem zc_127 : zeroOf Tryz.prog 127 = some (.nilFunc) := by kernel_rfl
theorem ti_127 : Tryz.prog.info? 127 = some Tryz.t127 := by kernel_rfl
theorem tz_127 : Tryz.t127.zero = some (.nilFunc) := by kernel_rfl
theorem ts_128 : tySize Tryz.prog 128 = some 1 := by kernel_rfl
theorem zc_128 : zeroOf Tryz.prog 128 = some (.tuple #[.agg #[.int .i64 0, .int .i64 0, .slice none 0 0, .slice none 0 0], .int .i64 0]) := by kernel_rfl
theorem ti_128 : Tryz.prog.info? 128 = some Tryz.t128 := by kernel_rfl
theorem tz_128 : Tryz.t128.zero = some (.tuple #[.agg #[.int .i64 0, .int .i64 0, .slice none 0 0, .slice none 0 0], .int .i64 0]) := by kernel_rfl
theorem ag_129 : tyAgg Tryz.prog 129 = some none := by kernel_rfl
theorem ts_129 : tySize Tryz.prog 129 = some 1 := by kernel_rfl
theorem zc_129 : zeroOf Tryz.prog 129 = some (.nilFunc) := by kernel_rfl
theorem ti_129 : Tryz.prog.info? 129 = some Tryz.t129 := by kernel_rfl
theorem tz_129 : Tryz.t129.zero = some (.nilFunc) := by kernel_rfl
theorem ag_130 : tyAgg Tryz.prog 130 = some none := by kernel_rfl
theorem ts_130 : tySize Tryz.prog 130 = some 1 := by kernel_rfl
theorem zc_130 : zeroOf Tryz.prog 130 = some (.nilFunc) := by kernel_rfl
theorem ti_130 : Tryz.prog.info? 130 = some Tryz.t130 := by kernel_rfl
theorem tz_130 : Tryz.t130.zero = some (.nilFunc) := by kernel_rfl
theorem ag_131 : tyAgg Tryz.prog 131 = some none := by kernel_rfl
theorem ts_131 : tySize Tryz.prog 131 = some 1 := by kernel_rfl
theorem zc_131 : zeroOf Tryz.prog 131 = some (.nilFunc) := by kernel_rfl
theorem ti_131 : Tryz.prog.info? 131 = some Tryz.t131 := by kernel_rfl
theorem tz_131 : Tryz.t131.zero = some (.nilFunc) := by kernel_rfl
theorem ag_132 : tyAgg Tryz.prog 132 = some none := by kernel_rfl
theorem ts_132 : tySize Tryz.prog 132 = some 1 := by kernel_rfl
theorem zc_132 : zeroOf Tryz.prog 132 = some (.nilFunc) := by kernel_rfl
theorem ti_132 : Tryz.prog.info? 132 = some Tryz.t132 := by kernel_rfl
theorem tz_132 : Tryz.t132.zero = some (.nilFunc) := by kernel_rfl
theorem ag_133 : tyAgg Tryz.prog 133 = some none := by kernel_rfl
theorem ts_133 : tySize Tryz.prog 133 = some 1 := by kernel_rfl
theorem sz_133 : slSize Tryz.prog 133 = some 1 := by kernel_rfl
theorem st_133 : SlTy Tryz.prog 133 5 1 1 := ⟨Tryz.underlying133, ⟨_, _, (by kernel_rfl : Tryz.prog.info? 5 = some Tryz.t5), (by kernel_rfl : Tryz.t5.zero = some (.int .u8 0)), by kernel_rfl, by kernel_rfl, by kernel_rfl⟩, by decide⟩
theorem zc_133 : zeroOf Tryz.prog 133 = some (.slice none 0 0) := by kernel_rfl
theorem ti_133 : Tryz.prog.info? 133 = some Tryz.t133 := by kernel_rfl
theorem tz_133 : Tryz.t133.zero = some (.slice none 0 0) := by kernel_rfl
theorem ag_134 : tyAgg Tryz.prog 134 = some none := by kernel_rfl
theorem ts_134 : tySize Tryz.prog 134 = some 1 := by kernel_rfl
theorem zc_134 : zeroOf Tryz.prog 134 = some (.nilFunc) := by kernel_rfl
theorem ti_134 : Tryz.prog.info? 134 = some Tryz.t134 := by kernel_rfl
theorem tz_134 : Tryz.t134.zero = some (.nilFunc) := by kernel_rfl
theorem ag_135 : tyAgg Tryz.prog 135 = some none := by kernel_rfl
theorem ts_135 : tySize Tryz.prog 135 = some 1 := by kernel_rfl
theorem zc_135 : zeroOf Tryz.prog 135 = some (.nilFunc) := by kernel_rfl
theorem ti_135 : Tryz.prog.info? 135 = some Tryz.t135 := by kernel_rfl
theorem tz_135 : Tryz.t135.zero = some (.nilFunc) := by kernel_rfl
theorem ag_136 : tyAgg Tryz.prog 136 = some none := by kernel_rfl
theorem ts_136 : tySize Tryz.prog 136 = some 1 := by kernel_rfl
theorem zc_136 : zeroOf Tryz.prog 136 = some (.nilFunc) := by kernel_rfl
theorem ti_136 : Tryz.prog.info? 136 = some Tryz.t136 := by kernel_rfl
theorem tz_136 : Tryz.t136.zero = some (.nilFunc) := by kernel_rfl
theorem ag_137 : tyAgg Tryz.prog 137 = some none := by kernel_rfl
theorem ts_137 : tySize Tryz.prog 137 = some 1 := by kernel_rfl
theorem zc_137 : zeroOf Tryz.prog 137 = some (.nilFunc) := by kernel_rfl
theorem ti_137 : Tryz.prog.info? 137 = some Tryz.t137 := by kernel_rfl
theorem tz_137 : Tryz.t137.zero = some (.nilFunc) := by kernel_rfl
theorem ts_138 : tySize Tryz.prog 138 = some 1 := by kernel_rfl
theorem zc_138 : zeroOf Tryz.prog 138 = some (.tuple #[.int .i64 0, .int .i64 0]) := by kernel_rfl
theorem ti_138 : Tryz.prog.info? 138 = some Tryz.t138 := by kernel_rfl
theorem tz_138 : Tryz.t138.zero = some (.tuple #[.int .i64 0, .int .i64 0]) := by kernel_rfl
theorem ag_139 : tyAgg Tryz.prog 139 = some none := by kernel_rfl
theorem ts_139 : tySize Tryz.prog 139 = some 1 := by kernel_rfl
theorem zc_139 : zeroOf Tryz.prog 139 = some (.nilFunc) := by kernel_rfl
theorem ti_139 : Tryz.prog.info? 139 = some Tryz.t139 := by kernel_rfl
theorem tz_139 : Tryz.t139.zero = some (.nilFunc) := by kernel_rfl
theorem ag_140 : tyAgg Tryz.prog 140 = some none := by kernel_rfl
theorem ts_140 : tySize Tryz.prog 140 = some 1 := by kernel_rfl
theorem zc_140 : zeroOf Tryz.prog 140 = some (.nilFunc) := by kernel_rfl
theorem ti_140 : Tryz.prog.info? 140 = some Tryz.t140 := by kernel_rfl
theorem tz_140 : Tryz.t140.zero = some (.nilFunc) := by kernel_rfl
theorem ts_141 : tySize Tryz.prog 141 = some 1 := by kernel_rfl
theorem zc_141 : zeroOf Tryz.prog 141 = some (.tuple #[.string ByteArray.empty, .int .i64 0]) := by kernel_rfl
theorem ti_141 : Tryz.prog.info? 141 = some Tryz.t141 := by kernel_rfl
theorem tz_141 : Tryz.t141.zero = some (.tuple #[.string ByteArray.empty, .int .i64 0]) := by kernel_rfl
theorem ag_142 : tyAgg Tryz.prog 142 = some none := by kernel_rfl
theorem ts_142 : tySize Tryz.prog 142 = some 1 := by kernel_rfl
theorem zc_142 : zeroOf Tryz.prog 142 = some (.nilFunc) := by kernel_rfl
theorem ti_142 : Tryz.prog.info? 142 = some Tryz.t142 := by kernel_rfl
theorem tz_142 : Tryz.t142.zero = some (.nilFunc) := by kernel_rfl
theorem ag_143 : tyAgg Tryz.prog 143 = some none := by kernel_rfl
theorem ts_143 : tySize Tryz.prog 143 = some 1 := by kernel_rfl
theorem zc_143 : zeroOf Tryz.prog 143 = some (.nilFunc) := by kernel_rfl
theorem ti_143 : Tryz.prog.info? 143 = some Tryz.t143 := by kernel_rfl
theorem tz_143 : Tryz.t143.zero = some (.nilFunc) := by kernel_rfl
theorem ts_144 : tySize Tryz.prog 144 = some 1 := by kernel_rfl
theorem zc_144 : zeroOf Tryz.prog 144 = some (.tuple #[.int .i64 0, .nilIface]) := by kernel_rfl
theorem ti_144 : Tryz.prog.info? 144 = some Tryz.t144 := by kernel_rfl
theorem tz_144 : Tryz.t144.zero = some (.tuple #[.int .i64 0, .nilIface]) := by kernel_rfl
theorem ag_145 : tyAgg Tryz.prog 145 = some none := by kernel_rfl
theorem ts_145 : tySize Tryz.prog 145 = some 1 := by kernel_rfl
theorem zc_145 : zeroOf Tryz.prog 145 = some (.nilFunc) := by kernel_rfl
theorem ti_145 : Tryz.prog.info? 145 = some Tryz.t145 := by kernel_rfl
theorem tz_145 : Tryz.t145.zero = some (.nilFunc) := by kernel_rfl
theorem ts_146 : tySize Tryz.prog 146 = some 1 := by kernel_rfl
theorem zc_146 : zeroOf Tryz.prog 146 = some (.tuple #[.agg #[.int .i64 0, .int .i64 0, .slice none 0 0, .slice none 0 0], .int .i64 0, .int .i64 0, .int .i64 0]) := by kernel_rfl
theorem ti_146 : Tryz.prog.info? 146 = some Tryz.t146 := by kernel_rfl
theorem tz_146 : Tryz.t146.zero = some (.tuple #[.agg #[.int .i64 0, .int .i64 0, .slice none 0 0, .slice none 0 0], .int .i64 0, .int .i64 0, .int .i64 0]) := by kernel_rfl
theorem ag_147 : tyAgg Tryz.prog 147 = some none := by kernel_rfl
theorem ts_147 : tySize Tryz.prog 147 = some 1 := by kernel_rfl
theorem zc_147 : zeroOf Tryz.prog 147 = some (.nilFunc) := by kernel_rfl
theorem ti_147 : Tryz.prog.info? 147 = some Tryz.t147 := by kernel_rfl
theorem tz_147 : Tryz.t147.zero = some (.nilFunc) := by kernel_rfl
theorem ag_148 : tyAgg Tryz.prog 148 = some none := by kernel_rfl
theorem ts_148 : tySize Tryz.prog 148 = some 1 := by kernel_rfl
theorem zc_148 : zeroOf Tryz.prog 148 = some (.nilFunc) := by kernel_rfl
theorem ti_148 : Tryz.prog.info? 148 = some Tryz.t148 := by kernel_rfl
theorem tz_148 : Tryz.t148.zero = some (.nilFunc) := by kernel_rfl
theorem ag_149 : tyAgg Tryz.prog 149 = some none := by kernel_rfl
theorem ts_149 : tySize Tryz.prog 149 = some 1 := by kernel_rfl
theorem zc_149 : zeroOf Tryz.prog 149 = some (.nilFunc) := by kernel_rfl
theorem ti_149 : Tryz.prog.info? 149 = some Tryz.t149 := by kernel_rfl
theorem tz_149 : Tryz.t149.zero = some (.nilFunc) := by kernel_rfl
theorem ag_150 : tyAgg Tryz.prog 150 = some none := by kernel_rfl
theorem ts_150 : tySize Tryz.prog 150 = some 1 := by kernel_rfl
theorem zc_150 : zeroOf Tryz.prog 150 = some (.nilFunc) := by kernel_rfl
theorem ti_150 : Tryz.prog.info? 150 = some Tryz.t150 := by kernel_rfl
theorem tz_150 : Tryz.t150.zero = some (.nilFunc) := by kernel_rfl
theorem ag_151 : tyAgg Tryz.prog 151 = some (some 8) := by kernel_rfl
theorem ts_151 : tySize Tryz.prog 151 = some 8 := by kernel_rfl
theorem fo_151_0 : fldOff Tryz.prog 151 0 = some 0 := by kernel_rfl
theorem fo_151_1 : fldOff Tryz.prog 151 1 = some 1 := by kernel_rfl
theorem fo_151_2 : fldOff Tryz.prog 151 2 = some 2 := by kernel_rfl
theorem fo_151_3 : fldOff Tryz.prog 151 3 = some 3 := by kernel_rfl
theorem fo_151_4 : fldOff Tryz.prog 151 4 = some 4 := by kernel_rfl
theorem fo_151_5 : fldOff Tryz.prog 151 5 = some 5 := by kernel_rfl
theorem fo_151_6 : fldOff Tryz.prog 151 6 = some 6 := by kernel_rfl
theorem fo_151_7 : fldOff Tryz.prog 151 7 = some 7 := by kernel_rfl
theorem zc_151 : zeroOf Tryz.prog 151 = some (.agg #[.int .i64 0, .int .i64 0, .int .i64 0, .int .i64 0, .int .i64 0, .int .i64 0, .int .i64 0, .int .i64 0]) := by kernel_rfl
theorem ti_151 : Tryz.prog.info? 151 = some Tryz.t151 := by kernel_rfl
theorem tz_151 : Tryz.t151.zero = some (.agg #[.int .i64 0, .int .i64 0, .int .i64 0, .int .i64 0, .int .i64 0, .int .i64 0, .int .i64 0, .int .i64 0]) := by kernel_rfl
theorem bu_151 : BuTy Tryz.prog 151 [(0, 1), (1, 1), (2, 1), (3, 1), (4, 1), (5, 1), (6, 1), (7, 1)] [.int .i64 0, .int .i64 0, .int .i64 0, .int .i64 0, .int .i64 0, .int .i64 0, .int .i64 0, .int .i64 0] := ⟨_, _, Tryz.underlying151, zc_151, rfl, by kernel_rfl⟩
theorem ag_152 : tyAgg Tryz.prog 152 = some (some 8) := by kernel_rfl
theorem ts_152 : tySize Tryz.prog 152 = some 8 := by kernel_rfl
theorem fo_152_0 : fldOff Tryz.prog 152 0 = some 0 := by kernel_rfl
theorem fo_152_1 : fldOff Tryz.prog 152 1 = some 1 := by kernel_rfl
theorem fo_152_2 : fldOff Tryz.prog 152 2 = some 2 := by kernel_rfl
theorem fo_152_3 : fldOff Tryz.prog 152 3 = some 3 := by kernel_rfl
theorem fo_152_4 : fldOff Tryz.prog 152 4 = some 4 := by kernel_rfl
theorem fo_152_5 : fldOff Tryz.prog 152 5 = some 5 := by kernel_rfl
theorem fo_152_6 : fldOff Tryz.prog 152 6 = some 6 := by kernel_rfl
theorem fo_152_7 : fldOff Tryz.prog 152 7 = some 7 := by kernel_rfl
theorem zc_152 : zeroOf Tryz.prog 152 = some (.agg #[.int .i64 0, .int .i64 0, .int .i64 0, .int .i64 0, .int .i64 0, .int .i64 0, .int .i64 0, .int .i64 0]) := by kernel_rfl
theorem ti_152 : Tryz.prog.info? 152 = some Tryz.t152 := by kernel_rfl
theorem tz_152 : Tryz.t152.zero = some (.agg #[.int .i64 0, .int .i64 0, .int .i64 0, .int .i64 0, .int .i64 0, .int .i64 0, .int .i64 0, .int .i64 0]) := by kernel_rfl
theorem bu_152 : BuTy Tryz.prog 152 [(0, 1), (1, 1), (2, 1), (3, 1), (4, 1), (5, 1), (6, 1), (7, 1)] [.int .i64 0, .int .i64 0, .int .i64 0, .int .i64 0, .int .i64 0, .int .i64 0, .int .i64 0, .int .i64 0] := ⟨_, _, Tryz.underlying152, zc_152, rfl, by kernel_rfl⟩
theorem ag_153 : tyAgg Tryz.prog 153 = some none := by kernel_rfl
theorem ts_153 : tySize Tryz.prog 153 = some 1 := by kernel_rfl
theorem zc_153 : zeroOf Tryz.prog 153 = some (.nilFunc) := by kernel_rfl
theorem ti_153 : Tryz.prog.info? 153 = some Tryz.t153 := by kernel_rfl
theorem tz_153 : Tryz.t153.zero = some (.nilFunc) := by kernel_rfl
theorem ag_154 : tyAgg Tryz.prog 154 = some none := by kernel_rfl
theorem ts_154 : tySize Tryz.prog 154 = some 1 := by kernel_rfl
theorem zc_154 : zeroOf Tryz.prog 154 = some (.nilFunc) := by kernel_rfl
theorem ti_154 : Tryz.prog.info? 154 = some Tryz.t154 := by kernel_rfl
theorem tz_154 : Tryz.t154.zero = some (.nilFunc) := by kernel_rfl
theorem ag_155 : tyAgg Tryz.prog 155 = some none := by kernel_rfl
theorem ts_155 : tySize Tryz.prog 155 = some 1 := by kernel_rfl
theorem zc_155 : zeroOf Tryz.prog 155 = some (.nilFunc) := by kernel_rfl
theorem ti_155 : Tryz.prog.info? 155 = some Tryz.t155 := by kernel_rfl
theorem tz_155 : Tryz.t155.zero = some (.nilFunc) := by kernel_rfl
theorem ag_156 : tyAgg Tryz.prog 156 = some none := by kernel_rfl
theorem ts_156 : tySize Tryz.prog 156 = some 1 := by kernel_rfl
theorem zc_156 : zeroOf Tryz.prog 156 = some (.nilFunc) := by kernel_rfl
theorem ti_156 : Tryz.prog.info? 156 = some Tryz.t156 := by kernel_rfl
theorem tz_156 : Tryz.t156.zero = some (.nilFunc) := by kernel_rfl
theorem ag_157 : tyAgg Tryz.prog 157 = some none := by kernel_rfl
theorem ts_157 : tySize Tryz.prog 157 = some 1 := by kernel_rfl
theorem zc_157 : zeroOf Tryz.prog 157 = some (.nilFunc) := by kernel_rfl
theorem ti_157 : Tryz.prog.info? 157 = some Tryz.t157 := by kernel_rfl
theorem tz_157 : Tryz.t157.zero = some (.nilFunc) := by kernel_rfl
theorem ag_158 : tyAgg Tryz.prog 158 = some none := by kernel_rfl
theorem ts_158 : tySize Tryz.prog 158 = some 1 := by kernel_rfl
theorem zc_158 : zeroOf Tryz.prog 158 = some (.nilFunc) := by kernel_rfl
theorem ti_158 : Tryz.prog.info? 158 = some Tryz.t158 := by kernel_rfl
theorem tz_158 : Tryz.t158.zero = some (.nilFunc) := by kernel_rfl
theorem ag_159 : tyAgg Tryz.prog 159 = some none := by kernel_rfl
theorem ts_159 : tySize Tryz.prog 159 = some 1 := by kernel_rfl
theorem zc_159 : zeroOf Tryz.prog 159 = some (.nilFunc) := by kernel_rfl
theorem ti_159 : Tryz.prog.info? 159 = some Tryz.t159 := by kernel_rfl
theorem tz_159 : Tryz.t159.zero = some (.nilFunc) := by kernel_rfl
theorem ag_160 : tyAgg Tryz.prog 160 = some none := by kernel_rfl
theorem ts_160 : tySize Tryz.prog 160 = some 1 := by kernel_rfl
theorem zc_160 : zeroOf Tryz.prog 160 = some (.pointer none) := by kernel_rfl
theorem ti_160 : Tryz.prog.info? 160 = some Tryz.t160 := by kernel_rfl
theorem tz_160 : Tryz.t160.zero = some (.pointer none) := by kernel_rfl
theorem ag_161 : tyAgg Tryz.prog 161 = some (some 2) := by kernel_rfl
theorem ts_161 : tySize Tryz.prog 161 = some 2 := by kernel_rfl
theorem fo_161_0 : fldOff Tryz.prog 161 0 = some 0 := by kernel_rfl
theorem fo_161_1 : fldOff Tryz.prog 161 1 = some 1 := by kernel_rfl
theorem zc_161 : zeroOf Tryz.prog 161 = some (.agg #[.pointer none, .slice none 0 0]) := by kernel_rfl
theorem ti_161 : Tryz.prog.info? 161 = some Tryz.t161 := by kernel_rfl
theorem tz_161 : Tryz.t161.zero = some (.agg #[.pointer none, .slice none 0 0]) := by kernel_rfl
theorem bu_161 : BuTy Tryz.prog 161 [(0, 1), (1, 1)] [.pointer none, .slice none 0 0] := ⟨_, _, Tryz.underlying161, zc_161, rfl, by kernel_rfl⟩
theorem ag_162 : tyAgg Tryz.prog 162 = some (some 2) := by kernel_rfl
theorem ts_162 : tySize Tryz.prog 162 = some 2 := by kernel_rfl
theorem fo_162_0 : fldOff Tryz.prog 162 0 = some 0 := by kernel_rfl
theorem fo_162_1 : fldOff Tryz.prog 162 1 = some 1 := by kernel_rfl
theorem zc_162 : zeroOf Tryz.prog 162 = some (.agg #[.pointer none, .slice none 0 0]) := by kernel_rfl
theorem ti_162 : Tryz.prog.info? 162 = some Tryz.t162 := by kernel_rfl
theorem tz_162 : Tryz.t162.zero = some (.agg #[.pointer none, .slice none 0 0]) := by kernel_rfl
theorem bu_162 : BuTy Tryz.prog 162 [(0, 1), (1, 1)] [.pointer none, .slice none 0 0] := ⟨_, _, Tryz.underlying162, zc_162, rfl, by kernel_rfl⟩
theorem ag_163 : tyAgg Tryz.prog 163 = some none := by kernel_rfl
theorem ts_163 : tySize Tryz.prog 163 = some 1 := by kernel_rfl
theorem zc_163 : zeroOf Tryz.prog 163 = some (.nilFunc) := by kernel_rfl
theorem ti_163 : Tryz.prog.info? 163 = some Tryz.t163 := by kernel_rfl
theorem tz_163 : Tryz.t163.zero = some (.nilFunc) := by kernel_rfl
theorem ag_164 : tyAgg Tryz.prog 164 = some none := by kernel_rfl
theorem ts_164 : tySize Tryz.prog 164 = some 1 := by kernel_rfl
theorem zc_164 : zeroOf Tryz.prog 164 = some (.nilFunc) := by kernel_rfl
theorem ti_164 : Tryz.prog.info? 164 = some Tryz.t164 := by kernel_rfl
theorem tz_164 : Tryz.t164.zero = some (.nilFunc) := by kernel_rfl
theorem ag_165 : tyAgg Tryz.prog 165 = some none := by kernel_rfl
theorem ts_165 : tySize Tryz.prog 165 = some 1 := by kernel_rfl
theorem zc_165 : zeroOf Tryz.prog 165 = some (.nilFunc) := by kernel_rfl
theorem ti_165 : Tryz.prog.info? 165 = some Tryz.t165 := by kernel_rfl
theorem tz_165 : Tryz.t165.zero = some (.nilFunc) := by kernel_rfl
theorem ag_166 : tyAgg Tryz.prog 166 = some none := by kernel_rfl
theorem ts_166 : tySize Tryz.prog 166 = some 1 := by kernel_rfl
theorem zc_166 : zeroOf Tryz.prog 166 = some (.nilFunc) := by kernel_rfl
theorem ti_166 : Tryz.prog.info? 166 = some Tryz.t166 := by kernel_rfl
theorem tz_166 : Tryz.t166.zero = some (.nilFunc) := by kernel_rfl
theorem ag_167 : tyAgg Tryz.prog 167 = some none := by kernel_rfl
theorem ts_167 : tySize Tryz.prog 167 = some 1 := by kernel_rfl
theorem zc_167 : zeroOf Tryz.prog 167 = some (.nilFunc) := by kernel_rfl
theorem ti_167 : Tryz.prog.info? 167 = some Tryz.t167 := by kernel_rfl
theorem tz_167 : Tryz.t167.zero = some (.nilFunc) := by kernel_rfl
theorem ag_168 : tyAgg Tryz.prog 168 = some none := by kernel_rfl
theorem ts_168 : tySize Tryz.prog 168 = some 1 := by kernel_rfl
theorem sz_168 : slSize Tryz.prog 168 = some 1 := by kernel_rfl
theorem st_168 : SlTy Tryz.prog 168 27 1 24 := ⟨Tryz.underlying168, ⟨_, _, (by kernel_rfl : Tryz.prog.info? 27 = some Tryz.t27), (by kernel_rfl : Tryz.t27.zero = some (.slice none 0 0)), by kernel_rfl, by kernel_rfl, by kernel_rfl⟩, by decide⟩
theorem zc_168 : zeroOf Tryz.prog 168 = some (.slice none 0 0) := by kernel_rfl
theorem ti_168 : Tryz.prog.info? 168 = some Tryz.t168 := by kernel_rfl
theorem tz_168 : Tryz.t168.zero = some (.slice none 0 0) := by kernel_rfl
theorem ag_169 : tyAgg Tryz.prog 169 = some none := by kernel_rfl
theorem ts_169 : tySize Tryz.prog 169 = some 1 := by kernel_rfl
theorem zc_169 : zeroOf Tryz.prog 169 = some (.nilFunc) := by kernel_rfl
theorem ti_169 : Tryz.prog.info? 169 = some Tryz.t169 := by kernel_rfl
theorem tz_169 : Tryz.t169.zero = some (.nilFunc) := by kernel_rfl
theorem ag_170 : tyAgg Tryz.prog 170 = some none := by kernel_rfl
theorem ts_170 : tySize Tryz.prog 170 = some 1 := by kernel_rfl
theorem zc_170 : zeroOf Tryz.prog 170 = some (.nilFunc) := by kernel_rfl
theorem ti_170 : Tryz.prog.info? 170 = some Tryz.t170 := by kernel_rfl
theorem tz_170 : Tryz.t170.zero = some (.nilFunc) := by kernel_rfl
theorem ag_171 : tyAgg Tryz.prog 171 = some (some 4) := by kernel_rfl
theorem ts_171 : tySize Tryz.prog 171 = some 4 := by kernel_rfl
theorem ar_171 : arSize Tryz.prog 171 = some (4, 1) := by kernel_rfl
theorem zc_171 : zeroOf Tryz.prog 171 = some (.agg #[.string ByteArray.empty, .string ByteArray.empty, .string ByteArray.empty, .string ByteArray.empty]) := by kernel_rfl
theorem ti_171 : Tryz.prog.info? 171 = some Tryz.t171 := by kernel_rfl
theorem tz_171 : Tryz.t171.zero = some (.agg #[.string ByteArray.empty, .string ByteArray.empty, .string ByteArray.empty, .string ByteArray.empty]) := by kernel_rfl
theorem ag_172 : tyAgg Tryz.prog 172 = some (some 7) := by kernel_rfl
theorem ts_172 : tySize Tryz.prog 172 = some 7 := by kernel_rfl
theorem ar_172 : arSize Tryz.prog 172 = some (7, 1) := by kernel_rfl
theorem zc_172 : zeroOf Tryz.prog 172 = some (.agg #[.string ByteArray.empty, .string ByteArray.empty, .string ByteArray.empty, .string ByteArray.empty, .string ByteArray.empty, .string ByteArray.empty, .string ByteArray.empty]) := by kernel_rfl
theorem ti_172 : Tryz.prog.info? 172 = some Tryz.t172 := by kernel_rfl
theorem tz_172 : Tryz.t172.zero = some (.agg #[.string ByteArray.empty, .string ByteArray.empty, .string ByteArray.empty, .string ByteArray.empty, .string ByteArray.empty, .string ByteArray.empty, .string ByteArray.empty]) := by kernel_rfl
theorem ag_173 : tyAgg Tryz.prog 173 = some (some 9) := by kernel_rfl
theorem ts_173 : tySize Tryz.prog 173 = some 9 := by kernel_rfl
theorem ar_173 : arSize Tryz.prog 173 = some (9, 1) := by kernel_rfl
theorem zc_173 : zeroOf Tryz.prog 173 = some (.agg #[.string ByteArray.empty, .string ByteArray.empty, .string ByteArray.empty, .string ByteArray.empty, .string ByteArray.empty, .string ByteArray.empty, .string ByteArray.empty, .string ByteArray.empty, .string ByteArray.empty]) := by kernel_rfl
theorem ti_173 : Tryz.prog.info? 173 = some Tryz.t173 := by kernel_rfl
theorem tz_173 : Tryz.t173.zero = some (.agg #[.string ByteArray.empty, .string ByteArray.empty, .string ByteArray.empty, .string ByteArray.empty, .string ByteArray.empty, .string ByteArray.empty, .string ByteArray.empty, .string ByteArray.empty, .string ByteArray.empty]) := by kernel_rfl
theorem ag_174 : tyAgg Tryz.prog 174 = some (some 3) := by kernel_rfl
theorem ts_174 : tySize Tryz.prog 174 = some 3 := by kernel_rfl
theorem ar_174 : arSize Tryz.prog 174 = some (3, 1) := by kernel_rfl
theorem zc_174 : zeroOf Tryz.prog 174 = some (.agg #[.string ByteArray.empty, .string ByteArray.empty, .string ByteArray.empty]) := by kernel_rfl
theorem ti_174 : Tryz.prog.info? 174 = some Tryz.t174 := by kernel_rfl
theorem tz_174 : Tryz.t174.zero = some (.agg #[.string ByteArray.empty, .string ByteArray.empty, .string ByteArray.empty]) := by kernel_rfl
theorem ag_175 : tyAgg Tryz.prog 175 = some none := by kernel_rfl
theorem ts_175 : tySize Tryz.prog 175 = some 1 := by kernel_rfl
theorem zc_175 : zeroOf Tryz.prog 175 = some (.nilFunc) := by kernel_rfl
theorem ti_175 : Tryz.prog.info? 175 = some Tryz.t175 := by kernel_rfl
theorem tz_175 : Tryz.t175.zero = some (.nilFunc) := by kernel_rfl
theorem ag_176 : tyAgg Tryz.prog 176 = some none := by kernel_rfl
theorem ts_176 : tySize Tryz.prog 176 = some 1 := by kernel_rfl
theorem zc_176 : zeroOf Tryz.prog 176 = some (.nilFunc) := by kernel_rfl
theorem ti_176 : Tryz.prog.info? 176 = some Tryz.t176 := by kernel_rfl
theorem tz_176 : Tryz.t176.zero = some (.nilFunc) := by kernel_rfl
theorem ag_177 : tyAgg Tryz.prog 177 = some none := by kernel_rfl
theorem ts_177 : tySize Tryz.prog 177 = some 1 := by kernel_rfl
theorem zc_177 : zeroOf Tryz.prog 177 = some (.nilFunc) := by kernel_rfl
theorem ti_177 : Tryz.prog.info? 177 = some Tryz.t177 := by kernel_rfl
theorem tz_177 : Tryz.t177.zero = some (.nilFunc) := by kernel_rfl
theorem ag_178 : tyAgg Tryz.prog 178 = some none := by kernel_rfl
theorem ts_178 : tySize Tryz.prog 178 = some 1 := by kernel_rfl
theorem zc_178 : zeroOf Tryz.prog 178 = some (.nilFunc) := by kernel_rfl
theorem ti_178 : Tryz.prog.info? 178 = some Tryz.t178 := by kernel_rfl
theorem tz_178 : Tryz.t178.zero = some (.nilFunc) := by kernel_rfl
theorem ag_179 : tyAgg Tryz.prog 179 = some none := by kernel_rfl
theorem ts_179 : tySize Tryz.prog 179 = some 1 := by kernel_rfl
theorem zc_179 : zeroOf Tryz.prog 179 = some (.nilFunc) := by kernel_rfl
theorem ti_179 : Tryz.prog.info? 179 = some Tryz.t179 := by kernel_rfl
theorem tz_179 : Tryz.t179.zero = some (.nilFunc) := by kernel_rfl
theorem ag_180 : tyAgg Tryz.prog 180 = some none := by kernel_rfl
theorem ts_180 : tySize Tryz.prog 180 = some 1 := by kernel_rfl
theorem zc_180 : zeroOf Tryz.prog 180 = some (.pointer none) := by kernel_rfl
theorem ti_180 : Tryz.prog.info? 180 = some Tryz.t180 := by kernel_rfl
theorem tz_180 : Tryz.t180.zero = some (.pointer none) := by kernel_rfl
theorem ag_181 : tyAgg Tryz.prog 181 = some (some 2) := by kernel_rfl
theorem ts_181 : tySize Tryz.prog 181 = some 2 := by kernel_rfl
theorem fo_181_0 : fldOff Tryz.prog 181 0 = some 0 := by kernel_rfl
theorem fo_181_1 : fldOff Tryz.prog 181 1 = some 1 := by kernel_rfl
theorem zc_181 : zeroOf Tryz.prog 181 = some (.agg #[.int .i64 0, .nilIface]) := by kernel_rfl
theorem ti_181 : Tryz.prog.info? 181 = some Tryz.t181 := by kernel_rfl
theorem tz_181 : Tryz.t181.zero = some (.agg #[.int .i64 0, .nilIface]) := by kernel_rfl
theorem bu_181 : BuTy Tryz.prog 181 [(0, 1), (1, 1)] [.int .i64 0, .nilIface] := ⟨_, _, Tryz.underlying181, zc_181, rfl, by kernel_rfl⟩
theorem ag_182 : tyAgg Tryz.prog 182 = some (some 2) := by kernel_rfl
theorem ts_182 : tySize Tryz.prog 182 = some 2 := by kernel_rfl
theorem fo_182_0 : fldOff Tryz.prog 182 0 = some 0 := by kernel_rfl
theorem fo_182_1 : fldOff Tryz.prog 182 1 = some 1 := by kernel_rfl
theorem zc_182 : zeroOf Tryz.prog 182 = some (.agg #[.int .i64 0, .nilIface]) := by kernel_rfl
theorem ti_182 : Tryz.prog.info? 182 = some Tryz.t182 := by kernel_rfl
theorem tz_182 : Tryz.t182.zero = some (.agg #[.int .i64 0, .nilIface]) := by kernel_rfl
theorem bu_182 : BuTy Tryz.prog 182 [(0, 1), (1, 1)] [.int .i64 0, .nilIface] := ⟨_, _, Tryz.underlying182, zc_182, rfl, by kernel_rfl⟩
theorem ag_183 : tyAgg Tryz.prog 183 = some none := by kernel_rfl
theorem ts_183 : tySize Tryz.prog 183 = some 1 := by kernel_rfl
theorem zc_183 : zeroOf Tryz.prog 183 = some (.nilFunc) := by kernel_rfl
theorem ti_183 : Tryz.prog.info? 183 = some Tryz.t183 := by kernel_rfl
theorem tz_183 : Tryz.t183.zero = some (.nilFunc) := by kernel_rfl
theorem ag_184 : tyAgg Tryz.prog 184 = some none := by kernel_rfl
theorem ts_184 : tySize Tryz.prog 184 = some 1 := by kernel_rfl
theorem zc_184 : zeroOf Tryz.prog 184 = some (.map none) := by kernel_rfl
theorem ti_184 : Tryz.prog.info? 184 = some Tryz.t184 := by kernel_rfl
theorem tz_184 : Tryz.t184.zero = some (.map none) := by kernel_rfl
theorem ag_185 : tyAgg Tryz.prog 185 = some none := by kernel_rfl
theorem ts_185 : tySize Tryz.prog 185 = some 1 := by kernel_rfl
theorem zc_185 : zeroOf Tryz.prog 185 = some (.nilFunc) := by kernel_rfl
theorem ti_185 : Tryz.prog.info? 185 = some Tryz.t185 := by kernel_rfl
theorem tz_185 : Tryz.t185.zero = some (.nilFunc) := by kernel_rfl
theorem ag_186 : tyAgg Tryz.prog 186 = some none := by kernel_rfl
theorem ts_186 : tySize Tryz.prog 186 = some 1 := by kernel_rfl
theorem zc_186 : zeroOf Tryz.prog 186 = some (.nilFunc) := by kernel_rfl
theorem ti_186 : Tryz.prog.info? 186 = some Tryz.t186 := by kernel_rfl
theorem tz_186 : Tryz.t186.zero = some (.nilFunc) := by kernel_rfl
theorem ag_187 : tyAgg Tryz.prog 187 = some (some 4) := by kernel_rfl
theorem ts_187 : tySize Tryz.prog 187 = some 4 := by kernel_rfl
theorem fo_187_0 : fldOff Tryz.prog 187 0 = some 0 := by kernel_rfl
theorem fo_187_1 : fldOff Tryz.prog 187 1 = some 1 := by kernel_rfl
theorem fo_187_2 : fldOff Tryz.prog 187 2 = some 2 := by kernel_rfl
theorem fo_187_3 : fldOff Tryz.prog 187 3 = some 3 := by kernel_rfl
theorem zc_187 : zeroOf Tryz.prog 187 = some (.agg #[.nilFunc, .int .i64 0, .int .i64 0, .int .i64 0]) := by kernel_rfl
theorem ti_187 : Tryz.prog.info? 187 = some Tryz.t187 := by kernel_rfl
theorem tz_187 : Tryz.t187.zero = some (.agg #[.nilFunc, .int .i64 0, .int .i64 0, .int .i64 0]) := by kernel_rfl
theorem bu_187 : BuTy Tryz.prog 187 [(0, 1), (1, 1), (2, 1), (3, 1)] [.nilFunc, .int .i64 0, .int .i64 0, .int .i64 0] := ⟨_, _, Tryz.underlying187, zc_187, rfl, by kernel_rfl⟩
theorem ag_188 : tyAgg Tryz.prog 188 = some (some 4) := by kernel_rfl
theorem ts_188 : tySize Tryz.prog 188 = some 4 := by kernel_rfl
theorem fo_188_0 : fldOff Tryz.prog 188 0 = some 0 := by kernel_rfl
theorem fo_188_1 : fldOff Tryz.prog 188 1 = some 1 := by kernel_rfl
theorem fo_188_2 : fldOff Tryz.prog 188 2 = some 2 := by kernel_rfl
theorem fo_188_3 : fldOff Tryz.prog 188 3 = some 3 := by kernel_rfl
theorem zc_188 : zeroOf Tryz.prog 188 = some (.agg #[.nilFunc, .int .i64 0, .int .i64 0, .int .i64 0]) := by kernel_rfl
theorem ti_188 : Tryz.prog.info? 188 = some Tryz.t188 := by kernel_rfl
theorem tz_188 : Tryz.t188.zero = some (.agg #[.nilFunc, .int .i64 0, .int .i64 0, .int .i64 0]) := by kernel_rfl
theorem bu_188 : BuTy Tryz.prog 188 [(0, 1), (1, 1), (2, 1), (3, 1)] [.nilFunc, .int .i64 0, .int .i64 0, .int .i64 0] := ⟨_, _, Tryz.underlying188, zc_188, rfl, by kernel_rfl⟩
theorem ts_189 : tySize Tryz.prog 189 = some 1 := by kernel_rfl
theorem zc_189 : zeroOf Tryz.prog 189 = some (.tuple #[.agg #[.nilFunc, .int .i64 0, .int .i64 0, .int .i64 0], .bool false]) := by kernel_rfl
theorem ti_189 : Tryz.prog.info? 189 = some Tryz.t189 := by kernel_rfl
theorem tz_189 : Tryz.t189.zero = some (.tuple #[.agg #[.nilFunc, .int .i64 0, .int .i64 0, .int .i64 0], .bool false]) := by kernel_rfl
theorem ag_190 : tyAgg Tryz.prog 190 = some none := by kernel_rfl
theorem ts_190 : tySize Tryz.prog 190 = some 1 := by kernel_rfl
theorem zc_190 : zeroOf Tryz.prog 190 = some (.pointer none) := by kernel_rfl
theorem ti_190 : Tryz.prog.info? 190 = some Tryz.t190 := by kernel_rfl
theorem tz_190 : Tryz.t190.zero = some (.pointer none) := by kernel_rfl
theorem ag_191 : tyAgg Tryz.prog 191 = some none := by kernel_rfl
theorem ts_191 : tySize Tryz.prog 191 = some 1 := by kernel_rfl
theorem zc_191 : zeroOf Tryz.prog 191 = some (.pointer none) := by kernel_rfl
theorem ti_191 : Tryz.prog.info? 191 = some Tryz.t191 := by kernel_rfl
theorem tz_191 : Tryz.t191.zero = some (.pointer none) := by kernel_rfl
theorem ag_192 : tyAgg Tryz.prog 192 = some none := by kernel_rfl
theorem ts_192 : tySize Tryz.prog 192 = some 1 := by kernel_rfl
theorem zc_192 : zeroOf Tryz.prog 192 = some (.nilFunc) := by kernel_rfl
theorem ti_192 : Tryz.prog.info? 192 = some Tryz.t192 := by kernel_rfl
theorem tz_192 : Tryz.t192.zero = some (.nilFunc) := by kernel_rfl
theorem ag_193 : tyAgg Tryz.prog 193 = some none := by kernel_rfl
theorem ts_193 : tySize Tryz.prog 193 = some 1 := by kernel_rfl
theorem zc_193 : zeroOf Tryz.prog 193 = some (.pointer none) := by kernel_rfl
theorem ti_193 : Tryz.prog.info? 193 = some Tryz.t193 := by kernel_rfl
theorem tz_193 : Tryz.t193.zero = some (.pointer none) := by kernel_rfl
theorem ag_194 : tyAgg Tryz.prog 194 = some none := by kernel_rfl
theorem ts_194 : tySize Tryz.prog 194 = some 1 := by kernel_rfl
theorem zc_194 : zeroOf Tryz.prog 194 = some (.int .u64 0) := by kernel_rfl
theorem ti_194 : Tryz.prog.info? 194 = some Tryz.t194 := by kernel_rfl
theorem tz_194 : Tryz.t194.zero = some (.int .u64 0) := by kernel_rfl
theorem ag_195 : tyAgg Tryz.prog 195 = some none := by kernel_rfl
theorem ts_195 : tySize Tryz.prog 195 = some 1 := by kernel_rfl
theorem zc_195 : zeroOf Tryz.prog 195 = some (.nilFunc) := by kernel_rfl
theorem ti_195 : Tryz.prog.info? 195 = some Tryz.t195 := by kernel_rfl
theorem tz_195 : Tryz.t195.zero = some (.nilFunc) := by kernel_rfl
theorem ag_196 : tyAgg Tryz.prog 196 = some none := by kernel_rfl
theorem ts_196 : tySize Tryz.prog 196 = some 1 := by kernel_rfl
theorem zc_196 : zeroOf Tryz.prog 196 = some (.nilFunc) := by kernel_rfl
theorem ti_196 : Tryz.prog.info? 196 = some Tryz.t196 := by kernel_rfl
theorem tz_196 : Tryz.t196.zero = some (.nilFunc) := by kernel_rfl
theorem ts_197 : tySize Tryz.prog 197 = some 1 := by kernel_rfl
theorem zc_197 : zeroOf Tryz.prog 197 = some (.tuple #[.int .i32 0, .int .i64 0]) := by kernel_rfl
theorem ti_197 : Tryz.prog.info? 197 = some Tryz.t197 := by kernel_rfl
theorem tz_197 : Tryz.t197.zero = some (.tuple #[.int .i32 0, .int .i64 0]) := by kernel_rfl
theorem ag_198 : tyAgg Tryz.prog 198 = some none := by kernel_rfl
theorem ts_198 : tySize Tryz.prog 198 = some 1 := by kernel_rfl
theorem zc_198 : zeroOf Tryz.prog 198 = some (.nilFunc) := by kernel_rfl
theorem ti_198 : Tryz.prog.info? 198 = some Tryz.t198 := by kernel_rfl
theorem tz_198 : Tryz.t198.zero = some (.nilFunc) := by kernel_rfl
theorem ag_199 : tyAgg Tryz.prog 199 = some none := by kernel_rfl
theorem ts_199 : tySize Tryz.prog 199 = some 1 := by kernel_rfl
theorem zc_199 : zeroOf Tryz.prog 199 = some (.nilFunc) := by kernel_rfl
theorem ti_199 : Tryz.prog.info? 199 = some Tryz.t199 := by kernel_rfl
theorem tz_199 : Tryz.t199.zero = some (.nilFunc) := by kernel_rfl
theorem ag_200 : tyAgg Tryz.prog 200 = some none := by kernel_rfl
theorem ts_200 : tySize Tryz.prog 200 = some 1 := by kernel_rfl
theorem zc_200 : zeroOf Tryz.prog 200 = some (.int .i64 0) := by kernel_rfl
theorem ti_200 : Tryz.prog.info? 200 = some Tryz.t200 := by kernel_rfl
theorem tz_200 : Tryz.t200.zero = some (.int .i64 0) := by kernel_rfl
theorem ts_201 : tySize Tryz.prog 201 = some 1 := by kernel_rfl
theorem zc_201 : zeroOf Tryz.prog 201 = some (.tuple #[.int .i64 0, .nilIface]) := by kernel_rfl
theorem ti_201 : Tryz.prog.info? 201 = some Tryz.t201 := by kernel_rfl
theorem tz_201 : Tryz.t201.zero = some (.tuple #[.int .i64 0, .nilIface]) := by kernel_rfl
theorem ag_202 : tyAgg Tryz.prog 202 = some none := by kernel_rfl
theorem ts_202 : tySize Tryz.prog 202 = some 1 := by kernel_rfl
theorem zc_202 : zeroOf Tryz.prog 202 = some (.nilFunc) := by kernel_rfl
theorem ti_202 : Tryz.prog.info? 202 = some Tryz.t202 := by kernel_rfl
theorem tz_202 : Tryz.t202.zero = some (.nilFunc) := by kernel_rfl
theorem ag_203 : tyAgg Tryz.prog 203 = some none := by kernel_rfl
theorem ts_203 : tySize Tryz.prog 203 = some 1 := by kernel_rfl
theorem zc_203 : zeroOf Tryz.prog 203 = some (.pointer none) := by kernel_rfl
theorem ti_203 : Tryz.prog.info? 203 = some Tryz.t203 := by kernel_rfl
theorem tz_203 : Tryz.t203.zero = some (.pointer none) := by kernel_rfl
theorem ag_204 : tyAgg Tryz.prog 204 = some none := by kernel_rfl
theorem ts_204 : tySize Tryz.prog 204 = some 1 := by kernel_rfl
theorem zc_204 : zeroOf Tryz.prog 204 = some (.nilFunc) := by kernel_rfl
theorem ti_204 : Tryz.prog.info? 204 = some Tryz.t204 := by kernel_rfl
theorem tz_204 : Tryz.t204.zero = some (.nilFunc) := by kernel_rfl
theorem ag_205 : tyAgg Tryz.prog 205 = some none := by kernel_rfl
theorem ts_205 : tySize Tryz.prog 205 = some 1 := by kernel_rfl
theorem zc_205 : zeroOf Tryz.prog 205 = some (.nilFunc) := by kernel_rfl
theorem ti_205 : Tryz.prog.info? 205 = some Tryz.t205 := by kernel_rfl
theorem tz_205 : Tryz.t205.zero = some (.nilFunc) := by kernel_rfl
theorem ag_206 : tyAgg Tryz.prog 206 = some none := by kernel_rfl
theorem ts_206 : tySize Tryz.prog 206 = some 1 := by kernel_rfl
theorem sz_206 : slSize Tryz.prog 206 = some 4 := by kernel_rfl
theorem st_206 : SlTy Tryz.prog 206 188 4 32 := ⟨Tryz.underlying206, ⟨_, _, (by kernel_rfl : Tryz.prog.info? 188 = some Tryz.t188), (by kernel_rfl : Tryz.t188.zero = some (.agg #[.nilFunc, .int .i64 0, .int .i64 0, .int .i64 0])), by kernel_rfl, by kernel_rfl, by kernel_rfl⟩, by decide⟩
theorem zc_206 : zeroOf Tryz.prog 206 = some (.slice none 0 0) := by kernel_rfl
theorem ti_206 : Tryz.prog.info? 206 = some Tryz.t206 := by kernel_rfl
theorem tz_206 : Tryz.t206.zero = some (.slice none 0 0) := by kernel_rfl
theorem ag_207 : tyAgg Tryz.prog 207 = some none := by kernel_rfl
theorem ts_207 : tySize Tryz.prog 207 = some 1 := by kernel_rfl
theorem zc_207 : zeroOf Tryz.prog 207 = some (.nilFunc) := by kernel_rfl
theorem ti_207 : Tryz.prog.info? 207 = some Tryz.t207 := by kernel_rfl
theorem tz_207 : Tryz.t207.zero = some (.nilFunc) := by kernel_rfl
theorem ag_208 : tyAgg Tryz.prog 208 = some none := by kernel_rfl
theorem ts_208 : tySize Tryz.prog 208 = some 1 := by kernel_rfl
theorem zc_208 : zeroOf Tryz.prog 208 = some (.nilFunc) := by kernel_rfl
theorem ti_208 : Tryz.prog.info? 208 = some Tryz.t208 := by kernel_rfl
theorem tz_208 : Tryz.t208.zero = some (.nilFunc) := by kernel_rfl
theorem ag_209 : tyAgg Tryz.prog 209 = some none := by kernel_rfl
theorem ts_209 : tySize Tryz.prog 209 = some 1 := by kernel_rfl
theorem zc_209 : zeroOf Tryz.prog 209 = some (.nilFunc) := by kernel_rfl
theorem ti_209 : Tryz.prog.info? 209 = some Tryz.t209 := by kernel_rfl
theorem tz_209 : Tryz.t209.zero = some (.nilFunc) := by kernel_rfl
theorem ag_210 : tyAgg Tryz.prog 210 = some none := by kernel_rfl
theorem ts_210 : tySize Tryz.prog 210 = some 1 := by kernel_rfl
theorem zc_210 : zeroOf Tryz.prog 210 = some (.nilFunc) := by kernel_rfl
theorem ti_210 : Tryz.prog.info? 210 = some Tryz.t210 := by kernel_rfl
theorem tz_210 : Tryz.t210.zero = some (.nilFunc) := by kernel_rfl
theorem ag_211 : tyAgg Tryz.prog 211 = some none := by kernel_rfl
theorem ts_211 : tySize Tryz.prog 211 = some 1 := by kernel_rfl
theorem zc_211 : zeroOf Tryz.prog 211 = some (.nilFunc) := by kernel_rfl
theorem ti_211 : Tryz.prog.info? 211 = some Tryz.t211 := by kernel_rfl
theorem tz_211 : Tryz.t211.zero = some (.nilFunc) := by kernel_rfl
theorem ag_212 : tyAgg Tryz.prog 212 = some none := by kernel_rfl
theorem ts_212 : tySize Tryz.prog 212 = some 1 := by kernel_rfl
theorem zc_212 : zeroOf Tryz.prog 212 = some (.nilFunc) := by kernel_rfl
theorem ti_212 : Tryz.prog.info? 212 = some Tryz.t212 := by kernel_rfl
theorem tz_212 : Tryz.t212.zero = some (.nilFunc) := by kernel_rfl
theorem ag_213 : tyAgg Tryz.prog 213 = some none := by kernel_rfl
theorem ts_213 : tySize Tryz.prog 213 = some 1 := by kernel_rfl
theorem zc_213 : zeroOf Tryz.prog 213 = some (.pointer none) := by kernel_rfl
theorem ti_213 : Tryz.prog.info? 213 = some Tryz.t213 := by kernel_rfl
theorem tz_213 : Tryz.t213.zero = some (.pointer none) := by kernel_rfl
theorem ag_214 : tyAgg Tryz.prog 214 = some none := by kernel_rfl
theorem ts_214 : tySize Tryz.prog 214 = some 1 := by kernel_rfl
theorem zc_214 : zeroOf Tryz.prog 214 = some (.nilFunc) := by kernel_rfl
theorem ti_214 : Tryz.prog.info? 214 = some Tryz.t214 := by kernel_rfl
theorem tz_214 : Tryz.t214.zero = some (.nilFunc) := by kernel_rfl
theorem ag_215 : tyAgg Tryz.prog 215 = some none := by kernel_rfl
theorem ts_215 : tySize Tryz.prog 215 = some 1 := by kernel_rfl
theorem zc_215 : zeroOf Tryz.prog 215 = some (.nilFunc) := by kernel_rfl
theorem ti_215 : Tryz.prog.info? 215 = some Tryz.t215 := by kernel_rfl
theorem tz_215 : Tryz.t215.zero = some (.nilFunc) := by kernel_rfl
theorem ag_216 : tyAgg Tryz.prog 216 = some none := by kernel_rfl
theorem ts_216 : tySize Tryz.prog 216 = some 1 := by kernel_rfl
theorem zc_216 : zeroOf Tryz.prog 216 = some (.nilFunc) := by kernel_rfl
theorem ti_216 : Tryz.prog.info? 216 = some Tryz.t216 := by kernel_rfl
theorem tz_216 : Tryz.t216.zero = some (.nilFunc) := by kernel_rfl
theorem ag_217 : tyAgg Tryz.prog 217 = some (some 24) := by kernel_rfl
theorem ts_217 : tySize Tryz.prog 217 = some 24 := by kernel_rfl
theorem ar_217 : arSize Tryz.prog 217 = some (24, 1) := by kernel_rfl
theorem zc_217 : zeroOf Tryz.prog 217 = some (.agg #[.int .u8 0, .int .u8 0, .int .u8 0, .int .u8 0, .int .u8 0, .int .u8 0, .int .u8 0, .int .u8 0, .int .u8 0, .int .u8 0, .int .u8 0, .int .u8 0, .int .u8 0, .int .u8 0, .int .u8 0, .int .u8 0, .int .u8 0, .int .u8 0, .int .u8 0, .int .u8 0, .int .u8 0, .int .u8 0, .int .u8 0, .int .u8 0]) := by kernel_rfl
theorem ti_217 : Tryz.prog.info? 217 = some Tryz.t217 := by kernel_rfl
theorem tz_217 : Tryz.t217.zero = some (.agg #[.int .u8 0, .int .u8 0, .int .u8 0, .int .u8 0, .int .u8 0, .int .u8 0, .int .u8 0, .int .u8 0, .int .u8 0, .int .u8 0, .int .u8 0, .int .u8 0, .int .u8 0, .int .u8 0, .int .u8 0, .int .u8 0, .int .u8 0, .int .u8 0, .int .u8 0, .int .u8 0, .int .u8 0, .int .u8 0, .int .u8 0, .int .u8 0]) := by kernel_rfl
theorem ag_218 : tyAgg Tryz.prog 218 = some none := by kernel_rfl
theorem ts_218 : tySize Tryz.prog 218 = some 1 := by kernel_rfl
theorem zc_218 : zeroOf Tryz.prog 218 = some (.int .u64 0) := by kernel_rfl
theorem ti_218 : Tryz.prog.info? 218 = some Tryz.t218 := by kernel_rfl
theorem tz_218 : Tryz.t218.zero = some (.int .u64 0) := by kernel_rfl
theorem ag_219 : tyAgg Tryz.prog 219 = some none := by kernel_rfl
theorem ts_219 : tySize Tryz.prog 219 = some 1 := by kernel_rfl
theorem zc_219 : zeroOf Tryz.prog 219 = some (.nilFunc) := by kernel_rfl
theorem ti_219 : Tryz.prog.info? 219 = some Tryz.t219 := by kernel_rfl
theorem tz_219 : Tryz.t219.zero = some (.nilFunc) := by kernel_rfl
theorem ag_220 : tyAgg Tryz.prog 220 = some none := by kernel_rfl
theorem ts_220 : tySize Tryz.prog 220 = some 1 := by kernel_rfl
theorem zc_220 : zeroOf Tryz.prog 220 = some (.nilFunc) := by kernel_rfl
theorem ti_220 : Tryz.prog.info? 220 = some Tryz.t220 := by kernel_rfl
theorem tz_220 : Tryz.t220.zero = some (.nilFunc) := by kernel_rfl
theorem ts_221 : tySize Tryz.prog 221 = some 1 := by kernel_rfl
theorem zc_221 : zeroOf Tryz.prog 221 = some (.tuple #[.slice none 0 0, .string ByteArray.empty]) := by kernel_rfl
theorem ti_221 : Tryz.prog.info? 221 = some Tryz.t221 := by kernel_rfl
theorem tz_221 : Tryz.t221.zero = some (.tuple #[.slice none 0 0, .string ByteArray.empty]) := by kernel_rfl
theorem ag_222 : tyAgg Tryz.prog 222 = some none := by kernel_rfl
theorem ts_222 : tySize Tryz.prog 222 = some 1 := by kernel_rfl
theorem zc_222 : zeroOf Tryz.prog 222 = some (.nilFunc) := by kernel_rfl
theorem ti_222 : Tryz.prog.info? 222 = some Tryz.t222 := by kernel_rfl
theorem tz_222 : Tryz.t222.zero = some (.nilFunc) := by kernel_rfl
theorem ag_223 : tyAgg Tryz.prog 223 = some none := by kernel_rfl
theorem ts_223 : tySize Tryz.prog 223 = some 1 := by kernel_rfl
theorem zc_223 : zeroOf Tryz.prog 223 = some (.int .u32 0) := by kernel_rfl
theorem ti_223 : Tryz.prog.info? 223 = some Tryz.t223 := by kernel_rfl
theorem tz_223 : Tryz.t223.zero = some (.int .u32 0) := by kernel_rfl
theorem ts_224 : tySize Tryz.prog 224 = some 1 := by kernel_rfl
theorem zc_224 : zeroOf Tryz.prog 224 = some (.tuple #[.int .u32 0, .int .u32 0]) := by kernel_rfl
theorem ti_224 : Tryz.prog.info? 224 = some Tryz.t224 := by kernel_rfl
theorem tz_224 : Tryz.t224.zero = some (.tuple #[.int .u32 0, .int .u32 0]) := by kernel_rfl
theorem ag_225 : tyAgg Tryz.prog 225 = some none := by kernel_rfl
theorem ts_225 : tySize Tryz.prog 225 = some 1 := by kernel_rfl
theorem zc_225 : zeroOf Tryz.prog 225 = some (.nilFunc) := by kernel_rfl
theorem ti_225 : Tryz.prog.info? 225 = some Tryz.t225 := by kernel_rfl
theorem tz_225 : Tryz.t225.zero = some (.nilFunc) := by kernel_rfl
theorem ts_226 : tySize Tryz.prog 226 = some 1 := by kernel_rfl
theorem zc_226 : zeroOf Tryz.prog 226 = some (.tuple #[.int .u64 0, .nilIface]) := by kernel_rfl
theorem ti_226 : Tryz.prog.info? 226 = some Tryz.t226 := by kernel_rfl
theorem tz_226 : Tryz.t226.zero = some (.tuple #[.int .u64 0, .nilIface]) := by kernel_rfl
theorem ag_227 : tyAgg Tryz.prog 227 = some none := by kernel_rfl
theorem ts_227 : tySize Tryz.prog 227 = some 1 := by kernel_rfl
theorem zc_227 : zeroOf Tryz.prog 227 = some (.nilFunc) := by kernel_rfl
theorem ti_227 : Tryz.prog.info? 227 = some Tryz.t227 := by kernel_rfl
theorem tz_227 : Tryz.t227.zero = some (.nilFunc) := by kernel_rfl
theorem ag_228 : tyAgg Tryz.prog 228 = some none := by kernel_rfl
theorem ts_228 : tySize Tryz.prog 228 = some 1 := by kernel_rfl
theorem zc_228 : zeroOf Tryz.prog 228 = some (.nilFunc) := by kernel_rfl
theorem ti_228 : Tryz.prog.info? 228 = some Tryz.t228 := by kernel_rfl
theorem tz_228 : Tryz.t228.zero = some (.nilFunc) := by kernel_rfl
theorem ag_229 : tyAgg Tryz.prog 229 = some (some 3) := by kernel_rfl
theorem ts_229 : tySize Tryz.prog 229 = some 3 := by kernel_rfl
theorem fo_229_0 : fldOff Tryz.prog 229 0 = some 0 := by kernel_rfl
theorem fo_229_1 : fldOff Tryz.prog 229 1 = some 1 := by kernel_rfl
theorem fo_229_2 : fldOff Tryz.prog 229 2 = some 2 := by kernel_rfl
theorem zc_229 : zeroOf Tryz.prog 229 = some (.agg #[.string ByteArray.empty, .string ByteArray.empty, .nilIface]) := by kernel_rfl
theorem ti_229 : Tryz.prog.info? 229 = some Tryz.t229 := by kernel_rfl
theorem tz_229 : Tryz.t229.zero = some (.agg #[.string ByteArray.empty, .string ByteArray.empty, .nilIface]) := by kernel_rfl
theorem bu_229 : BuTy Tryz.prog 229 [(0, 1), (1, 1), (2, 1)] [.string ByteArray.empty, .string ByteArray.empty, .nilIface] := ⟨_, _, Tryz.underlying229, zc_229, rfl, by kernel_rfl⟩
theorem ag_230 : tyAgg Tryz.prog 230 = some (some 3) := by kernel_rfl
theorem ts_230 : tySize Tryz.prog 230 = some 3 := by kernel_rfl
theorem fo_230_0 : fldOff Tryz.prog 230 0 = some 0 := by kernel_rfl
theorem fo_230_1 : fldOff Tryz.prog 230 1 = some 1 := by kernel_rfl
theorem fo_230_2 : fldOff Tryz.prog 230 2 = some 2 := by kernel_rfl
theorem zc_230 : zeroOf Tryz.prog 230 = some (.agg #[.string ByteArray.empty, .string ByteArray.empty, .nilIface]) := by kernel_rfl
theorem ti_230 : Tryz.prog.info? 230 = some Tryz.t230 := by kernel_rfl
theorem tz_230 : Tryz.t230.zero = some (.agg #[.string ByteArray.empty, .string ByteArray.empty, .nilIface]) := by kernel_rfl
theorem bu_230 : BuTy Tryz.prog 230 [(0, 1), (1, 1), (2, 1)] [.string ByteArray.empty, .string ByteArray.empty, .nilIface] := ⟨_, _, Tryz.underlying230, zc_230, rfl, by kernel_rfl⟩
theorem ag_231 : tyAgg Tryz.prog 231 = some none := by kernel_rfl
theorem ts_231 : tySize Tryz.prog 231 = some 1 := by kernel_rfl
theorem zc_231 : zeroOf Tryz.prog 231 = some (.nilFunc) := by kernel_rfl
theorem ti_231 : Tryz.prog.info? 231 = some Tryz.t231 := by kernel_rfl
theorem tz_231 : Tryz.t231.zero = some (.nilFunc) := by kernel_rfl
theorem ag_232 : tyAgg Tryz.prog 232 = some none := by kernel_rfl
theorem ts_232 : tySize Tryz.prog 232 = some 1 := by kernel_rfl
theorem zc_232 : zeroOf Tryz.prog 232 = some (.nilFunc) := by kernel_rfl
theorem ti_232 : Tryz.prog.info? 232 = some Tryz.t232 := by kernel_rfl
theorem tz_232 : Tryz.t232.zero = some (.nilFunc) := by kernel_rfl
theorem ag_233 : tyAgg Tryz.prog 233 = some (some 20) := by kernel_rfl
theorem ts_233 : tySize Tryz.prog 233 = some 20 := by kernel_rfl
theorem ar_233 : arSize Tryz.prog 233 = some (20, 1) := by kernel_rfl
theorem zc_233 : zeroOf Tryz.prog 233 = some (.agg #[.int .u64 0, .int .u64 0, .int .u64 0, .int .u64 0, .int .u64 0, .int .u64 0, .int .u64 0, .int .u64 0, .int .u64 0, .int .u64 0, .int .u64 0, .int .u64 0, .int .u64 0, .int .u64 0, .int .u64 0, .int .u64 0, .int .u64 0, .int .u64 0, .int .u64 0, .int .u64 0]) := by kernel_rfl
theorem ti_233 : Tryz.prog.info? 233 = some Tryz.t233 := by kernel_rfl
theorem tz_233 : Tryz.t233.zero = some (.agg #[.int .u64 0, .int .u64 0, .int .u64 0, .int .u64 0, .int .u64 0, .int .u64 0, .int .u64 0, .int .u64 0, .int .u64 0, .int .u64 0, .int .u64 0, .int .u64 0, .int .u64 0, .int .u64 0, .int .u64 0, .int .u64 0, .int .u64 0, .int .u64 0, .int .u64 0, .int .u64 0]) := by kernel_rfl
theorem ag_234 : tyAgg Tryz.prog 234 = some (some 65) := by kernel_rfl
theorem ts_234 : tySize Tryz.prog 234 = some 65 := by kernel_rfl
theorem ar_234 : arSize Tryz.prog 234 = some (65, 1) := by kernel_rfl
theorem zc_234 : zeroOf Tryz.prog 234 = some (.agg #[.int .u8 0, .int .u8 0, .int .u8 0, .int .u8 0, .int .u8 0, .int .u8 0, .int .u8 0, .int .u8 0, .int .u8 0, .int .u8 0, .int .u8 0, .int .u8 0, .int .u8 0, .int .u8 0, .int .u8 0, .int .u8 0, .int .u8 0, .int .u8 0, .int .u8 0, .int .u8 0, .int .u8 0, .int .u8 0, .int .u8 0, .int .u8 0, .int .u8 0, .int .u8 0, .int .u8 0, .int .u8 0, .int .u8 0, .int .u8 0, .int .u8 0, .int .u8 0, .int .u8 0, .int .u8 0, .int .u8 0, .int .u8 0, .int .u8 0, .int .u8 0, .int .u8 0, .int .u8 0, .int .u8 0, .int .u8 0, .int .u8 0, .int .u8 0, .int .u8 0, .int .u8 0, .int .u8 0, .int .u8 0, .int .u8 0, .int .u8 0, .int .u8 0, .int .u8 0, .int .u8 0, .int .u8 0, .int .u8 0, .int .u8 0, .int .u8 0, .int .u8 0, .int .u8 0, .int .u8 0, .int .u8 0, .int .u8 0, .int .u8 0, .int .u8 0, .int .u8 0]) := by kernel_rfl
theorem ti_234 : Tryz.prog.info? 234 = some Tryz.t234 := by kernel_rfl
theorem tz_234 : Tryz.t234.zero = some (.agg #[.int .u8 0, .int .u8 0, .int .u8 0, .int .u8 0, .int .u8 0, .int .u8 0, .int .u8 0, .int .u8 0, .int .u8 0, .int .u8 0, .int .u8 0, .int .u8 0, .int .u8 0, .int .u8 0, .int .u8 0, .int .u8 0, .int .u8 0, .int .u8 0, .int .u8 0, .int .u8 0, .int .u8 0, .int .u8 0, .int .u8 0, .int .u8 0, .int .u8 0, .int .u8 0, .int .u8 0, .int .u8 0, .int .u8 0, .int .u8 0, .int .u8 0, .int .u8 0, .int .u8 0, .int .u8 0, .int .u8 0, .int .u8 0, .int .u8 0, .int .u8 0, .int .u8 0, .int .u8 0, .int .u8 0, .int .u8 0, .int .u8 0, .int .u8 0, .int .u8 0, .int .u8 0, .int .u8 0, .int .u8 0, .int .u8 0, .int .u8 0, .int .u8 0, .int .u8 0, .int .u8 0, .int .u8 0, .int .u8 0, .int .u8 0, .int .u8 0, .int .u8 0, .int .u8 0, .int .u8 0, .int .u8 0, .int .u8 0, .int .u8 0, .int .u8 0, .int .u8 0]) := by kernel_rfl
theorem ag_235 : tyAgg Tryz.prog 235 = some none := by kernel_rfl
theorem ts_235 : tySize Tryz.prog 235 = some 1 := by kernel_rfl
theorem zc_235 : zeroOf Tryz.prog 235 = some (.nilFunc) := by kernel_rfl
theorem ti_235 : Tryz.prog.info? 235 = some Tryz.t235 := by kernel_rfl
theorem tz_235 : Tryz.t235.zero = some (.nilFunc) := by kernel_rfl
theorem ag_236 : tyAgg Tryz.prog 236 = some (some 256) := by kernel_rfl
theorem ts_236 : tySize Tryz.prog 236 = some 256 := by kernel_rfl
theorem ar_236 : arSize Tryz.prog 236 = some (256, 1) := by kernel_rfl
theorem zc_236 : zeroOf Tryz.prog 236 = some (.agg #[.int .u8 0, .int .u8 0, .int .u8 0, .int .u8 0, .int .u8 0, .int .u8 0, .int .u8 0, .int .u8 0, .int .u8 0, .int .u8 0, .int .u8 0, .int .u8 0, .int .u8 0, .int .u8 0, .int .u8 0, .int .u8 0, .int .u8 0, .int .u8 0, .int .u8 0, .int .u8 0, .int .u8 0, .int .u8 0, .int .u8 0, .int .u8 0, .int .u8 0, .int .u8 0, .int .u8 0, .int .u8 0, .int .u8 0, .int .u8 0, .int .u8 0, .int .u8 0, .int .u8 0, .int .u8 0, .int .u8 0, .int .u8 0, .int .u8 0, .int .u8 0, .int .u8 0, .int .u8 0, .int .u8 0, .int .u8 0, .int .u8 0, .int .u8 0, .int .u8 0, .int .u8 0, .int .u8 0, .int .u8 0, .int .u8 0, .int .u8 0, .int .u8 0, .int .u8 0, .int .u8 0, .int .u8 0, .int .u8 0, .int .u8 0, .int .u8 0, .int .u8 0, .int .u8 0, .int .u8 0, .int .u8 0, .int .u8 0, .int .u8 0, .int .u8 0, .int .u8 0, .int .u8 0, .int .u8 0, .int .u8 0, .int .u8 0, .int .u8 0, .int .u8 0, .int .u8 0, .int .u8 0, .int .u8 0, .int .u8 0, .int .u8 0, .int .u8 0, .int .u8 0, .int .u8 0, .int .u8 0, .int .u8 0, .int .u8 0, .int .u8 0, .int .u8 0, .int .u8 0, .int .u8 0, .int .u8 0, .int .u8 0, .int .u8 0, .int .u8 0, .int .u8 0, .int .u8 0, .int .u8 0, .int .u8 0, .int .u8 0, .int .u8 0, .int .u8 0, .int .u8 0, .int .u8 0, .int .u8 0, .int .u8 0, .int .u8 0, .int .u8 0, .int .u8 0, .int .u8 0, .int .u8 0, .int .u8 0, .int .u8 0, .int .u8 0, .int .u8 0, .int .u8 0, .int .u8 0, .int .u8 0, .int .u8 0, .int .u8 0, .int .u8 0, .int .u8 0, .int .u8 0, .int .u8 0, .int .u8 0, .int .u8 0, .int .u8 0, .int .u8 0, .int .u8 0, .int .u8 0, .int .u8 0, .int .u8 0, .int .u8 0, .int .u8 0, .int .u8 0, .int .u8 0, .int .u8 0, .int .u8 0, .int .u8 0, .int .u8 0, .int .u8 0, .int .u8 0, .int .u8 0, .int .u8 0, .int .u8 0, .int .u8 0, .int .u8 0, .int .u8 0, .int .u8 0, .int .u8 0, .int .u8 0, .int .u8 0, .int .u8 0, .int .u8 0, .int .u8 0, .int .u8 0, .int .u8 0, .int .u8 0, .int .u8 0, .int .u8 0, .int .u8 0, .int .u8 0, .int .u8 0, .int .u8 0, .int .u8 0, .int .u8 0, .int .u8 0, .int .u8 0, .int .u8 0, .int .u8 0, .int .u8 0, .int .u8 0, .int .u8 0, .int .u8 0, .int .u8 0, .int .u8 0, .int .u8 0, .int .u8 0, .int .u8 0, .int .u8 0, .int .u8 0, .int .u8 0, .int .u8 0, .int .u8 0, .int .u8 0, .int .u8 0, .int .u8 0, .int .u8 0, .int .u8 0, .int .u8 0, .int .u8 0, .int .u8 0, .int .u8 0, .int .u8 0, .int .u8 0, .int .u8 0, .int .u8 0, .int .u8 0, .int .u8 0, .int .u8 0, .int .u8 0, .int .u8 0, .int .u8 0, .int .u8 0, .int .u8 0, .int .u8 0, .int .u8 0, .int .u8 0, .int .u8 0, .int .u8 0, .int .u8 0, .int .u8 0, .int .u8 0, .int .u8 0, .int .u8 0, .int .u8 0, .int .u8 0, .int .u8 0, .int .u8 0, .int .u8 0, .int .u8 0, .int .u8 0, .int .u8 0, .int .u8 0, .int .u8 0, .int .u8 0, .int .u8 0, .int .u8 0, .int .u8 0, .int .u8 0, .int .u8 0, .int .u8 0, .int .u8 0, .int .u8 0, .int .u8 0, .int .u8 0, .int .u8 0, .int .u8 0, .int .u8 0, .int .u8 0, .int .u8 0, .int .u8 0, .int .u8 0, .int .u8 0, .int .u8 0, .int .u8 0, .int .u8 0, .int .u8 0, .int .u8 0, .int .u8 0, .int .u8 0, .int .u8 0, .int .u8 0, .int .u8 0, .int .u8 0, .int .u8 0, .int .u8 0, .int .u8 0, .int .u8 0, .int .u8 0, .int .u8 0]) := by kernel_rfl
theorem ti_236 : Tryz.prog.info? 236 = some Tryz.t236 := by kernel_rfl
theorem tz_236 : Tryz.t236.zero = some (.agg #[.int .u8 0, .int .u8 0, .int .u8 0, .int .u8 0, .int .u8 0, .int .u8 0, .int .u8 0, .int .u8 0, .int .u8 0, .int .u8 0, .int .u8 0, .int .u8 0, .int .u8 0, .int .u8 0, .int .u8 0, .int .u8 0, .int .u8 0, .int .u8 0, .int .u8 0, .int .u8 0, .int .u8 0, .int .u8 0, .int .u8 0, .int .u8 0, .int .u8 0, .int .u8 0, .int .u8 0, .int .u8 0, .int .u8 0, .int .u8 0, .int .u8 0, .int .u8 0, .int .u8 0, .int .u8 0, .int .u8 0, .int .u8 0, .int .u8 0, .int .u8 0, .int .u8 0, .int .u8 0, .int .u8 0, .int .u8 0, .int .u8 0, .int .u8 0, .int .u8 0, .int .u8 0, .int .u8 0, .int .u8 0, .int .u8 0, .int .u8 0, .int .u8 0, .int .u8 0, .int .u8 0, .int .u8 0, .int .u8 0, .int .u8 0, .int .u8 0, .int .u8 0, .int .u8 0, .int .u8 0, .int .u8 0, .int .u8 0, .int .u8 0, .int .u8 0, .int .u8 0, .int .u8 0, .int .u8 0, .int .u8 0, .int .u8 0, .int .u8 0, .int .u8 0, .int .u8 0, .int .u8 0, .int .u8 0, .int .u8 0, .int .u8 0, .int .u8 0, .int .u8 0, .int .u8 0, .int .u8 0, .int .u8 0, .int .u8 0, .int .u8 0, .int .u8 0, .int .u8 0, .int .u8 0, .int .u8 0, .int .u8 0, .int .u8 0, .int .u8 0, .int .u8 0, .int .u8 0, .int .u8 0, .int .u8 0, .int .u8 0, .int .u8 0, .int .u8 0, .int .u8 0, .int .u8 0, .int .u8 0, .int .u8 0, .int .u8 0, .int .u8 0, .int .u8 0, .int .u8 0, .int .u8 0, .int .u8 0, .int .u8 0, .int .u8 0, .int .u8 0, .int .u8 0, .int .u8 0, .int .u8 0, .int .u8 0, .int .u8 0, .int .u8 0, .int .u8 0, .int .u8 0, .int .u8 0, .int .u8 0, .int .u8 0, .int .u8 0, .int .u8 0, .int .u8 0, .int .u8 0, .int .u8 0, .int .u8 0, .int .u8 0, .int .u8 0, .int .u8 0, .int .u8 0, .int .u8 0, .int .u8 0, .int .u8 0, .int .u8 0, .int .u8 0, .int .u8 0, .int .u8 0, .int .u8 0, .int .u8 0, .int .u8 0, .int .u8 0, .int .u8 0, .int .u8 0, .int .u8 0, .int .u8 0, .int .u8 0, .int .u8 0, .int .u8 0, .int .u8 0, .int .u8 0, .int .u8 0, .int .u8 0, .int .u8 0, .int .u8 0, .int .u8 0, .int .u8 0, .int .u8 0, .int .u8 0, .int .u8 0, .int .u8 0, .int .u8 0, .int .u8 0, .int .u8 0, .int .u8 0, .int .u8 0, .int .u8 0, .int .u8 0, .int .u8 0, .int .u8 0, .int .u8 0, .int .u8 0, .int .u8 0, .int .u8 0, .int .u8 0, .int .u8 0, .int .u8 0, .int .u8 0, .int .u8 0, .int .u8 0, .int .u8 0, .int .u8 0, .int .u8 0, .int .u8 0, .int .u8 0, .int .u8 0, .int .u8 0, .int .u8 0, .int .u8 0, .int .u8 0, .int .u8 0, .int .u8 0, .int .u8 0, .int .u8 0, .int .u8 0, .int .u8 0, .int .u8 0, .int .u8 0, .int .u8 0, .int .u8 0, .int .u8 0, .int .u8 0, .int .u8 0, .int .u8 0, .int .u8 0, .int .u8 0, .int .u8 0, .int .u8 0, .int .u8 0, .int .u8 0, .int .u8 0, .int .u8 0, .int .u8 0, .int .u8 0, .int .u8 0, .int .u8 0, .int .u8 0, .int .u8 0, .int .u8 0, .int .u8 0, .int .u8 0, .int .u8 0, .int .u8 0, .int .u8 0, .int .u8 0, .int .u8 0, .int .u8 0, .int .u8 0, .int .u8 0, .int .u8 0, .int .u8 0, .int .u8 0, .int .u8 0, .int .u8 0, .int .u8 0, .int .u8 0, .int .u8 0, .int .u8 0, .int .u8 0, .int .u8 0, .int .u8 0, .int .u8 0, .int .u8 0, .int .u8 0, .int .u8 0, .int .u8 0, .int .u8 0, .int .u8 0, .int .u8 0, .int .u8 0, .int .u8 0, .int .u8 0, .int .u8 0, .int .u8 0, .int .u8 0, .int .u8 0]) := by kernel_rfl
theorem ag_237 : tyAgg Tryz.prog 237 = some (some 2) := by kernel_rfl
theorem ts_237 : tySize Tryz.prog 237 = some 2 := by kernel_rfl
theorem fo_237_0 : fldOff Tryz.prog 237 0 = some 0 := by kernel_rfl
theorem fo_237_1 : fldOff Tryz.prog 237 1 = some 1 := by kernel_rfl
theorem zc_237 : zeroOf Tryz.prog 237 = some (.agg #[.int .u8 0, .int .u8 0]) := by kernel_rfl
theorem ti_237 : Tryz.prog.info? 237 = some Tryz.t237 := by kernel_rfl
theorem tz_237 : Tryz.t237.zero = some (.agg #[.int .u8 0, .int .u8 0]) := by kernel_rfl
theorem bu_237 : BuTy Tryz.prog 237 [(0, 1), (1, 1)] [.int .u8 0, .int .u8 0] := ⟨_, _, Tryz.underlying237, zc_237, rfl, by kernel_rfl⟩
theorem ag_238 : tyAgg Tryz.prog 238 = some (some 2) := by kernel_rfl
theorem ts_238 : tySize Tryz.prog 238 = some 2 := by kernel_rfl
theorem fo_238_0 : fldOff Tryz.prog 238 0 = some 0 := by kernel_rfl
theorem fo_238_1 : fldOff Tryz.prog 238 1 = some 1 := by kernel_rfl
theorem zc_238 : zeroOf Tryz.prog 238 = some (.agg #[.int .u8 0, .int .u8 0]) := by kernel_rfl
theorem ti_238 : Tryz.prog.info? 238 = some Tryz.t238 := by kernel_rfl
theorem tz_238 : Tryz.t238.zero = some (.agg #[.int .u8 0, .int .u8 0]) := by kernel_rfl
theorem bu_238 : BuTy Tryz.prog 238 [(0, 1), (1, 1)] [.int .u8 0, .int .u8 0] := ⟨_, _, Tryz.underlying238, zc_238, rfl, by kernel_rfl⟩
theorem ag_239 : tyAgg Tryz.prog 239 = some (some 32) := by kernel_rfl
theorem ts_239 : tySize Tryz.prog 239 = some 32 := by kernel_rfl
theorem ar_239 : arSize Tryz.prog 239 = some (16, 2) := by kernel_rfl
theorem zc_239 : zeroOf Tryz.prog 239 = some (.agg #[.int .u8 0, .int .u8 0, .int .u8 0, .int .u8 0, .int .u8 0, .int .u8 0, .int .u8 0, .int .u8 0, .int .u8 0, .int .u8 0, .int .u8 0, .int .u8 0, .int .u8 0, .int .u8 0, .int .u8 0, .int .u8 0, .int .u8 0, .int .u8 0, .int .u8 0, .int .u8 0, .int .u8 0, .int .u8 0, .int .u8 0, .int .u8 0, .int .u8 0, .int .u8 0, .int .u8 0, .int .u8 0, .int .u8 0, .int .u8 0, .int .u8 0, .int .u8 0]) := by kernel_rfl
theorem ti_239 : Tryz.prog.info? 239 = some Tryz.t239 := by kernel_rfl
theorem tz_239 : Tryz.t239.zero = some (.agg #[.int .u8 0, .int .u8 0, .int .u8 0, .int .u8 0, .int .u8 0, .int .u8 0, .int .u8 0, .int .u8 0, .int .u8 0, .int .u8 0, .int .u8 0, .int .u8 0, .int .u8 0, .int .u8 0, .int .u8 0, .int .u8 0, .int .u8 0, .int .u8 0, .int .u8 0, .int .u8 0, .int .u8 0, .int .u8 0, .int .u8 0, .int .u8 0, .int .u8 0, .int .u8 0, .int .u8 0, .int .u8 0, .int .u8 0, .int .u8 0, .int .u8 0, .int .u8 0]) := by kernel_rfl
theorem ag_240 : tyAgg Tryz.prog 240 = some none := by kernel_rfl
theorem ts_240 : tySize Tryz.prog 240 = some 1 := by kernel_rfl
theorem zc_240 : zeroOf Tryz.prog 240 = some (.nilFunc) := by kernel_rfl
theorem ti_240 : Tryz.prog.info? 240 = some Tryz.t240 := by kernel_rfl
theorem tz_240 : Tryz.t240.zero = some (.nilFunc) := by kernel_rfl
theorem ag_241 : tyAgg Tryz.prog 241 = some none := by kernel_rfl
theorem ts_241 : tySize Tryz.prog 241 = some 1 := by kernel_rfl
theorem zc_241 : zeroOf Tryz.prog 241 = some (.nilFunc) := by kernel_rfl
theorem ti_241 : Tryz.prog.info? 241 = some Tryz.t241 := by kernel_rfl
theorem tz_241 : Tryz.t241.zero = some (.nilFunc) := by kernel_rfl
theorem ag_242 : tyAgg Tryz.prog 242 = some none := by kernel_rfl
theorem ts_242 : tySize Tryz.prog 242 = some 1 := by kernel_rfl
theorem zc_242 : zeroOf Tryz.prog 242 = some (.pointer none) := by kernel_rfl
theorem ti_242 : Tryz.prog.info? 242 = some Tryz.t242 := by kernel_rfl
theorem tz_242 : Tryz.t242.zero = some (.pointer none) := by kernel_rfl
theorem ag_243 : tyAgg Tryz.prog 243 = some (some 1) := by kernel_rfl
theorem ts_243 : tySize Tryz.prog 243 = some 1 := by kernel_rfl
theorem fo_243_0 : fldOff Tryz.prog 243 0 = some 0 := by kernel_rfl
theorem zc_243 : zeroOf Tryz.prog 243 = some (.agg #[.string ByteArray.empty]) := by kernel_rfl
theorem ti_243 : Tryz.prog.info? 243 = some Tryz.t243 := by kernel_rfl
theorem tz_243 : Tryz.t243.zero = some (.agg #[.string ByteArray.empty]) := by kernel_rfl
theorem bu_243 : BuTy Tryz.prog 243 [(0, 1)] [.string ByteArray.empty] := ⟨_, _, Tryz.underlying243, zc_243, rfl, by kernel_rfl⟩
theorem ag_244 : tyAgg Tryz.prog 244 = some (some 1) := by kernel_rfl
theorem ts_244 : tySize Tryz.prog 244 = some 1 := by kernel_rfl
theorem fo_244_0 : fldOff Tryz.prog 244 0 = some 0 := by kernel_rfl
theorem zc_244 : zeroOf Tryz.prog 244 = some (.agg #[.string ByteArray.empty]) := by kernel_rfl
theorem ti_244 : Tryz.prog.info? 244 = some Tryz.t244 := by kernel_rfl
theorem tz_244 : Tryz.t244.zero = some (.agg #[.string ByteArray.empty]) := by kernel_rfl
theorem bu_244 : BuTy Tryz.prog 244 [(0, 1)] [.string ByteArray.empty] := ⟨_, _, Tryz.underlying244, zc_244, rfl, by kernel_rfl⟩
theorem ag_245 : tyAgg Tryz.prog 245 = some none := by kernel_rfl
theorem ts_245 : tySize Tryz.prog 245 = some 1 := by kernel_rfl
theorem zc_245 : zeroOf Tryz.prog 245 = some (.nilFunc) := by kernel_rfl
theorem ti_245 : Tryz.prog.info? 245 = some Tryz.t245 := by kernel_rfl
theorem tz_245 : Tryz.t245.zero = some (.nilFunc) := by kernel_rfl
theorem ag_246 : tyAgg Tryz.prog 246 = some (some 32) := by kernel_rfl
theorem ts_246 : tySize Tryz.prog 246 = some 32 := by kernel_rfl
theorem ar_246 : arSize Tryz.prog 246 = some (32, 1) := by kernel_rfl
theorem zc_246 : zeroOf Tryz.prog 246 = some (.agg #[.int .u8 0, .int .u8 0, .int .u8 0, .int .u8 0, .int .u8 0, .int .u8 0, .int .u8 0, .int .u8 0, .int .u8 0, .int .u8 0, .int .u8 0, .int .u8 0, .int .u8 0, .int .u8 0, .int .u8 0, .int .u8 0, .int .u8 0, .int .u8 0, .int .u8 0, .int .u8 0, .int .u8 0, .int .u8 0, .int .u8 0, .int .u8 0, .int .u8 0, .int .u8 0, .int .u8 0, .int .u8 0, .int .u8 0, .int .u8 0, .int .u8 0, .int .u8 0]) := by kernel_rfl
theorem ti_246 : Tryz.prog.info? 246 = some Tryz.t246 := by kernel_rfl
theorem tz_246 : Tryz.t246.zero = some (.agg #[.int .u8 0, .int .u8 0, .int .u8 0, .int .u8 0, .int .u8 0, .int .u8 0, .int .u8 0, .int .u8 0, .int .u8 0, .int .u8 0, .int .u8 0, .int .u8 0, .int .u8 0, .int .u8 0, .int .u8 0, .int .u8 0, .int .u8 0, .int .u8 0, .int .u8 0, .int .u8 0, .int .u8 0, .int .u8 0, .int .u8 0, .int .u8 0, .int .u8 0, .int .u8 0, .int .u8 0, .int .u8 0, .int .u8 0, .int .u8 0, .int .u8 0, .int .u8 0]) := by kernel_rfl
theorem ag_247 : tyAgg Tryz.prog 247 = some (some 64) := by kernel_rfl
theorem ts_247 : tySize Tryz.prog 247 = some 64 := by kernel_rfl
theorem ar_247 : arSize Tryz.prog 247 = some (64, 1) := by kernel_rfl
theorem zc_247 : zeroOf Tryz.prog 247 = some (.agg #[.int .u8 0, .int .u8 0, .int .u8 0, .int .u8 0, .int .u8 0, .int .u8 0, .int .u8 0, .int .u8 0, .int .u8 0, .int .u8 0, .int .u8 0, .int .u8 0, .int .u8 0, .int .u8 0, .int .u8 0, .int .u8 0, .int .u8 0, .int .u8 0, .int .u8 0, .int .u8 0, .int .u8 0, .int .u8 0, .int .u8 0, .int .u8 0, .int .u8 0, .int .u8 0, .int .u8 0, .int .u8 0, .int .u8 0, .int .u8 0, .int .u8 0, .int .u8 0, .int .u8 0, .int .u8 0, .int .u8 0, .int .u8 0, .int .u8 0, .int .u8 0, .int .u8 0, .int .u8 0, .int .u8 0, .int .u8 0, .int .u8 0, .int .u8 0, .int .u8 0, .int .u8 0, .int .u8 0, .int .u8 0, .int .u8 0, .int .u8 0, .int .u8 0, .int .u8 0, .int .u8 0, .int .u8 0, .int .u8 0, .int .u8 0, .int .u8 0, .int .u8 0, .int .u8 0, .int .u8 0, .int .u8 0, .int .u8 0, .int .u8 0, .int .u8 0]) := by kernel_rfl
theorem ti_247 : Tryz.prog.info? 247 = some Tryz.t247 := by kernel_rfl
theorem tz_247 : Tryz.t247.zero = some (.agg #[.int .u8 0, .int .u8 0, .int .u8 0, .int .u8 0, .int .u8 0, .int .u8 0, .int .u8 0, .int .u8 0, .int .u8 0, .int .u8 0, .int .u8 0, .int .u8 0, .int .u8 0, .int .u8 0, .int .u8 0, .int .u8 0, .int .u8 0, .int .u8 0, .int .u8 0, .int .u8 0, .int .u8 0, .int .u8 0, .int .u8 0, .int .u8 0, .int .u8 0, .int .u8 0, .int .u8 0, .int .u8 0, .int .u8 0, .int .u8 0, .int .u8 0, .int .u8 0, .int .u8 0, .int .u8 0, .int .u8 0, .int .u8 0, .int .u8 0, .int .u8 0, .int .u8 0, .int .u8 0, .int .u8 0, .int .u8 0, .int .u8 0, .int .u8 0, .int .u8 0, .int .u8 0, .int .u8 0, .int .u8 0, .int .u8 0, .int .u8 0, .int .u8 0, .int .u8 0, .int .u8 0, .int .u8 0, .int .u8 0, .int .u8 0, .int .u8 0, .int .u8 0, .int .u8 0, .int .u8 0, .int .u8 0, .int .u8 0, .int .u8 0, .int .u8 0]) := by kernel_rfl
theorem ag_248 : tyAgg Tryz.prog 248 = some (some 4) := by kernel_rfl
theorem ts_248 : tySize Tryz.prog 248 = some 4 := by kernel_rfl
theorem fo_248_0 : fldOff Tryz.prog 248 0 = some 0 := by kernel_rfl
theorem fo_248_1 : fldOff Tryz.prog 248 1 = some 1 := by kernel_rfl
theorem fo_248_2 : fldOff Tryz.prog 248 2 = some 2 := by kernel_rfl
theorem fo_248_3 : fldOff Tryz.prog 248 3 = some 3 := by kernel_rfl
theorem zc_248 : zeroOf Tryz.prog 248 = some (.agg #[.pointer none, .pointer none, .pointer none, .string ByteArray.empty]) := by kernel_rfl
theorem ti_248 : Tryz.prog.info? 248 = some Tryz.t248 := by kernel_rfl
theorem tz_248 : Tryz.t248.zero = some (.agg #[.pointer none, .pointer none, .pointer none, .string ByteArray.empty]) := by kernel_rfl
theorem bu_248 : BuTy Tryz.prog 248 [(0, 1), (1, 1), (2, 1), (3, 1)] [.pointer none, .pointer none, .pointer none, .string ByteArray.empty] := ⟨_, _, Tryz.underlying248, zc_248, rfl, by kernel_rfl⟩
theorem ag_249 : tyAgg Tryz.prog 249 = some (some 4) := by kernel_rfl
theorem ts_249 : tySize Tryz.prog 249 = some 4 := by kernel_rfl
theorem fo_249_0 : fldOff Tryz.prog 249 0 = some 0 := by kernel_rfl
theorem fo_249_1 : fldOff Tryz.prog 249 1 = some 1 := by kernel_rfl
theorem fo_249_2 : fldOff Tryz.prog 249 2 = some 2 := by kernel_rfl
theorem fo_249_3 : fldOff Tryz.prog 249 3 = some 3 := by kernel_rfl
theorem zc_249 : zeroOf Tryz.prog 249 = some (.agg #[.pointer none, .pointer none, .pointer none, .string ByteArray.empty]) := by kernel_rfl
theorem ti_249 : Tryz.prog.info? 249 = some Tryz.t249 := by kernel_rfl
theorem tz_249 : Tryz.t249.zero = some (.agg #[.pointer none, .pointer none, .pointer none, .string ByteArray.empty]) := by kernel_rfl
theorem bu_249 : BuTy Tryz.prog 249 [(0, 1), (1, 1), (2, 1), (3, 1)] [.pointer none, .pointer none, .pointer none, .string ByteArray.empty] := ⟨_, _, Tryz.underlying249, zc_249, rfl, by kernel_rfl⟩
theorem ag_250 : tyAgg Tryz.prog 250 = some (some 0) := by kernel_rfl
theorem ts_250 : tySize Tryz.prog 250 = some 0 := by kernel_rfl
theorem ar_250 : arSize Tryz.prog 250 = some (0, 1) := by kernel_rfl
theorem zc_250 : zeroOf Tryz.prog 250 = some (.agg #[]) := by kernel_rfl
theorem ti_250 : Tryz.prog.info? 250 = some Tryz.t250 := by kernel_rfl
theorem tz_250 : Tryz.t250.zero = some (.agg #[]) := by kernel_rfl
theorem ag_251 : tyAgg Tryz.prog 251 = some (some 0) := by kernel_rfl
theorem ts_251 : tySize Tryz.prog 251 = some 0 := by kernel_rfl
theorem zc_251 : zeroOf Tryz.prog 251 = some (.agg #[]) := by kernel_rfl
theorem ti_251 : Tryz.prog.info? 251 = some Tryz.t251 := by kernel_rfl
theorem tz_251 : Tryz.t251.zero = some (.agg #[]) := by kernel_rfl
theorem bu_251 : BuTy Tryz.prog 251 [(0, 0)] [] := ⟨_, _, Tryz.underlying251, zc_251, rfl, by kernel_rfl⟩
theorem ag_252 : tyAgg Tryz.prog 252 = some (some 0) := by kernel_rfl
theorem ts_252 : tySize Tryz.prog 252 = some 0 := by kernel_rfl
theorem zc_252 : zeroOf Tryz.prog 252 = some (.agg #[]) := by kernel_rfl
theorem ti_252 : Tryz.prog.info? 252 = some Tryz.t252 := by kernel_rfl
theorem tz_252 : Tryz.t252.zero = some (.agg #[]) := by kernel_rfl
theorem bu_252 : BuTy Tryz.prog 252 [(0, 0)] [] := ⟨_, _, Tryz.underlying252, zc_252, rfl, by kernel_rfl⟩
theorem ag_253 : tyAgg Tryz.prog 253 = some none := by kernel_rfl
theorem ts_253 : tySize Tryz.prog 253 = some 1 := by kernel_rfl
theorem zc_253 : zeroOf Tryz.prog 253 = some (.int .u8 0) := by kernel_rfl
theorem ti_253 : Tryz.prog.info? 253 = some Tryz.t253 := by kernel_rfl
theorem tz_253 : Tryz.t253.zero = some (.int .u8 0) := by kernel_rfl
theorem ag_254 : tyAgg Tryz.prog 254 = some none := by kernel_rfl
theorem ts_254 : tySize Tryz.prog 254 = some 1 := by kernel_rfl
theorem zc_254 : zeroOf Tryz.prog 254 = some (.int .u8 0) := by kernel_rfl
theorem ti_254 : Tryz.prog.info? 254 = some Tryz.t254 := by kernel_rfl
theorem tz_254 : Tryz.t254.zero = some (.int .u8 0) := by kernel_rfl
theorem ag_255 : tyAgg Tryz.prog 255 = some none := by kernel_rfl
theorem ts_255 : tySize Tryz.prog 255 = some 1 := by kernel_rfl
theorem zc_255 : zeroOf Tryz.prog 255 = some (.nilFunc) := by kernel_rfl
theorem ti_255 : Tryz.prog.info? 255 = some Tryz.t255 := by kernel_rfl
theorem tz_255 : Tryz.t255.zero = some (.nilFunc) := by kernel_rfl
theorem ag_256 : tyAgg Tryz.prog 256 = some none := by kernel_rfl
theorem ts_256 : tySize Tryz.prog 256 = some 1 := by kernel_rfl
theorem zc_256 : zeroOf Tryz.prog 256 = some (.int .i32 0) := by kernel_rfl
theorem ti_256 : Tryz.prog.info? 256 = some Tryz.t256 := by kernel_rfl
theorem tz_256 : Tryz.t256.zero = some (.int .i32 0) := by kernel_rfl
theorem ag_257 : tyAgg Tryz.prog 257 = some none := by kernel_rfl
theorem ts_257 : tySize Tryz.prog 257 = some 1 := by kernel_rfl
theorem zc_257 : zeroOf Tryz.prog 257 = some (.int .i32 0) := by kernel_rfl
theorem ti_257 : Tryz.prog.info? 257 = some Tryz.t257 := by kernel_rfl
theorem tz_257 : Tryz.t257.zero = some (.int .i32 0) := by kernel_rfl
theorem ag_258 : tyAgg Tryz.prog 258 = some (some 11) := by kernel_rfl
theorem ts_258 : tySize Tryz.prog 258 = some 11 := by kernel_rfl
theorem fo_258_0 : fldOff Tryz.prog 258 0 = some 0 := by kernel_rfl
theorem fo_258_1 : fldOff Tryz.prog 258 1 = some 1 := by kernel_rfl
theorem fo_258_2 : fldOff Tryz.prog 258 2 = some 2 := by kernel_rfl
theorem fo_258_3 : fldOff Tryz.prog 258 3 = some 3 := by kernel_rfl
theorem fo_258_4 : fldOff Tryz.prog 258 4 = some 4 := by kernel_rfl
theorem fo_258_5 : fldOff Tryz.prog 258 5 = some 5 := by kernel_rfl
theorem fo_258_6 : fldOff Tryz.prog 258 6 = some 6 := by kernel_rfl
theorem fo_258_7 : fldOff Tryz.prog 258 7 = some 7 := by kernel_rfl
theorem fo_258_8 : fldOff Tryz.prog 258 8 = some 8 := by kernel_rfl
theorem fo_258_9 : fldOff Tryz.prog 258 9 = some 9 := by kernel_rfl
theorem fo_258_10 : fldOff Tryz.prog 258 10 = some 10 := by kernel_rfl
theorem zc_258 : zeroOf Tryz.prog 258 = some (.agg #[.int .u64 0, .int .u64 0, .int .u32 0, .int .u8 0, .int .u8 0, .int .u8 0, .int .u8 0, .nilFunc, .pointer none, .int .i32 0, .int .i32 0]) := by kernel_rfl
theorem ti_258 : Tryz.prog.info? 258 = some Tryz.t258 := by kernel_rfl
theorem tz_258 : Tryz.t258.zero = some (.agg #[.int .u64 0, .int .u64 0, .int .u32 0, .int .u8 0, .int .u8 0, .int .u8 0, .int .u8 0, .nilFunc, .pointer none, .int .i32 0, .int .i32 0]) := by kernel_rfl
theorem bu_258 : BuTy Tryz.prog 258 [(0, 1), (1, 1), (2, 1), (3, 1), (4, 1), (5, 1), (6, 1), (7, 1), (8, 1), (9, 1), (10, 1)] [.int .u64 0, .int .u64 0, .int .u32 0, .int .u8 0, .int .u8 0, .int .u8 0, .int .u8 0, .nilFunc, .pointer none, .int .i32 0, .int .i32 0] := ⟨_, _, Tryz.underlying258, zc_258, rfl, by kernel_rfl⟩
theorem ag_259 : tyAgg Tryz.prog 259 = some (some 11) := by kernel_rfl
theorem ts_259 : tySize Tryz.prog 259 = some 11 := by kernel_rfl
theorem fo_259_0 : fldOff Tryz.prog 259 0 = some 0 := by kernel_rfl
theorem fo_259_1 : fldOff Tryz.prog 259 1 = some 1 := by kernel_rfl
theorem fo_259_2 : fldOff Tryz.prog 259 2 = some 2 := by kernel_rfl
theorem fo_259_3 : fldOff Tryz.prog 259 3 = some 3 := by kernel_rfl
theorem fo_259_4 : fldOff Tryz.prog 259 4 = some 4 := by kernel_rfl
theorem fo_259_5 : fldOff Tryz.prog 259 5 = some 5 := by kernel_rfl
theorem fo_259_6 : fldOff Tryz.prog 259 6 = some 6 := by kernel_rfl
theorem fo_259_7 : fldOff Tryz.prog 259 7 = some 7 := by kernel_rfl
theorem fo_259_8 : fldOff Tryz.prog 259 8 = some 8 := by kernel_rfl
theorem fo_259_9 : fldOff Tryz.prog 259 9 = some 9 := by kernel_rfl
theorem fo_259_10 : fldOff Tryz.prog 259 10 = some 10 := by kernel_rfl
theorem zc_259 : zeroOf Tryz.prog 259 = some (.agg #[.int .u64 0, .int .u64 0, .int .u32 0, .int .u8 0, .int .u8 0, .int .u8 0, .int .u8 0, .nilFunc, .pointer none, .int .i32 0, .int .i32 0]) := by kernel_rfl
theorem ti_259 : Tryz.prog.info? 259 = some Tryz.t259 := by kernel_rfl
theorem tz_259 : Tryz.t259.zero = some (.agg #[.int .u64 0, .int .u64 0, .int .u32 0, .int .u8 0, .int .u8 0, .int .u8 0, .int .u8 0, .nilFunc, .pointer none, .int .i32 0, .int .i32 0]) := by kernel_rfl
theorem bu_259 : BuTy Tryz.prog 259 [(0, 1), (1, 1), (2, 1), (3, 1), (4, 1), (5, 1), (6, 1), (7, 1), (8, 1), (9, 1), (10, 1)] [.int .u64 0, .int .u64 0, .int .u32 0, .int .u8 0, .int .u8 0, .int .u8 0, .int .u8 0, .nilFunc, .pointer none, .int .i32 0, .int .i32 0] := ⟨_, _, Tryz.underlying259, zc_259, rfl, by kernel_rfl⟩
theorem ag_260 : tyAgg Tryz.prog 260 = some none := by kernel_rfl
theorem ts_260 : tySize Tryz.prog 260 = some 1 := by kernel_rfl
theorem zc_260 : zeroOf Tryz.prog 260 = some (.nilFunc) := by kernel_rfl
theorem ti_260 : Tryz.prog.info? 260 = some Tryz.t260 := by kernel_rfl
theorem tz_260 : Tryz.t260.zero = some (.nilFunc) := by kernel_rfl
theorem ag_261 : tyAgg Tryz.prog 261 = some none := by kernel_rfl
theorem ts_261 : tySize Tryz.prog 261 = some 1 := by kernel_rfl
theorem zc_261 : zeroOf Tryz.prog 261 = some (.nilFunc) := by kernel_rfl
theorem ti_261 : Tryz.prog.info? 261 = some Tryz.t261 := by kernel_rfl
theorem tz_261 : Tryz.t261.zero = some (.nilFunc) := by kernel_rfl
theorem ba_171 : BuArr Tryz.prog 171 1 [.string ByteArray.empty, .string ByteArray.empty, .string ByteArray.empty, .string ByteArray.empty] := ⟨_, _, _, _, Tryz.underlying171, zc_171, rfl, ti_9, rfl⟩
theorem ba_172 : BuArr Tryz.prog 172 1 [.string ByteArray.empty, .string ByteArray.empty, .string ByteArray.empty, .string ByteArray.empty, .string ByteArray.empty, .string ByteArray.empty, .string ByteArray.empty] := ⟨_, _, _, _, Tryz.underlying172, zc_172, rfl, ti_9, rfl⟩
theorem ba_173 : BuArr Tryz.prog 173 1 [.string ByteArray.empty, .string ByteArray.empty, .string ByteArray.empty, .string ByteArray.empty, .string ByteArray.empty, .string ByteArray.empty, .string ByteArray.empty, .string ByteArray.empty, .string ByteArray.empty] := ⟨_, _, _, _, Tryz.underlying173, zc_173, rfl, ti_9, rfl⟩
theorem ba_174 : BuArr Tryz.prog 174 1 [.string ByteArray.empty, .string ByteArray.empty, .string ByteArray.empty] := ⟨_, _, _, _, Tryz.underlying174, zc_174, rfl, ti_9, rfl⟩
theorem ba_217 : BuArr Tryz.prog 217 1 [.int .u8 0, .int .u8 0, .int .u8 0, .int .u8 0, .int .u8 0, .int .u8 0, .int .u8 0, .int .u8 0, .int .u8 0, .int .u8 0, .int .u8 0, .int .u8 0, .int .u8 0, .int .u8 0, .int .u8 0, .int .u8 0, .int .u8 0, .int .u8 0, .int .u8 0, .int .u8 0, .int .u8 0, .int .u8 0, .int .u8 0, .int .u8 0] := ⟨_, _, _, _, Tryz.underlying217, zc_217, rfl, ti_5, rfl⟩
theorem ba_233 : BuArr Tryz.prog 233 1 [.int .u64 0, .int .u64 0, .int .u64 0, .int .u64 0, .int .u64 0, .int .u64 0, .int .u64 0, .int .u64 0, .int .u64 0, .int .u64 0, .int .u64 0, .int .u64 0, .int .u64 0, .int .u64 0, .int .u64 0, .int .u64 0, .int .u64 0, .int .u64 0, .int .u64 0, .int .u64 0] := ⟨_, _, _, _, Tryz.underlying233, zc_233, rfl, ti_218, rfl⟩
theorem ba_239 : BuArr Tryz.prog 239 2 [.int .u8 0, .int .u8 0, .int .u8 0, .int .u8 0, .int .u8 0, .int .u8 0, .int .u8 0, .int .u8 0, .int .u8 0, .int .u8 0, .int .u8 0, .int .u8 0, .int .u8 0, .int .u8 0, .int .u8 0, .int .u8 0, .int .u8 0, .int .u8 0, .int .u8 0, .int .u8 0, .int .u8 0, .int .u8 0, .int .u8 0, .int .u8 0, .int .u8 0, .int .u8 0, .int .u8 0, .int .u8 0, .int .u8 0, .int .u8 0, .int .u8 0, .int .u8 0] := ⟨_, _, _, _, Tryz.underlying239, zc_239, rfl, ti_238, rfl⟩
theorem ba_246 : BuArr Tryz.prog 246 1 [.int .u8 0, .int .u8 0, .int .u8 0, .int .u8 0, .int .u8 0, .int .u8 0, .int .u8 0, .int .u8 0, .int .u8 0, .int .u8 0, .int .u8 0, .int .u8 0, .int .u8 0, .int .u8 0, .int .u8 0, .int .u8 0, .int .u8 0, .int .u8 0, .int .u8 0, .int .u8 0, .int .u8 0, .int .u8 0, .int .u8 0, .int .u8 0, .int .u8 0, .int .u8 0, .int .u8 0, .int .u8 0, .int .u8 0, .int .u8 0, .int .u8 0, .int .u8 0] := ⟨_, _, _, _, Tryz.underlying246, zc_246, rfl, ti_5, rfl⟩
theorem ba_247 : BuArr Tryz.prog 247 1 [.int .u8 0, .int .u8 0, .int .u8 0, .int .u8 0, .int .u8 0, .int .u8 0, .int .u8 0, .int .u8 0, .int .u8 0, .int .u8 0, .int .u8 0, .int .u8 0, .int .u8 0, .int .u8 0, .int .u8 0, .int .u8 0, .int .u8 0, .int .u8 0, .int .u8 0, .int .u8 0, .int .u8 0, .int .u8 0, .int .u8 0, .int .u8 0, .int .u8 0, .int .u8 0, .int .u8 0, .int .u8 0, .int .u8 0, .int .u8 0, .int .u8 0, .int .u8 0, .int .u8 0, .int .u8 0, .int .u8 0, .int .u8 0, .int .u8 0, .int .u8 0, .int .u8 0, .int .u8 0, .int .u8 0, .int .u8 0, .int .u8 0, .int .u8 0, .int .u8 0, .int .u8 0, .int .u8 0, .int .u8 0, .int .u8 0, .int .u8 0, .int .u8 0, .int .u8 0, .int .u8 0, .int .u8 0, .int .u8 0, .int .u8 0, .int .u8 0, .int .u8 0, .int .u8 0, .int .u8 0, .int .u8 0, .int .u8 0, .int .u8 0, .int .u8 0] := ⟨_, _, _, _, Tryz.underlying247, zc_247, rfl, ti_5, rfl⟩
theorem ba_250 : BuArr Tryz.prog 250 1 [] := ⟨_, _, _, _, Tryz.underlying250, zc_250, rfl, ti_16, rfl⟩
theorem fn_2 : Fun Tryz.prog 2 := ⟨_, Tryz.func2, by kernel_rfl, by kernel_rfl⟩
theorem fn_3 : Fun Tryz.prog 3 := ⟨_, Tryz.func3, by kernel_rfl, by kernel_rfl⟩
theorem fn_4 : Fun Tryz.prog 4 := ⟨_, Tryz.func4, by kernel_rfl, by kernel_rfl⟩
theorem fn_5 : Fun Tryz.prog 5 := ⟨_, Tryz.func5, by kernel_rfl, by kernel_rfl⟩
theorem fn_6 : Fun Tryz.prog 6 := ⟨_, Tryz.func6, by kernel_rfl, by kernel_rfl⟩
theorem fn_7 : Fun Tryz.prog 7 := ⟨_, Tryz.func7, by kernel_rfl, by kernel_rfl⟩
theorem fn_8 : Fun Tryz.prog 8 := ⟨_, Tryz.func8, by kernel_rfl, by kernel_rfl⟩
theorem fn_9 : Fun Tryz.prog 9 := ⟨_, Tryz.func9, by kernel_rfl, by kernel_rfl⟩
theorem fn_10 : Fun Tryz.prog 10 := ⟨_, Tryz.func10, by kernel_rfl, by kernel_rfl⟩
theorem fn_11 : Fun Tryz.prog 11 := ⟨_, Tryz.func11, by kernel_rfl, by kernel_rfl⟩
theorem fn_12 : Fun Tryz.prog 12 := ⟨_, Tryz.func12, by kernel_rfl, by kernel_rfl⟩
theorem fn_13 : Fun Tryz.prog 13 := ⟨_, Tryz.func13, by kernel_rfl, by kernel_rfl⟩
theorem fn_14 : Fun Tryz.prog 14 := ⟨_, Tryz.func14, by kernel_rfl, by kernel_rfl⟩
theorem fn_15 : Fun Tryz.prog 15 := ⟨_, Tryz.func15, by kernel_rfl, by kernel_rfl⟩
theorem fn_16 : Fun Tryz.prog 16 := ⟨_, Tryz.func16, by kernel_rfl, by kernel_rfl⟩
theorem fn_17 : Fun Tryz.prog 17 := ⟨_, Tryz.func17, by kernel_rfl, by kernel_rfl⟩
theorem fn_18 : Fun Tryz.prog 18 := ⟨_, Tryz.func18, by kernel_rfl, by kernel_rfl⟩
theorem fn_19 : Fun Tryz.prog 19 := ⟨_, Tryz.func19, by kernel_rfl, by kernel_rfl⟩
theorem fn_20 : Fun Tryz.prog 20 := ⟨_, Tryz.func20, by kernel_rfl, by kernel_rfl⟩
theorem fn_21 : Fun Tryz.prog 21 := ⟨_, Tryz.func21, by kernel_rfl, by kernel_rfl⟩
theorem fn_22 : Fun Tryz.prog 22 := ⟨_, Tryz.func22, by kernel_rfl, by kernel_rfl⟩
theorem fn_23 : Fun Tryz.prog 23 := ⟨_, Tryz.func23, by kernel_rfl, by kernel_rfl⟩
theorem fn_24 : Fun Tryz.prog 24 := ⟨_, Tryz.func24, by kernel_rfl, by kernel_rfl⟩
theorem fn_25 : Fun Tryz.prog 25 := ⟨_, Tryz.func25, by kernel_rfl, by kernel_rfl⟩
theorem fn_26 : Fun Tryz.prog 26 := ⟨_, Tryz.func26, by kernel_rfl, by kernel_rfl⟩
theorem fn_27 : Fun Tryz.prog 27 := ⟨_, Tryz.func27, by kernel_rfl, by kernel_rfl⟩
theorem fn_28 : Fun Tryz.prog 28 := ⟨_, Tryz.func28, by kernel_rfl, by kernel_rfl⟩
theorem fn_29 : Fun Tryz.prog 29 := ⟨_, Tryz.func29, by kernel_rfl, by kernel_rfl⟩
theorem fn_30 : Fun Tryz.prog 30 := ⟨_, Tryz.func30, by kernel_rfl, by kernel_rfl⟩
theorem fn_31 : Fun Tryz.prog 31 := ⟨_, Tryz.func31, by kernel_rfl, by kernel_rfl⟩
theorem fn_32 : Fun Tryz.prog 32 := ⟨_, Tryz.func32, by kernel_rfl, by kernel_rfl⟩
theorem fn_33 : Fun Tryz.prog 33 := ⟨_, Tryz.func33, by kernel_rfl, by kernel_rfl⟩
theorem fn_34 : Fun Tryz.prog 34 := ⟨_, Tryz.func34, by kernel_rfl, by kernel_rfl⟩
theorem fn_35 : Fun Tryz.prog 35 := ⟨_, Tryz.func35, by kernel_rfl, by kernel_rfl⟩
theorem fn_36 : Fun Tryz.prog 36 := ⟨_, Tryz.func36, by kernel_rfl, by kernel_rfl⟩
theorem fn_37 : Fun Tryz.prog 37 := ⟨_, Tryz.func37, by kernel_rfl, by kernel_rfl⟩
theorem fn_38 : Fun Tryz.prog 38 := ⟨_, Tryz.func38, by kernel_rfl, by kernel_rfl⟩
theorem fn_39 : Fun Tryz.prog 39 := ⟨_, Tryz.func39, by kernel_rfl, by kernel_rfl⟩
theorem fn_40 : Fun Tryz.prog 40 := ⟨_, Tryz.func40, by kernel_rfl, by kernel_rfl⟩
theorem fn_41 : Fun Tryz.prog 41 := ⟨_, Tryz.func41, by kernel_rfl, by kernel_rfl⟩
theorem fn_42 : Fun Tryz.prog 42 := ⟨_, Tryz.func42, by kernel_rfl, by kernel_rfl⟩
theorem fn_43 : Fun Tryz.prog 43 := ⟨_, Tryz.func43, by kernel_rfl, by kernel_rfl⟩
theorem fn_44 : Fun Tryz.prog 44 := ⟨_, Tryz.func44, by kernel_rfl, by kernel_rfl⟩
theorem fn_45 : Fun Tryz.prog 45 := ⟨_, Tryz.func45, by kernel_rfl, by kernel_rfl⟩
theorem fn_46 : Fun Tryz.prog 46 := ⟨_, Tryz.func46, by kernel_rfl, by kernel_rfl⟩
theorem fn_47 : Fun Tryz.prog 47 := ⟨_, Tryz.func47, by kernel_rfl, by kernel_rfl⟩
theorem fn_48 : Fun Tryz.prog 48 := ⟨_, Tryz.func48, by kernel_rfl, by kernel_rfl⟩
theorem fn_49 : Fun Tryz.prog 49 := ⟨_, Tryz.func49, by kernel_rfl, by kernel_rfl⟩
theorem fn_50 : Fun Tryz.prog 50 := ⟨_, Tryz.func50, by kernel_rfl, by kernel_rfl⟩
theorem fn_51 : Fun Tryz.prog 51 := ⟨_, Tryz.func51, by kernel_rfl, by kernel_rfl⟩
theorem fn_52 : Fun Tryz.prog 52 := ⟨_, Tryz.func52, by kernel_rfl, by kernel_rfl⟩
theorem fn_53 : Fun Tryz.prog 53 := ⟨_, Tryz.func53, by kernel_rfl, by kernel_rfl⟩
theorem fn_54 : Fun Tryz.prog 54 := ⟨_, Tryz.func54, by kernel_rfl, by kernel_rfl⟩
theorem fn_55 : Fun Tryz.prog 55 := ⟨_, Tryz.func55, by kernel_rfl, by kernel_rfl⟩
theorem fn_56 : Fun Tryz.prog 56 := ⟨_, Tryz.func56, by kernel_rfl, by kernel_rfl⟩
theorem fn_57 : Fun Tryz.prog 57 := ⟨_, Tryz.func57, by kernel_rfl, by kernel_rfl⟩
theorem fn_58 : Fun Tryz.prog 58 := ⟨_, Tryz.func58, by kernel_rfl, by kernel_rfl⟩
theorem fn_59 : Fun Tryz.prog 59 := ⟨_, Tryz.func59, by kernel_rfl, by kernel_rfl⟩
theorem fn_60 : Fun Tryz.prog 60 := ⟨_, Tryz.func60, by kernel_rfl, by kernel_rfl⟩
theorem fn_61 : Fun Tryz.prog 61 := ⟨_, Tryz.func61, by kernel_rfl, by kernel_rfl⟩
theorem fn_62 : Fun Tryz.prog 62 := ⟨_, Tryz.func62, by kernel_rfl, by kernel_rfl⟩
theorem fn_63 : Fun Tryz.prog 63 := ⟨_, Tryz.func63, by kernel_rfl, by kernel_rfl⟩
theorem fn_64 : Fun Tryz.prog 64 := ⟨_, Tryz.func64, by kernel_rfl, by kernel_rfl⟩
theorem fn_65 : Fun Tryz.prog 65 := ⟨_, Tryz.func65, by kernel_rfl, by kernel_rfl⟩
theorem fn_66 : Fun Tryz.prog 66 := ⟨_, Tryz.func66, by kernel_rfl, by kernel_rfl⟩
theorem fn_67 : Fun Tryz.prog 67 := ⟨_, Tryz.func67, by kernel_rfl, by kernel_rfl⟩
theorem fn_68 : Fun Tryz.prog 68 := ⟨_, Tryz.func68, by kernel_rfl, by kernel_rfl⟩
theorem fn_69 : Fun Tryz.prog 69 := ⟨_, Tryz.func69, by kernel_rfl, by kernel_rfl⟩
theorem fn_70 : Fun Tryz.prog 70 := ⟨_, Tryz.func70, by kernel_rfl, by kernel_rfl⟩
theorem fn_71 : Fun Tryz.prog 71 := ⟨_, Tryz.func71, by kernel_rfl, by kernel_rfl⟩
theorem fn_72 : Fun Tryz.prog 72 := ⟨_, Tryz.func72, by kernel_rfl, by kernel_rfl⟩
theorem fn_73 : Fun Tryz.prog 73 := ⟨_, Tryz.func73, by kernel_rfl, by kernel_rfl⟩
theorem fn_74 : Fun Tryz.prog 74 := ⟨_, Tryz.func74, by kernel_rfl, by kernel_rfl⟩
theorem fn_75 : Fun Tryz.prog 75 := ⟨_, Tryz.func75, by kernel_rfl, by kernel_rfl⟩
theorem fn_76 : Fun Tryz.prog 76 := ⟨_, Tryz.func76, by kernel_rfl, by kernel_rfl⟩
theorem fn_77 : Fun Tryz.prog 77 := ⟨_, Tryz.func77, by kernel_rfl, by kernel_rfl⟩
theorem fn_78 : Fun Tryz.prog 78 := ⟨_, Tryz.func78, by kernel_rfl, by kernel_rfl⟩
theorem fn_79 : Fun Tryz.prog 79 := ⟨_, Tryz.func79, by kernel_rfl, by kernel_rfl⟩
theorem fn_80 : Fun Tryz.prog 80 := ⟨_, Tryz.func80, by kernel_rfl, by kernel_rfl⟩
theorem fn_81 : Fun Tryz.prog 81 := ⟨_, Tryz.func81, by kernel_rfl, by kernel_rfl⟩
theorem fn_82 : Fun Tryz.prog 82 := ⟨_, Tryz.func82, by kernel_rfl, by kernel_rfl⟩
theorem fn_83 : Fun Tryz.prog 83 := ⟨_, Tryz.func83, by kernel_rfl, by kernel_rfl⟩
theorem fn_84 : Fun Tryz.prog 84 := ⟨_, Tryz.func84, by kernel_rfl, by kernel_rfl⟩
theorem fn_85 : Fun Tryz.prog 85 := ⟨_, Tryz.func85, by kernel_rfl, by kernel_rfl⟩
theorem fn_86 : Fun Tryz.prog 86 := ⟨_, Tryz.func86, by kernel_rfl, by kernel_rfl⟩
theorem fn_87 : Fun Tryz.prog 87 := ⟨_, Tryz.func87, by kernel_rfl, by kernel_rfl⟩
theorem fn_88 : Fun Tryz.prog 88 := ⟨_, Tryz.func88, by kernel_rfl, by kernel_rfl⟩
theorem fn_89 : Fun Tryz.prog 89 := ⟨_, Tryz.func89, by kernel_rfl, by kernel_rfl⟩
theorem fn_90 : Fun Tryz.prog 90 := ⟨_, Tryz.func90, by kernel_rfl, by kernel_rfl⟩
theorem fn_91 : Fun Tryz.prog 91 := ⟨_, Tryz.func91, by kernel_rfl, by kernel_rfl⟩
theorem fn_92 : Fun Tryz.prog 92 := ⟨_, Tryz.func92, by kernel_rfl, by kernel_rfl⟩
theorem fn_93 : Fun Tryz.prog 93 := ⟨_, Tryz.func93, by kernel_rfl, by kernel_rfl⟩
theorem fn_94 : Fun Tryz.prog 94 := ⟨_, Tryz.func94, by kernel_rfl, by kernel_rfl⟩
theorem fn_95 : Fun Tryz.prog 95 := ⟨_, Tryz.func95, by kernel_rfl, by kernel_rfl⟩
theorem fn_96 : Fun Tryz.prog 96 := ⟨_, Tryz.func96, by kernel_rfl, by kernel_rfl⟩
theorem fn_97 : Fun Tryz.prog 97 := ⟨_, Tryz.func97, by kernel_rfl, by kernel_rfl⟩
theorem fn_98 : Fun Tryz.prog 98 := ⟨_, Tryz.func98, by kernel_rfl, by kernel_rfl⟩
theorem fn_99 : Fun Tryz.prog 99 := ⟨_, Tryz.func99, by kernel_rfl, by kernel_rfl⟩
theorem fn_100 : Fun Tryz.prog 100 := ⟨_, Tryz.func100, by kernel_rfl, by kernel_rfl⟩
theorem fn_101 : Fun Tryz.prog 101 := ⟨_, Tryz.func101, by kernel_rfl, by kernel_rfl⟩
theorem fn_102 : Fun Tryz.prog 102 := ⟨_, Tryz.func102, by kernel_rfl, by kernel_rfl⟩
theorem fn_103 : Fun Tryz.prog 103 := ⟨_, Tryz.func103, by kernel_rfl, by kernel_rfl⟩
theorem fn_104 : Fun Tryz.prog 104 := ⟨_, Tryz.func104, by kernel_rfl, by kernel_rfl⟩
theorem fn_105 : Fun Tryz.prog 105 := ⟨_, Tryz.func105, by kernel_rfl, by kernel_rfl⟩
theorem fn_106 : Fun Tryz.prog 106 := ⟨_, Tryz.func106, by kernel_rfl, by kernel_rfl⟩
theorem fn_107 : Fun Tryz.prog 107 := ⟨_, Tryz.func107, by kernel_rfl, by kernel_rfl⟩
theorem fn_108 : Fun Tryz.prog 108 := ⟨_, Tryz.func108, by kernel_rfl, by kernel_rfl⟩
theorem fn_109 : Fun Tryz.prog 109 := ⟨_, Tryz.func109, by kernel_rfl, by kernel_rfl⟩
theorem fn_110 : Fun Tryz.prog 110 := ⟨_, Tryz.func110, by kernel_rfl, by kernel_rfl⟩
theorem fn_111 : Fun Tryz.prog 111 := ⟨_, Tryz.func111, by kernel_rfl, by kernel_rfl⟩
theorem fn_112 : Fun Tryz.prog 112 := ⟨_, Tryz.func112, by kernel_rfl, by kernel_rfl⟩
theorem fn_114 : Fun Tryz.prog 114 := ⟨_, Tryz.func114, by kernel_rfl, by kernel_rfl⟩
theorem fn_115 : Fun Tryz.prog 115 := ⟨_, Tryz.func115, by kernel_rfl, by kernel_rfl⟩
theorem fn_116 : Fun Tryz.prog 116 := ⟨_, Tryz.func116, by kernel_rfl, by kernel_rfl⟩
theorem fn_117 : Fun Tryz.prog 117 := ⟨_, Tryz.func117, by kernel_rfl, by kernel_rfl⟩
theorem fn_118 : Fun Tryz.prog 118 := ⟨_, Tryz.func118, by kernel_rfl, by kernel_rfl⟩
theorem fn_119 : Fun Tryz.prog 119 := ⟨_, Tryz.func119, by kernel_rfl, by kernel_rfl⟩
theorem fn_120 : Fun Tryz.prog 120 := ⟨_, Tryz.func120, by kernel_rfl, by kernel_rfl⟩
theorem fn_121 : Fun Tryz.prog 121 := ⟨_, Tryz.func121, by kernel_rfl, by kernel_rfl⟩
theorem fn_122 : Fun Tryz.prog 122 := ⟨_, Tryz.func122, by kernel_rfl, by kernel_rfl⟩
theorem fn_123 : Fun Tryz.prog 123 := ⟨_, Tryz.func123, by kernel_rfl, by kernel_rfl⟩
theorem fn_124 : Fun Tryz.prog 124 := ⟨_, Tryz.func124, by kernel_rfl, by kernel_rfl⟩
theorem fn_125 : Fun Tryz.prog 125 := ⟨_, Tryz.func125, by kernel_rfl, by kernel_rfl⟩
theorem fn_126 : Fun Tryz.prog 126 := ⟨_, Tryz.func126, by kernel_rfl, by kernel_rfl⟩
theorem fn_127 : Fun Tryz.prog 127 := ⟨_, Tryz.func127, by kernel_rfl, by kernel_rfl⟩
theorem fn_128 : Fun Tryz.prog 128 := ⟨_, Tryz.func128, by kernel_rfl, by kernel_rfl⟩
theorem fn_129 : Fun Tryz.prog 129 := ⟨_, Tryz.func129, by kernel_rfl, by kernel_rfl⟩

end Go.Proofs.YtgkngljojfkkfaaGreatDoor
