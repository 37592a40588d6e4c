/- The types of the program: how many cells, where the fields lie, their zeros; the functions that can be called. -/
import Derived.Test.YtlmeblhcipkgmaaProg
import Derived.Test.YtlmeblhcipkgmaaU15
namespace Go.Proofs.Ytlmeblhcipkgmaa
open Go Go.U

theorem ts_0 : tySize Try.prog 0 = some 1 := by kernel_rfl
theorem zc_0 : zeroOf Try.prog 0 = some (.tuple #[]) := by kernel_rfl
theorem ti_0 : Try.prog.info? 0 = some Try.t0 := by kernel_rfl
theorem tz_0 : Try.t0.zero = some (.tuple #[]) := by kernel_rfl
theorem ag_1 : tyAgg Try.prog 1 = some none := by kernel_rfl
theorem ts_1 : tySize Try.prog 1 = some 1 := by kernel_rfl
theorem zc_1 : zeroOf Try.prog 1 = some (.nilFunc) := by kernel_rfl
theorem ti_1 : Try.prog.info? 1 = some Try.t1 := by kernel_rfl
theorem tz_1 : Try.t1.zero = some (.nilFunc) := by kernel_rfl
theorem ag_2 : tyAgg Try.prog 2 = some none := by kernel_rfl
theorem ts_2 : tySize Try.prog 2 = some 1 := by kernel_rfl
theorem zc_2 : zeroOf Try.prog 2 = some (.int .i64 0) := by kernel_rfl
theorem ti_2 : Try.prog.info? 2 = some Try.t2 := by kernel_rfl
theorem tz_2 : Try.t2.zero = some (.int .i64 0) := by kernel_rfl
theorem ag_3 : tyAgg Try.prog 3 = some none := by kernel_rfl
theorem ts_3 : tySize Try.prog 3 = some 1 := by kernel_rfl
theorem zc_3 : zeroOf Try.prog 3 = some (.int .i64 0) := by kernel_rfl
theorem ti_3 : Try.prog.info? 3 = some Try.t3 := by kernel_rfl
theorem tz_3 : Try.t3.zero = some (.int .i64 0) := by kernel_rfl
theorem ag_4 : tyAgg Try.prog 4 = some none := by kernel_rfl
theorem ts_4 : tySize Try.prog 4 = some 1 := by kernel_rfl
theorem zc_4 : zeroOf Try.prog 4 = some (.bool false) := by kernel_rfl
theorem ti_4 : Try.prog.info? 4 = some Try.t4 := by kernel_rfl
theorem tz_4 : Try.t4.zero = some (.bool false) := by kernel_rfl
theorem ag_5 : tyAgg Try.prog 5 = some none := by kernel_rfl
theorem ts_5 : tySize Try.prog 5 = some 1 := by kernel_rfl
theorem zc_5 : zeroOf Try.prog 5 = some (.int .u8 0) := by kernel_rfl
theorem ti_5 : Try.prog.info? 5 = some Try.t5 := by kernel_rfl
theorem tz_5 : Try.t5.zero = some (.int .u8 0) := by kernel_rfl
theorem ag_6 : tyAgg Try.prog 6 = some none := by kernel_rfl
theorem ts_6 : tySize Try.prog 6 = some 1 := by kernel_rfl
theorem zc_6 : zeroOf Try.prog 6 = some (.int .u8 0) := by kernel_rfl
theorem ti_6 : Try.prog.info? 6 = some Try.t6 := by kernel_rfl
theorem tz_6 : Try.t6.zero = some (.int .u8 0) := by kernel_rfl
theorem ag_7 : tyAgg Try.prog 7 = some (some 4) := by kernel_rfl
theorem ts_7 : tySize Try.prog 7 = some 4 := by kernel_rfl
theorem fo_7_0 : fldOff Try.prog 7 0 = some 0 := by kernel_rfl
theorem fo_7_1 : fldOff Try.prog 7 1 = some 1 := by kernel_rfl
theorem fo_7_2 : fldOff Try.prog 7 2 = some 2 := by kernel_rfl
theorem fo_7_3 : fldOff Try.prog 7 3 = some 3 := by kernel_rfl
theorem zc_7 : zeroOf Try.prog 7 = some (.agg #[.int .i64 0, .int .i64 0, .bool false, .int .u8 0]) := by kernel_rfl
theorem ti_7 : Try.prog.info? 7 = some Try.t7 := by kernel_rfl
theorem tz_7 : Try.t7.zero = some (.agg #[.int .i64 0, .int .i64 0, .bool false, .int .u8 0]) := by kernel_rfl
theorem bu_7 : BuTy Try.prog 7 [(0, 1), (1, 1), (2, 1), (3, 1)] [.int .i64 0, .int .i64 0, .bool false, .int .u8 0] := ⟨_, _, Try.underlying7, zc_7, rfl, by kernel_rfl⟩
theorem ag_8 : tyAgg Try.prog 8 = some (some 4) := by kernel_rfl
theorem ts_8 : tySize Try.prog 8 = some 4 := by kernel_rfl
theorem fo_8_0 : fldOff Try.prog 8 0 = some 0 := by kernel_rfl
theorem fo_8_1 : fldOff Try.prog 8 1 = some 1 := by kernel_rfl
theorem fo_8_2 : fldOff Try.prog 8 2 = some 2 := by kernel_rfl
theorem fo_8_3 : fldOff Try.prog 8 3 = some 3 := by kernel_rfl
theorem zc_8 : zeroOf Try.prog 8 = some (.agg #[.int .i64 0, .int .i64 0, .bool false, .int .u8 0]) := by kernel_rfl
theorem ti_8 : Try.prog.info? 8 = some Try.t8 := by kernel_rfl
theorem tz_8 : Try.t8.zero = some (.agg #[.int .i64 0, .int .i64 0, .bool false, .int .u8 0]) := by kernel_rfl
theorem bu_8 : BuTy Try.prog 8 [(0, 1), (1, 1), (2, 1), (3, 1)] [.int .i64 0, .int .i64 0, .bool false, .int .u8 0] := ⟨_, _, Try.underlying8, zc_8, rfl, by kernel_rfl⟩
theorem ag_9 : tyAgg Try.prog 9 = some none := by kernel_rfl
theorem ts_9 : tySize Try.prog 9 = some 1 := by kernel_rfl
theorem zc_9 : zeroOf Try.prog 9 = some (.string ByteArray.empty) := by kernel_rfl
theorem ti_9 : Try.prog.info? 9 = some Try.t9 := by kernel_rfl
theorem tz_9 : Try.t9.zero = some (.string ByteArray.empty) := by kernel_rfl
theorem ag_10 : tyAgg Try.prog 10 = some none := by kernel_rfl
theorem ts_10 : tySize Try.prog 10 = some 1 := by kernel_rfl
theorem zc_10 : zeroOf Try.prog 10 = some (.string ByteArray.empty) := by kernel_rfl
theorem ti_10 : Try.prog.info? 10 = some Try.t10 := by kernel_rfl
theorem tz_10 : Try.t10.zero = some (.string ByteArray.empty) := by kernel_rfl
theorem ag_11 : tyAgg Try.prog 11 = some none := by kernel_rfl
theorem ts_11 : tySize Try.prog 11 = some 1 := by kernel_rfl
theorem zc_11 : zeroOf Try.prog 11 = some (.string ByteArray.empty) := by kernel_rfl
theorem ti_11 : Try.prog.info? 11 = some Try.t11 := by kernel_rfl
theorem tz_11 : Try.t11.zero = some (.string ByteArray.empty) := by kernel_rfl
theorem ag_12 : tyAgg Try.prog 12 = some none := by kernel_rfl
theorem ts_12 : tySize Try.prog 12 = some 1 := by kernel_rfl
theorem zc_12 : zeroOf Try.prog 12 = some (.int .u64 0) := by kernel_rfl
theorem ti_12 : Try.prog.info? 12 = some Try.t12 := by kernel_rfl
theorem tz_12 : Try.t12.zero = some (.int .u64 0) := by kernel_rfl
theorem ag_13 : tyAgg Try.prog 13 = some (some 2) := by kernel_rfl
theorem ts_13 : tySize Try.prog 13 = some 2 := by kernel_rfl
theorem fo_13_0 : fldOff Try.prog 13 0 = some 0 := by kernel_rfl
theorem fo_13_1 : fldOff Try.prog 13 1 = some 1 := by kernel_rfl
theorem zc_13 : zeroOf Try.prog 13 = some (.agg #[.string ByteArray.empty, .int .u64 0]) := by kernel_rfl
theorem ti_13 : Try.prog.info? 13 = some Try.t13 := by kernel_rfl
theorem tz_13 : Try.t13.zero = some (.agg #[.string ByteArray.empty, .int .u64 0]) := by kernel_rfl
theorem bu_13 : BuTy Try.prog 13 [(0, 1), (1, 1)] [.string ByteArray.empty, .int .u64 0] := ⟨_, _, Try.underlying13, zc_13, rfl, by kernel_rfl⟩
theorem ag_14 : tyAgg Try.prog 14 = some (some 2) := by kernel_rfl
theorem ts_14 : tySize Try.prog 14 = some 2 := by kernel_rfl
theorem fo_14_0 : fldOff Try.prog 14 0 = some 0 := by kernel_rfl
theorem fo_14_1 : fldOff Try.prog 14 1 = some 1 := by kernel_rfl
theorem zc_14 : zeroOf Try.prog 14 = some (.agg #[.string ByteArray.empty, .int .u64 0]) := by kernel_rfl
theorem ti_14 : Try.prog.info? 14 = some Try.t14 := by kernel_rfl
theorem tz_14 : Try.t14.zero = some (.agg #[.string ByteArray.empty, .int .u64 0]) := by kernel_rfl
theorem bu_14 : BuTy Try.prog 14 [(0, 1), (1, 1)] [.string ByteArray.empty, .int .u64 0] := ⟨_, _, Try.underlying14, zc_14, rfl, by kernel_rfl⟩
theorem ag_15 : tyAgg Try.prog 15 = some none := by kernel_rfl
theorem ts_15 : tySize Try.prog 15 = some 1 := by kernel_rfl
theorem zc_15 : zeroOf Try.prog 15 = some (.pointer none) := by kernel_rfl
theorem ti_15 : Try.prog.info? 15 = some Try.t15 := by kernel_rfl
theorem tz_15 : Try.t15.zero = some (.pointer none) := by kernel_rfl
theorem ag_16 : tyAgg Try.prog 16 = some none := by kernel_rfl
theorem ts_16 : tySize Try.prog 16 = some 1 := by kernel_rfl
theorem zc_16 : zeroOf Try.prog 16 = some (.pointer none) := by kernel_rfl
theorem ti_16 : Try.prog.info? 16 = some Try.t16 := by kernel_rfl
theorem tz_16 : Try.t16.zero = some (.pointer none) := by kernel_rfl
theorem ag_17 : tyAgg Try.prog 17 = some none := by kernel_rfl
theorem ts_17 : tySize Try.prog 17 = some 1 := by kernel_rfl
theorem zc_17 : zeroOf Try.prog 17 = some (.pointer none) := by kernel_rfl
theorem ti_17 : Try.prog.info? 17 = some Try.t17 := by kernel_rfl
theorem tz_17 : Try.t17.zero = some (.pointer none) := by kernel_rfl
theorem ag_18 : tyAgg Try.prog 18 = some (some 1) := by kernel_rfl
theorem ts_18 : tySize Try.prog 18 = some 1 := by kernel_rfl
theorem fo_18_0 : fldOff Try.prog 18 0 = some 0 := by kernel_rfl
theorem zc_18 : zeroOf Try.prog 18 = some (.agg #[.pointer none]) := by kernel_rfl
theorem ti_18 : Try.prog.info? 18 = some Try.t18 := by kernel_rfl
theorem tz_18 : Try.t18.zero = some (.agg #[.pointer none]) := by kernel_rfl
theorem bu_18 : BuTy Try.prog 18 [(0, 1)] [.pointer none] := ⟨_, _, Try.underlying18, zc_18, rfl, by kernel_rfl⟩
theorem ag_19 : tyAgg Try.prog 19 = some (some 1) := by kernel_rfl
theorem ts_19 : tySize Try.prog 19 = some 1 := by kernel_rfl
theorem fo_19_0 : fldOff Try.prog 19 0 = some 0 := by kernel_rfl
theorem zc_19 : zeroOf Try.prog 19 = some (.agg #[.pointer none]) := by kernel_rfl
theorem ti_19 : Try.prog.info? 19 = some Try.t19 := by kernel_rfl
theorem tz_19 : Try.t19.zero = some (.agg #[.pointer none]) := by kernel_rfl
theorem bu_19 : BuTy Try.prog 19 [(0, 1)] [.pointer none] := ⟨_, _, Try.underlying19, zc_19, rfl, by kernel_rfl⟩
theorem ag_20 : tyAgg Try.prog 20 = some none := by kernel_rfl
theorem ts_20 : tySize Try.prog 20 = some 1 := by kernel_rfl
theorem zc_20 : zeroOf Try.prog 20 = some (.nilIface) := by kernel_rfl
theorem ti_20 : Try.prog.info? 20 = some Try.t20 := by kernel_rfl
theorem tz_20 : Try.t20.zero = some (.nilIface) := by kernel_rfl
theorem ag_21 : tyAgg Try.prog 21 = some none := by kernel_rfl
theorem ts_21 : tySize Try.prog 21 = some 1 := by kernel_rfl
theorem zc_21 : zeroOf Try.prog 21 = some (.int .i32 0) := by kernel_rfl
theorem ti_21 : Try.prog.info? 21 = some Try.t21 := by kernel_rfl
theorem tz_21 : Try.t21.zero = some (.int .i32 0) := by kernel_rfl
theorem ag_22 : tyAgg Try.prog 22 = some none := by kernel_rfl
theorem ts_22 : tySize Try.prog 22 = some 1 := by kernel_rfl
theorem sz_22 : slSize Try.prog 22 = some 2 := by kernel_rfl
theorem st_22 : SlTy Try.prog 22 40 2 16 := ⟨Try.underlying22, ⟨_, _, (by kernel_rfl : Try.prog.info? 40 = some Try.t40), (by kernel_rfl : Try.t40.zero = some (.agg #[.int .i64 0, .int .i64 0])), by kernel_rfl, by kernel_rfl, by kernel_rfl⟩, by decide⟩
theorem zc_22 : zeroOf Try.prog 22 = some (.slice none 0 0) := by kernel_rfl
theorem ti_22 : Try.prog.info? 22 = some Try.t22 := by kernel_rfl
theorem tz_22 : Try.t22.zero = some (.slice none 0 0) := by kernel_rfl
theorem ag_23 : tyAgg Try.prog 23 = some none := by kernel_rfl
theorem ts_23 : tySize Try.prog 23 = some 1 := by kernel_rfl
theorem sz_23 : slSize Try.prog 23 = some 1 := by kernel_rfl
theorem st_23 : SlTy Try.prog 23 3 1 8 := ⟨Try.underlying23, ⟨_, _, (by kernel_rfl : Try.prog.info? 3 = some Try.t3), (by kernel_rfl : Try.t3.zero = some (.int .i64 0)), by kernel_rfl, by kernel_rfl, by kernel_rfl⟩, by decide⟩
theorem zc_23 : zeroOf Try.prog 23 = some (.slice none 0 0) := by kernel_rfl
theorem ti_23 : Try.prog.info? 23 = some Try.t23 := by kernel_rfl
theorem tz_23 : Try.t23.zero = some (.slice none 0 0) := by kernel_rfl
theorem ag_24 : tyAgg Try.prog 24 = some none := by kernel_rfl
theorem ts_24 : tySize Try.prog 24 = some 1 := by kernel_rfl
theorem zc_24 : zeroOf Try.prog 24 = some (.nilFunc) := by kernel_rfl
theorem ti_24 : Try.prog.info? 24 = some Try.t24 := by kernel_rfl
theorem tz_24 : Try.t24.zero = some (.nilFunc) := by kernel_rfl
theorem ag_25 : tyAgg Try.prog 25 = some none := by kernel_rfl
theorem ts_25 : tySize Try.prog 25 = some 1 := by kernel_rfl
theorem zc_25 : zeroOf Try.prog 25 = some (.pointer none) := by kernel_rfl
theorem ti_25 : Try.prog.info? 25 = some Try.t25 := by kernel_rfl
theorem tz_25 : Try.t25.zero = some (.pointer none) := by kernel_rfl
theorem ag_26 : tyAgg Try.prog 26 = some none := by kernel_rfl
theorem ts_26 : tySize Try.prog 26 = some 1 := by kernel_rfl
theorem sz_26 : slSize Try.prog 26 = some 2 := by kernel_rfl
theorem st_26 : SlTy Try.prog 26 46 2 16 := ⟨Try.underlying26, ⟨_, _, (by kernel_rfl : Try.prog.info? 46 = some Try.t46), (by kernel_rfl : Try.t46.zero = some (.agg #[.int .i64 0, .int .i64 0])), by kernel_rfl, by kernel_rfl, by kernel_rfl⟩, by decide⟩
theorem zc_26 : zeroOf Try.prog 26 = some (.slice none 0 0) := by kernel_rfl
theorem ti_26 : Try.prog.info? 26 = some Try.t26 := by kernel_rfl
theorem tz_26 : Try.t26.zero = some (.slice none 0 0) := by kernel_rfl
theorem ts_27 : tySize Try.prog 27 = some 1 := by kernel_rfl
theorem zc_27 : zeroOf Try.prog 27 = some (.tuple #[.pointer none, .slice none 0 0]) := by kernel_rfl
theorem ti_27 : Try.prog.info? 27 = some Try.t27 := by kernel_rfl
theorem tz_27 : Try.t27.zero = some (.tuple #[.pointer none, .slice none 0 0]) := by kernel_rfl
theorem ag_28 : tyAgg Try.prog 28 = some none := by kernel_rfl
theorem ts_28 : tySize Try.prog 28 = some 1 := by kernel_rfl
theorem zc_28 : zeroOf Try.prog 28 = some (.nilFunc) := by kernel_rfl
theorem ti_28 : Try.prog.info? 28 = some Try.t28 := by kernel_rfl
theorem tz_28 : Try.t28.zero = some (.nilFunc) := by kernel_rfl
theorem ag_29 : tyAgg Try.prog 29 = some none := by kernel_rfl
theorem ts_29 : tySize Try.prog 29 = some 1 := by kernel_rfl
theorem zc_29 : zeroOf Try.prog 29 = some (.nilFunc) := by kernel_rfl
theorem ti_29 : Try.prog.info? 29 = some Try.t29 := by kernel_rfl
theorem tz_29 : Try.t29.zero = some (.nilFunc) := by kernel_rfl
theorem ag_30 : tyAgg Try.prog 30 = some none := by kernel_rfl
theorem ts_30 : tySize Try.prog 30 = some 1 := by kernel_rfl
theorem zc_30 : zeroOf Try.prog 30 = some (.nilFunc) := by kernel_rfl
theorem ti_30 : Try.prog.info? 30 = some Try.t30 := by kernel_rfl
theorem tz_30 : Try.t30.zero = some (.nilFunc) := by kernel_rfl
theorem ag_31 : tyAgg Try.prog 31 = some none := by kernel_rfl
theorem ts_31 : tySize Try.prog 31 = some 1 := by kernel_rfl
theorem zc_31 : zeroOf Try.prog 31 = some (.nilFunc) := by kernel_rfl
theorem ti_31 : Try.prog.info? 31 = some Try.t31 := by kernel_rfl
theorem tz_31 : Try.t31.zero = some (.nilFunc) := by kernel_rfl
theorem ag_32 : tyAgg Try.prog 32 = some none := by kernel_rfl
theorem ts_32 : tySize Try.prog 32 = some 1 := by kernel_rfl
theorem zc_32 : zeroOf Try.prog 32 = some (.nilFunc) := by kernel_rfl
theorem ti_32 : Try.prog.info? 32 = some Try.t32 := by kernel_rfl
theorem tz_32 : Try.t32.zero = some (.nilFunc) := by kernel_rfl
theorem ag_33 : tyAgg Try.prog 33 = some none := by kernel_rfl
theorem ts_33 : tySize Try.prog 33 = some 1 := by kernel_rfl
theorem zc_33 : zeroOf Try.prog 33 = some (.nilFunc) := by kernel_rfl
theorem ti_33 : Try.prog.info? 33 = some Try.t33 := by kernel_rfl
theorem tz_33 : Try.t33.zero = some (.nilFunc) := by kernel_rfl
theorem ag_34 : tyAgg Try.prog 34 = some none := by kernel_rfl
theorem ts_34 : tySize Try.prog 34 = some 1 := by kernel_rfl
theorem zc_34 : zeroOf Try.prog 34 = some (.nilFunc) := by kernel_rfl
theorem ti_34 : Try.prog.info? 34 = some Try.t34 := by kernel_rfl
theorem tz_34 : Try.t34.zero = some (.nilFunc) := by kernel_rfl
theorem ag_35 : tyAgg Try.prog 35 = some none := by kernel_rfl
theorem ts_35 : tySize Try.prog 35 = some 1 := by kernel_rfl
theorem zc_35 : zeroOf Try.prog 35 = some (.nilFunc) := by kernel_rfl
theorem ti_35 : Try.prog.info? 35 = some Try.t35 := by kernel_rfl
theorem tz_35 : Try.t35.zero = some (.nilFunc) := by kernel_rfl
theorem ag_36 : tyAgg Try.prog 36 = some none := by kernel_rfl
theorem ts_36 : tySize Try.prog 36 = some 1 := by kernel_rfl
theorem zc_36 : zeroOf Try.prog 36 = some (.nilFunc) := by kernel_rfl
theorem ti_36 : Try.prog.info? 36 = some Try.t36 := by kernel_rfl
theorem tz_36 : Try.t36.zero = some (.nilFunc) := by kernel_rfl
theorem ag_37 : tyAgg Try.prog 37 = some none := by kernel_rfl
theorem ts_37 : tySize Try.prog 37 = some 1 := by kernel_rfl
theorem zc_37 : zeroOf Try.prog 37 = some (.pointer none) := by kernel_rfl
theorem ti_37 : Try.prog.info? 37 = some Try.t37 := by kernel_rfl
theorem tz_37 : Try.t37.zero = some (.pointer none) := by kernel_rfl
theorem ag_38 : tyAgg Try.prog 38 = some none := by kernel_rfl
theorem ts_38 : tySize Try.prog 38 = some 1 := by kernel_rfl
theorem zc_38 : zeroOf Try.prog 38 = some (.nilFunc) := by kernel_rfl
theorem ti_38 : Try.prog.info? 38 = some Try.t38 := by kernel_rfl
theorem tz_38 : Try.t38.zero = some (.nilFunc) := by kernel_rfl
theorem ag_39 : tyAgg Try.prog 39 = some (some 2) := by kernel_rfl
theorem ts_39 : tySize Try.prog 39 = some 2 := by kernel_rfl
theorem fo_39_0 : fldOff Try.prog 39 0 = some 0 := by kernel_rfl
theorem fo_39_1 : fldOff Try.prog 39 1 = some 1 := by kernel_rfl
theorem zc_39 : zeroOf Try.prog 39 = some (.agg #[.int .i64 0, .int .i64 0]) := by kernel_rfl
theorem ti_39 : Try.prog.info? 39 = some Try.t39 := by kernel_rfl
theorem tz_39 : Try.t39.zero = some (.agg #[.int .i64 0, .int .i64 0]) := by kernel_rfl
theorem bu_39 : BuTy Try.prog 39 [(0, 1), (1, 1)] [.int .i64 0, .int .i64 0] := ⟨_, _, Try.underlying39, zc_39, rfl, by kernel_rfl⟩
theorem ag_40 : tyAgg Try.prog 40 = some (some 2) := by kernel_rfl
theorem ts_40 : tySize Try.prog 40 = some 2 := by kernel_rfl
theorem fo_40_0 : fldOff Try.prog 40 0 = some 0 := by kernel_rfl
theorem fo_40_1 : fldOff Try.prog 40 1 = some 1 := by kernel_rfl
theorem zc_40 : zeroOf Try.prog 40 = some (.agg #[.int .i64 0, .int .i64 0]) := by kernel_rfl
theorem ti_40 : Try.prog.info? 40 = some Try.t40 := by kernel_rfl
theorem tz_40 : Try.t40.zero = some (.agg #[.int .i64 0, .int .i64 0]) := by kernel_rfl
theorem bu_40 : BuTy Try.prog 40 [(0, 1), (1, 1)] [.int .i64 0, .int .i64 0] := ⟨_, _, Try.underlying40, zc_40, rfl, by kernel_rfl⟩
theorem ag_41 : tyAgg Try.prog 41 = some none := by kernel_rfl
theorem ts_41 : tySize Try.prog 41 = some 1 := by kernel_rfl
theorem zc_41 : zeroOf Try.prog 41 = some (.nilFunc) := by kernel_rfl
theorem ti_41 : Try.prog.info? 41 = some Try.t41 := by kernel_rfl
theorem tz_41 : Try.t41.zero = some (.nilFunc) := by kernel_rfl
theorem ag_42 : tyAgg Try.prog 42 = some none := by kernel_rfl
theorem ts_42 : tySize Try.prog 42 = some 1 := by kernel_rfl
theorem zc_42 : zeroOf Try.prog 42 = some (.nilFunc) := by kernel_rfl
theorem ti_42 : Try.prog.info? 42 = some Try.t42 := by kernel_rfl
theorem tz_42 : Try.t42.zero = some (.nilFunc) := by kernel_rfl
theorem ag_43 : tyAgg Try.prog 43 = some none := by kernel_rfl
theorem ts_43 : tySize Try.prog 43 = some 1 := by kernel_rfl
theorem sz_43 : slSize Try.prog 43 = some 2 := by kernel_rfl
theorem st_43 : SlTy Try.prog 43 45 2 32 := ⟨Try.underlying43, ⟨_, _, (by kernel_rfl : Try.prog.info? 45 = some Try.t45), (by kernel_rfl : Try.t45.zero = some (.agg #[.string ByteArray.empty, .string ByteArray.empty])), by kernel_rfl, by kernel_rfl, by kernel_rfl⟩, by decide⟩
theorem zc_43 : zeroOf Try.prog 43 = some (.slice none 0 0) := by kernel_rfl
theorem ti_43 : Try.prog.info? 43 = some Try.t43 := by kernel_rfl
theorem tz_43 : Try.t43.zero = some (.slice none 0 0) := by kernel_rfl
theorem ag_44 : tyAgg Try.prog 44 = some none := by kernel_rfl
theorem ts_44 : tySize Try.prog 44 = some 1 := by kernel_rfl
theorem zc_44 : zeroOf Try.prog 44 = some (.nilFunc) := by kernel_rfl
theorem ti_44 : Try.prog.info? 44 = some Try.t44 := by kernel_rfl
theorem tz_44 : Try.t44.zero = some (.nilFunc) := by kernel_rfl
theorem ag_45 : tyAgg Try.prog 45 = some (some 2) := by kernel_rfl
theorem ts_45 : tySize Try.prog 45 = some 2 := by kernel_rfl
theorem ar_45 : arSize Try.prog 45 = some (2, 1) := by kernel_rfl
theorem zc_45 : zeroOf Try.prog 45 = some (.agg #[.string ByteArray.empty, .string ByteArray.empty]) := by kernel_rfl
theorem ti_45 : Try.prog.info? 45 = some Try.t45 := by kernel_rfl
theorem tz_45 : Try.t45.zero = some (.agg #[.string ByteArray.empty, .string ByteArray.empty]) := by kernel_rfl
theorem ag_46 : tyAgg Try.prog 46 = some (some 2) := by kernel_rfl
theorem ts_46 : tySize Try.prog 46 = some 2 := by kernel_rfl
theorem fo_46_0 : fldOff Try.prog 46 0 = some 0 := by kernel_rfl
theorem fo_46_1 : fldOff Try.prog 46 1 = some 1 := by kernel_rfl
theorem zc_46 : zeroOf Try.prog 46 = some (.agg #[.int .i64 0, .int .i64 0]) := by kernel_rfl
theorem ti_46 : Try.prog.info? 46 = some Try.t46 := by kernel_rfl
theorem tz_46 : Try.t46.zero = some (.agg #[.int .i64 0, .int .i64 0]) := by kernel_rfl
theorem bu_46 : BuTy Try.prog 46 [(0, 1), (1, 1)] [.int .i64 0, .int .i64 0] := ⟨_, _, Try.underlying46, zc_46, rfl, by kernel_rfl⟩
theorem ag_47 : tyAgg Try.prog 47 = some none := by kernel_rfl
theorem ts_47 : tySize Try.prog 47 = some 1 := by kernel_rfl
theorem zc_47 : zeroOf Try.prog 47 = some (.nilFunc) := by kernel_rfl
theorem ti_47 : Try.prog.info? 47 = some Try.t47 := by kernel_rfl
theorem tz_47 : Try.t47.zero = some (.nilFunc) := by kernel_rfl
theorem ag_48 : tyAgg Try.prog 48 = some none := by kernel_rfl
theorem ts_48 : tySize Try.prog 48 = some 1 := by kernel_rfl
theorem sz_48 : slSize Try.prog 48 = some 2 := by kernel_rfl
theorem st_48 : SlTy Try.prog 48 51 2 16 := ⟨Try.underlying48, ⟨_, _, (by kernel_rfl : Try.prog.info? 51 = some Try.t51), (by kernel_rfl : Try.t51.zero = some (.agg #[.int .i64 0, .int .i64 0])), by kernel_rfl, by kernel_rfl, by kernel_rfl⟩, by decide⟩
theorem zc_48 : zeroOf Try.prog 48 = some (.slice none 0 0) := by kernel_rfl
theorem ti_48 : Try.prog.info? 48 = some Try.t48 := by kernel_rfl
theorem tz_48 : Try.t48.zero = some (.slice none 0 0) := by kernel_rfl
theorem ag_49 : tyAgg Try.prog 49 = some none := by kernel_rfl
theorem ts_49 : tySize Try.prog 49 = some 1 := by kernel_rfl
theorem zc_49 : zeroOf Try.prog 49 = some (.nilFunc) := by kernel_rfl
theorem ti_49 : Try.prog.info? 49 = some Try.t49 := by kernel_rfl
theorem tz_49 : Try.t49.zero = some (.nilFunc) := by kernel_rfl
theorem ag_50 : tyAgg Try.prog 50 = some none := by kernel_rfl
theorem ts_50 : tySize Try.prog 50 = some 1 := by kernel_rfl
theorem zc_50 : zeroOf Try.prog 50 = some (.nilFunc) := by kernel_rfl
theorem ti_50 : Try.prog.info? 50 = some Try.t50 := by kernel_rfl
theorem tz_50 : Try.t50.zero = some (.nilFunc) := by kernel_rfl
theorem ag_51 : tyAgg Try.prog 51 = some (some 2) := by kernel_rfl
theorem ts_51 : tySize Try.prog 51 = some 2 := by kernel_rfl
theorem ar_51 : arSize Try.prog 51 = some (2, 1) := by kernel_rfl
theorem zc_51 : zeroOf Try.prog 51 = some (.agg #[.int .i64 0, .int .i64 0]) := by kernel_rfl
theorem ti_51 : Try.prog.info? 51 = some Try.t51 := by kernel_rfl
theorem tz_51 : Try.t51.zero = some (.agg #[.int .i64 0, .int .i64 0]) := by kernel_rfl
theorem ag_52 : tyAgg Try.prog 52 = some none := by kernel_rfl
theorem ts_52 : tySize Try.prog 52 = some 1 := by kernel_rfl
theorem zc_52 : zeroOf Try.prog 52 = some (.nilFunc) := by kernel_rfl
theorem ti_52 : Try.prog.info? 52 = some Try.t52 := by kernel_rfl
theorem tz_52 : Try.t52.zero = some (.nilFunc) := by kernel_rfl
theorem ag_53 : tyAgg Try.prog 53 = some none := by kernel_rfl
theorem ts_53 : tySize Try.prog 53 = some 1 := by kernel_rfl
theorem zc_53 : zeroOf Try.prog 53 = some (.nilFunc) := by kernel_rfl
theorem ti_53 : Try.prog.info? 53 = some Try.t53 := by kernel_rfl
theorem tz_53 : Try.t53.zero = some (.nilFunc) := by kernel_rfl
theorem ag_54 : tyAgg Try.prog 54 = some none := by kernel_rfl
theorem ts_54 : tySize Try.prog 54 = some 1 := by kernel_rfl
theorem zc_54 : zeroOf Try.prog 54 = some (.nilFunc) := by kernel_rfl
theorem ti_54 : Try.prog.info? 54 = some Try.t54 := by kernel_rfl
theorem tz_54 : Try.t54.zero = some (.nilFunc) := by kernel_rfl
theorem ag_55 : tyAgg Try.prog 55 = some none := by kernel_rfl
theorem ts_55 : tySize Try.prog 55 = some 1 := by kernel_rfl
theorem zc_55 : zeroOf Try.prog 55 = some (.nilFunc) := by kernel_rfl
theorem ti_55 : Try.prog.info? 55 = some Try.t55 := by kernel_rfl
theorem tz_55 : Try.t55.zero = some (.nilFunc) := by kernel_rfl
theorem ag_56 : tyAgg Try.prog 56 = some none := by kernel_rfl
theorem ts_56 : tySize Try.prog 56 = some 1 := by kernel_rfl
theorem zc_56 : zeroOf Try.prog 56 = some (.nilFunc) := by kernel_rfl
theorem ti_56 : Try.prog.info? 56 = some Try.t56 := by kernel_rfl
theorem tz_56 : Try.t56.zero = some (.nilFunc) := by kernel_rfl
theorem ag_57 : tyAgg Try.prog 57 = some none := by kernel_rfl
theorem ts_57 : tySize Try.prog 57 = some 1 := by kernel_rfl
theorem zc_57 : zeroOf Try.prog 57 = some (.nilFunc) := by kernel_rfl
theorem ti_57 : Try.prog.info? 57 = some Try.t57 := by kernel_rfl
theorem tz_57 : Try.t57.zero = some (.nilFunc) := by kernel_rfl
theorem ag_58 : tyAgg Try.prog 58 = some none := by kernel_rfl
theorem ts_58 : tySize Try.prog 58 = some 1 := by kernel_rfl
theorem zc_58 : zeroOf Try.prog 58 = some (.nilFunc) := by kernel_rfl
theorem ti_58 : Try.prog.info? 58 = some Try.t58 := by kernel_rfl
theorem tz_58 : Try.t58.zero = some (.nilFunc) := by kernel_rfl
theorem ag_59 : tyAgg Try.prog 59 = some none := by kernel_rfl
theorem ts_59 : tySize Try.prog 59 = some 1 := by kernel_rfl
theorem sz_59 : slSize Try.prog 59 = some 3 := by kernel_rfl
theorem st_59 : SlTy Try.prog 59 75 3 24 := ⟨Try.underlying59, ⟨_, _, (by kernel_rfl : Try.prog.info? 75 = some Try.t75), (by kernel_rfl : Try.t75.zero = some (.agg #[.int .i64 0, .int .i64 0, .int .i64 0])), by kernel_rfl, by kernel_rfl, by kernel_rfl⟩, by decide⟩
theorem zc_59 : zeroOf Try.prog 59 = some (.slice none 0 0) := by kernel_rfl
theorem ti_59 : Try.prog.info? 59 = some Try.t59 := by kernel_rfl
theorem tz_59 : Try.t59.zero = some (.slice none 0 0) := by kernel_rfl
theorem ag_60 : tyAgg Try.prog 60 = some none := by kernel_rfl
theorem ts_60 : tySize Try.prog 60 = some 1 := by kernel_rfl
theorem zc_60 : zeroOf Try.prog 60 = some (.pointer none) := by kernel_rfl
theorem ti_60 : Try.prog.info? 60 = some Try.t60 := by kernel_rfl
theorem tz_60 : Try.t60.zero = some (.pointer none) := by kernel_rfl
theorem ag_61 : tyAgg Try.prog 61 = some none := by kernel_rfl
theorem ts_61 : tySize Try.prog 61 = some 1 := by kernel_rfl
theorem sz_61 : slSize Try.prog 61 = some 3 := by kernel_rfl
theorem st_61 : SlTy Try.prog 61 87 3 24 := ⟨Try.underlying61, ⟨_, _, (by kernel_rfl : Try.prog.info? 87 = some Try.t87), (by kernel_rfl : Try.t87.zero = some (.agg #[.int .i64 0, .int .i64 0, .int .i64 0])), by kernel_rfl, by kernel_rfl, by kernel_rfl⟩, by decide⟩
theorem zc_61 : zeroOf Try.prog 61 = some (.slice none 0 0) := by kernel_rfl
theorem ti_61 : Try.prog.info? 61 = some Try.t61 := by kernel_rfl
theorem tz_61 : Try.t61.zero = some (.slice none 0 0) := by kernel_rfl
theorem ag_62 : tyAgg Try.prog 62 = some (some 2) := by kernel_rfl
theorem ts_62 : tySize Try.prog 62 = some 2 := by kernel_rfl
theorem fo_62_0 : fldOff Try.prog 62 0 = some 0 := by kernel_rfl
theorem fo_62_1 : fldOff Try.prog 62 1 = some 1 := by kernel_rfl
theorem zc_62 : zeroOf Try.prog 62 = some (.agg #[.slice none 0 0, .slice none 0 0]) := by kernel_rfl
theorem ti_62 : Try.prog.info? 62 = some Try.t62 := by kernel_rfl
theorem tz_62 : Try.t62.zero = some (.agg #[.slice none 0 0, .slice none 0 0]) := by kernel_rfl
theorem bu_62 : BuTy Try.prog 62 [(0, 1), (1, 1)] [.slice none 0 0, .slice none 0 0] := ⟨_, _, Try.underlying62, zc_62, rfl, by kernel_rfl⟩
theorem ag_63 : tyAgg Try.prog 63 = some (some 2) := by kernel_rfl
theorem ts_63 : tySize Try.prog 63 = some 2 := by kernel_rfl
theorem fo_63_0 : fldOff Try.prog 63 0 = some 0 := by kernel_rfl
theorem fo_63_1 : fldOff Try.prog 63 1 = some 1 := by kernel_rfl
theorem zc_63 : zeroOf Try.prog 63 = some (.agg #[.slice none 0 0, .slice none 0 0]) := by kernel_rfl
theorem ti_63 : Try.prog.info? 63 = some Try.t63 := by kernel_rfl
theorem tz_63 : Try.t63.zero = some (.agg #[.slice none 0 0, .slice none 0 0]) := by kernel_rfl
theorem bu_63 : BuTy Try.prog 63 [(0, 1), (1, 1)] [.slice none 0 0, .slice none 0 0] := ⟨_, _, Try.underlying63, zc_63, rfl, by kernel_rfl⟩
theorem ts_64 : tySize Try.prog 64 = some 1 := by kernel_rfl
theorem zc_64 : zeroOf Try.prog 64 = some (.tuple #[.pointer none, .agg #[.slice none 0 0, .slice none 0 0]]) := by kernel_rfl
theorem ti_64 : Try.prog.info? 64 = some Try.t64 := by kernel_rfl
theorem tz_64 : Try.t64.zero = some (.tuple #[.pointer none, .agg #[.slice none 0 0, .slice none 0 0]]) := by kernel_rfl
theorem ag_65 : tyAgg Try.prog 65 = some none := by kernel_rfl
theorem ts_65 : tySize Try.prog 65 = some 1 := by kernel_rfl
theorem zc_65 : zeroOf Try.prog 65 = some (.nilFunc) := by kernel_rfl
theorem ti_65 : Try.prog.info? 65 = some Try.t65 := by kernel_rfl
theorem tz_65 : Try.t65.zero = some (.nilFunc) := by kernel_rfl
theorem ts_66 : tySize Try.prog 66 = some 1 := by kernel_rfl
theorem zc_66 : zeroOf Try.prog 66 = some (.tuple #[.slice none 0 0, .bool false]) := by kernel_rfl
theorem ti_66 : Try.prog.info? 66 = some Try.t66 := by kernel_rfl
theorem tz_66 : Try.t66.zero = some (.tuple #[.slice none 0 0, .bool false]) := by kernel_rfl
theorem ag_67 : tyAgg Try.prog 67 = some none := by kernel_rfl
theorem ts_67 : tySize Try.prog 67 = some 1 := by kernel_rfl
theorem zc_67 : zeroOf Try.prog 67 = some (.nilFunc) := by kernel_rfl
theorem ti_67 : Try.prog.info? 67 = some Try.t67 := by kernel_rfl
theorem tz_67 : Try.t67.zero = some (.nilFunc) := by kernel_rfl
theorem ag_68 : tyAgg Try.prog 68 = some none := by kernel_rfl
theorem ts_68 : tySize Try.prog 68 = some 1 := by kernel_rfl
theorem zc_68 : zeroOf Try.prog 68 = some (.nilFunc) := by kernel_rfl
theorem ti_68 : Try.prog.info? 68 = some Try.t68 := by kernel_rfl
theorem tz_68 : Try.t68.zero = some (.nilFunc) := by kernel_rfl
theorem ag_69 : tyAgg Try.prog 69 = some none := by kernel_rfl
theorem ts_69 : tySize Try.prog 69 = some 1 := by kernel_rfl
theorem sz_69 : slSize Try.prog 69 = some 1 := by kernel_rfl
theorem st_69 : SlTy Try.prog 69 23 1 24 := ⟨Try.underlying69, ⟨_, _, (by kernel_rfl : Try.prog.info? 23 = some Try.t23), (by kernel_rfl : Try.t23.zero = some (.slice none 0 0)), by kernel_rfl, by kernel_rfl, by kernel_rfl⟩, by decide⟩
theorem zc_69 : zeroOf Try.prog 69 = some (.slice none 0 0) := by kernel_rfl
theorem ti_69 : Try.prog.info? 69 = some Try.t69 := by kernel_rfl
theorem tz_69 : Try.t69.zero = some (.slice none 0 0) := by kernel_rfl
theorem ag_70 : tyAgg Try.prog 70 = some none := by kernel_rfl
theorem ts_70 : tySize Try.prog 70 = some 1 := by kernel_rfl
theorem zc_70 : zeroOf Try.prog 70 = some (.nilFunc) := by kernel_rfl
theorem ti_70 : Try.prog.info? 70 = some Try.t70 := by kernel_rfl
theorem tz_70 : Try.t70.zero = some (.nilFunc) := by kernel_rfl
theorem ag_71 : tyAgg Try.prog 71 = some none := by kernel_rfl
theorem ts_71 : tySize Try.prog 71 = some 1 := by kernel_rfl
theorem zc_71 : zeroOf Try.prog 71 = some (.nilFunc) := by kernel_rfl
theorem ti_71 : Try.prog.info? 71 = some Try.t71 := by kernel_rfl
theorem tz_71 : Try.t71.zero = some (.nilFunc) := by kernel_rfl
theorem ag_72 : tyAgg Try.prog 72 = some none := by kernel_rfl
theorem ts_72 : tySize Try.prog 72 = some 1 := by kernel_rfl
theorem zc_72 : zeroOf Try.prog 72 = some (.nilFunc) := by kernel_rfl
theorem ti_72 : Try.prog.info? 72 = some Try.t72 := by kernel_rfl
theorem tz_72 : Try.t72.zero = some (.nilFunc) := by kernel_rfl
theorem ag_73 : tyAgg Try.prog 73 = some none := by kernel_rfl
theorem ts_73 : tySize Try.prog 73 = some 1 := by kernel_rfl
theorem zc_73 : zeroOf Try.prog 73 = some (.nilFunc) := by kernel_rfl
theorem ti_73 : Try.prog.info? 73 = some Try.t73 := by kernel_rfl
theorem tz_73 : Try.t73.zero = some (.nilFunc) := by kernel_rfl
theorem ag_74 : tyAgg Try.prog 74 = some (some 3) := by kernel_rfl
theorem ts_74 : tySize Try.prog 74 = some 3 := by kernel_rfl
theorem fo_74_0 : fldOff Try.prog 74 0 = some 0 := by kernel_rfl
theorem fo_74_1 : fldOff Try.prog 74 1 = some 1 := by kernel_rfl
theorem fo_74_2 : fldOff Try.prog 74 2 = some 2 := by kernel_rfl
theorem zc_74 : zeroOf Try.prog 74 = some (.agg #[.int .i64 0, .int .i64 0, .int .i64 0]) := by kernel_rfl
theorem ti_74 : Try.prog.info? 74 = some Try.t74 := by kernel_rfl
theorem tz_74 : Try.t74.zero = some (.agg #[.int .i64 0, .int .i64 0, .int .i64 0]) := by kernel_rfl
theorem bu_74 : BuTy Try.prog 74 [(0, 1), (1, 1), (2, 1)] [.int .i64 0, .int .i64 0, .int .i64 0] := ⟨_, _, Try.underlying74, zc_74, rfl, by kernel_rfl⟩
theorem ag_75 : tyAgg Try.prog 75 = some (some 3) := by kernel_rfl
theorem ts_75 : tySize Try.prog 75 = some 3 := by kernel_rfl
theorem fo_75_0 : fldOff Try.prog 75 0 = some 0 := by kernel_rfl
theorem fo_75_1 : fldOff Try.prog 75 1 = some 1 := by kernel_rfl
theorem fo_75_2 : fldOff Try.prog 75 2 = some 2 := by kernel_rfl
theorem zc_75 : zeroOf Try.prog 75 = some (.agg #[.int .i64 0, .int .i64 0, .int .i64 0]) := by kernel_rfl
theorem ti_75 : Try.prog.info? 75 = some Try.t75 := by kernel_rfl
theorem tz_75 : Try.t75.zero = some (.agg #[.int .i64 0, .int .i64 0, .int .i64 0]) := by kernel_rfl
theorem bu_75 : BuTy Try.prog 75 [(0, 1), (1, 1), (2, 1)] [.int .i64 0, .int .i64 0, .int .i64 0] := ⟨_, _, Try.underlying75, zc_75, rfl, by kernel_rfl⟩
theorem ag_76 : tyAgg Try.prog 76 = some none := by kernel_rfl
theorem ts_76 : tySize Try.prog 76 = some 1 := by kernel_rfl
theorem zc_76 : zeroOf Try.prog 76 = some (.nilFunc) := by kernel_rfl
theorem ti_76 : Try.prog.info? 76 = some Try.t76 := by kernel_rfl
theorem tz_76 : Try.t76.zero = some (.nilFunc) := by kernel_rfl
theorem ag_77 : tyAgg Try.prog 77 = some none := by kernel_rfl
theorem ts_77 : tySize Try.prog 77 = some 1 := by kernel_rfl
theorem zc_77 : zeroOf Try.prog 77 = some (.nilFunc) := by kernel_rfl
theorem ti_77 : Try.prog.info? 77 = some Try.t77 := by kernel_rfl
theorem tz_77 : Try.t77.zero = some (.nilFunc) := by kernel_rfl
theorem ag_78 : tyAgg Try.prog 78 = some none := by kernel_rfl
theorem ts_78 : tySize Try.prog 78 = some 1 := by kernel_rfl
theorem zc_78 : zeroOf Try.prog 78 = some (.nilFunc) := by kernel_rfl
theorem ti_78 : Try.prog.info? 78 = some Try.t78 := by kernel_rfl
theorem tz_78 : Try.t78.zero = some (.nilFunc) := by kernel_rfl
theorem ag_79 : tyAgg Try.prog 79 = some none := by kernel_rfl
theorem ts_79 : tySize Try.prog 79 = some 1 := by kernel_rfl
theorem zc_79 : zeroOf Try.prog 79 = some (.nilFunc) := by kernel_rfl
theorem ti_79 : Try.prog.info? 79 = some Try.t79 := by kernel_rfl
theorem tz_79 : Try.t79.zero = some (.nilFunc) := by kernel_rfl
theorem ag_80 : tyAgg Try.prog 80 = some none := by kernel_rfl
theorem ts_80 : tySize Try.prog 80 = some 1 := by kernel_rfl
theorem zc_80 : zeroOf Try.prog 80 = some (.nilFunc) := by kernel_rfl
theorem ti_80 : Try.prog.info? 80 = some Try.t80 := by kernel_rfl
theorem tz_80 : Try.t80.zero = some (.nilFunc) := by kernel_rfl
theorem ag_81 : tyAgg Try.prog 81 = some none := by kernel_rfl
theorem ts_81 : tySize Try.prog 81 = some 1 := by kernel_rfl
theorem zc_81 : zeroOf Try.prog 81 = some (.nilFunc) := by kernel_rfl
theorem ti_81 : Try.prog.info? 81 = some Try.t81 := by kernel_rfl
theorem tz_81 : Try.t81.zero = some (.nilFunc) := by kernel_rfl
theorem ag_82 : tyAgg Try.prog 82 = some none := by kernel_rfl
theorem ts_82 : tySize Try.prog 82 = some 1 := by kernel_rfl
theorem zc_82 : zeroOf Try.prog 82 = some (.nilFunc) := by kernel_rfl
theorem ti_82 : Try.prog.info? 82 = some Try.t82 := by kernel_rfl
theorem tz_82 : Try.t82.zero = some (.nilFunc) := by kernel_rfl
theorem ag_83 : tyAgg Try.prog 83 = some none := by kernel_rfl
theorem ts_83 : tySize Try.prog 83 = some 1 := by kernel_rfl
theorem zc_83 : zeroOf Try.prog 83 = some (.nilFunc) := by kernel_rfl
theorem ti_83 : Try.prog.info? 83 = some Try.t83 := by kernel_rfl
theorem tz_83 : Try.t83.zero = some (.nilFunc) := by kernel_rfl
theorem ag_84 : tyAgg Try.prog 84 = some none := by kernel_rfl
theorem ts_84 : tySize Try.prog 84 = some 1 := by kernel_rfl
theorem zc_84 : zeroOf Try.prog 84 = some (.nilFunc) := by kernel_rfl
theorem ti_84 : Try.prog.info? 84 = some Try.t84 := by kernel_rfl
theorem tz_84 : Try.t84.zero = some (.nilFunc) := by kernel_rfl
theorem ag_85 : tyAgg Try.prog 85 = some none := by kernel_rfl
theorem ts_85 : tySize Try.prog 85 = some 1 := by kernel_rfl
theorem zc_85 : zeroOf Try.prog 85 = some (.nilFunc) := by kernel_rfl
theorem ti_85 : Try.prog.info? 85 = some Try.t85 := by kernel_rfl
theorem tz_85 : Try.t85.zero = some (.nilFunc) := by kernel_rfl
theorem ag_86 : tyAgg Try.prog 86 = some none := by kernel_rfl
theorem ts_86 : tySize Try.prog 86 = some 1 := by kernel_rfl
theorem zc_86 : zeroOf Try.prog 86 = some (.nilFunc) := by kernel_rfl
theorem ti_86 : Try.prog.info? 86 = some Try.t86 := by kernel_rfl
theorem tz_86 : Try.t86.zero = some (.nilFunc) := by kernel_rfl
theorem ag_87 : tyAgg Try.prog 87 = some (some 3) := by kernel_rfl
theorem ts_87 : tySize Try.prog 87 = some 3 := by kernel_rfl
theorem fo_87_0 : fldOff Try.prog 87 0 = some 0 := by kernel_rfl
theorem fo_87_1 : fldOff Try.prog 87 1 = some 1 := by kernel_rfl
theorem fo_87_2 : fldOff Try.prog 87 2 = some 2 := by kernel_rfl
theorem zc_87 : zeroOf Try.prog 87 = some (.agg #[.int .i64 0, .int .i64 0, .int .i64 0]) := by kernel_rfl
theorem ti_87 : Try.prog.info? 87 = some Try.t87 := by kernel_rfl
theorem tz_87 : Try.t87.zero = some (.agg #[.int .i64 0, .int .i64 0, .int .i64 0]) := by kernel_rfl
theorem bu_87 : BuTy Try.prog 87 [(0, 1), (1, 1), (2, 1)] [.int .i64 0, .int .i64 0, .int .i64 0] := ⟨_, _, Try.underlying87, zc_87, rfl, by kernel_rfl⟩
theorem ag_88 : tyAgg Try.prog 88 = some none := by kernel_rfl
theorem ts_88 : tySize Try.prog 88 = some 1 := by kernel_rfl
theorem zc_88 : zeroOf Try.prog 88 = some (.pointer none) := by kernel_rfl
theorem ti_88 : Try.prog.info? 88 = some Try.t88 := by kernel_rfl
theorem tz_88 : Try.t88.zero = some (.pointer none) := by kernel_rfl
theorem ag_89 : tyAgg Try.prog 89 = some none := by kernel_rfl
theorem ts_89 : tySize Try.prog 89 = some 1 := by kernel_rfl
theorem zc_89 : zeroOf Try.prog 89 = some (.nilFunc) := by kernel_rfl
theorem ti_89 : Try.prog.info? 89 = some Try.t89 := by kernel_rfl
theorem tz_89 : Try.t89.zero = some (.nilFunc) := by kernel_rfl
theorem ag_90 : tyAgg Try.prog 90 = some none := by kernel_rfl
theorem ts_90 : tySize Try.prog 90 = some 1 := by kernel_rfl
theorem zc_90 : zeroOf Try.prog 90 = some (.nilFunc) := by kernel_rfl
theorem ti_90 : Try.prog.info? 90 = some Try.t90 := by kernel_rfl
theorem tz_90 : Try.t90.zero = some (.nilFunc) := by kernel_rfl
theorem ag_91 : tyAgg Try.prog 91 = some none := by kernel_rfl
theorem ts_91 : tySize Try.prog 91 = some 1 := by kernel_rfl
theorem sz_91 : slSize Try.prog 91 = some 1 := by kernel_rfl
theorem st_91 : SlTy Try.prog 91 9 1 16 := ⟨Try.underlying91, ⟨_, _, (by kernel_rfl : Try.prog.info? 9 = some Try.t9), (by kernel_rfl : Try.t9.zero = some (.string ByteArray.empty)), by kernel_rfl, by kernel_rfl, by kernel_rfl⟩, by decide⟩
theorem zc_91 : zeroOf Try.prog 91 = some (.slice none 0 0) := by kernel_rfl
theorem ti_91 : Try.prog.info? 91 = some Try.t91 := by kernel_rfl
theorem tz_91 : Try.t91.zero = some (.slice none 0 0) := by kernel_rfl
theorem ag_92 : tyAgg Try.prog 92 = some none := by kernel_rfl
theorem ts_92 : tySize Try.prog 92 = some 1 := by kernel_rfl
theorem zc_92 : zeroOf Try.prog 92 = some (.nilFunc) := by kernel_rfl
theorem ti_92 : Try.prog.info? 92 = some Try.t92 := by kernel_rfl
theorem tz_92 : Try.t92.zero = some (.nilFunc) := by kernel_rfl
theorem ag_93 : tyAgg Try.prog 93 = some none := by kernel_rfl
theorem ts_93 : tySize Try.prog 93 = some 1 := by kernel_rfl
theorem sz_93 : slSize Try.prog 93 = some 3 := by kernel_rfl
theorem st_93 : SlTy Try.prog 93 96 3 24 := ⟨Try.underlying93, ⟨_, _, (by kernel_rfl : Try.prog.info? 96 = some Try.t96), (by kernel_rfl : Try.t96.zero = some (.agg #[.int .i64 0, .int .i64 0, .int .i64 0])), by kernel_rfl, by kernel_rfl, by kernel_rfl⟩, by decide⟩
theorem zc_93 : zeroOf Try.prog 93 = some (.slice none 0 0) := by kernel_rfl
theorem ti_93 : Try.prog.info? 93 = some Try.t93 := by kernel_rfl
theorem tz_93 : Try.t93.zero = some (.slice none 0 0) := by kernel_rfl
theorem ag_94 : tyAgg Try.prog 94 = some none := by kernel_rfl
theorem ts_94 : tySize Try.prog 94 = some 1 := by kernel_rfl
theorem zc_94 : zeroOf Try.prog 94 = some (.nilFunc) := by kernel_rfl
theorem ti_94 : Try.prog.info? 94 = some Try.t94 := by kernel_rfl
theorem tz_94 : Try.t94.zero = some (.nilFunc) := by kernel_rfl
theorem ag_95 : tyAgg Try.prog 95 = some none := by kernel_rfl
theorem ts_95 : tySize Try.prog 95 = some 1 := by kernel_rfl
theorem zc_95 : zeroOf Try.prog 95 = some (.nilFunc) := by kernel_rfl
theorem ti_95 : Try.prog.info? 95 = some Try.t95 := by kernel_rfl
theorem tz_95 : Try.t95.zero = some (.nilFunc) := by kernel_rfl
theorem ag_96 : tyAgg Try.prog 96 = some (some 3) := by kernel_rfl
theorem ts_96 : tySize Try.prog 96 = some 3 := by kernel_rfl
theorem fo_96_0 : fldOff Try.prog 96 0 = some 0 := by kernel_rfl
theorem fo_96_1 : fldOff Try.prog 96 1 = some 1 := by kernel_rfl
theorem fo_96_2 : fldOff Try.prog 96 2 = some 2 := by kernel_rfl
theorem zc_96 : zeroOf Try.prog 96 = some (.agg #[.int .i64 0, .int .i64 0, .int .i64 0]) := by kernel_rfl
theorem ti_96 : Try.prog.info? 96 = some Try.t96 := by kernel_rfl
theorem tz_96 : Try.t96.zero = some (.agg #[.int .i64 0, .int .i64 0, .int .i64 0]) := by kernel_rfl
theorem bu_96 : BuTy Try.prog 96 [(0, 1), (1, 1), (2, 1)] [.int .i64 0, .int .i64 0, .int .i64 0] := ⟨_, _, Try.underlying96, zc_96, rfl, by kernel_rfl⟩
theorem ag_97 : tyAgg Try.prog 97 = some none := by kernel_rfl
theorem ts_97 : tySize Try.prog 97 = some 1 := by kernel_rfl
theorem zc_97 : zeroOf Try.prog 97 = some (.nilFunc) := by kernel_rfl
theorem ti_97 : Try.prog.info? 97 = some Try.t97 := by kernel_rfl
theorem tz_97 : Try.t97.zero = some (.nilFunc) := by kernel_rfl
theorem ag_98 : tyAgg Try.prog 98 = some none := by kernel_rfl
theorem ts_98 : tySize Try.prog 98 = some 1 := by kernel_rfl
theorem zc_98 : zeroOf Try.prog 98 = some (.map none) := by kernel_rfl
theorem ti_98 : Try.prog.info? 98 = some Try.t98 := by kernel_rfl
theorem tz_98 : Try.t98.zero = some (.map none) := by kernel_rfl
theorem ag_99 : tyAgg Try.prog 99 = some (some 1) := by kernel_rfl
theorem ts_99 : tySize Try.prog 99 = some 1 := by kernel_rfl
theorem fo_99_0 : fldOff Try.prog 99 0 = some 0 := by kernel_rfl
theorem zc_99 : zeroOf Try.prog 99 = some (.agg #[.map none]) := by kernel_rfl
theorem ti_99 : Try.prog.info? 99 = some Try.t99 := by kernel_rfl
theorem tz_99 : Try.t99.zero = some (.agg #[.map none]) := by kernel_rfl
theorem bu_99 : BuTy Try.prog 99 [(0, 1)] [.map none] := ⟨_, _, Try.underlying99, zc_99, rfl, by kernel_rfl⟩
theorem ag_100 : tyAgg Try.prog 100 = some (some 1) := by kernel_rfl
theorem ts_100 : tySize Try.prog 100 = some 1 := by kernel_rfl
theorem fo_100_0 : fldOff Try.prog 100 0 = some 0 := by kernel_rfl
theorem zc_100 : zeroOf Try.prog 100 = some (.agg #[.map none]) := by kernel_rfl
theorem ti_100 : Try.prog.info? 100 = some Try.t100 := by kernel_rfl
theorem tz_100 : Try.t100.zero = some (.agg #[.map none]) := by kernel_rfl
theorem bu_100 : BuTy Try.prog 100 [(0, 1)] [.map none] := ⟨_, _, Try.underlying100, zc_100, rfl, by kernel_rfl⟩
theorem ag_101 : tyAgg Try.prog 101 = some none := by kernel_rfl
theorem ts_101 : tySize Try.prog 101 = some 1 := by kernel_rfl
theorem zc_101 : zeroOf Try.prog 101 = some (.map none) := by kernel_rfl
theorem ti_101 : Try.prog.info? 101 = some Try.t101 := by kernel_rfl
theorem tz_101 : Try.t101.zero = some (.map none) := by kernel_rfl
theorem ag_102 : tyAgg Try.prog 102 = some (some 1) := by kernel_rfl
theorem ts_102 : tySize Try.prog 102 = some 1 := by kernel_rfl
theorem fo_102_0 : fldOff Try.prog 102 0 = some 0 := by kernel_rfl
theorem zc_102 : zeroOf Try.prog 102 = some (.agg #[.map none]) := by kernel_rfl
theorem ti_102 : Try.prog.info? 102 = some Try.t102 := by kernel_rfl
theorem tz_102 : Try.t102.zero = some (.agg #[.map none]) := by kernel_rfl
theorem bu_102 : BuTy Try.prog 102 [(0, 1)] [.map none] := ⟨_, _, Try.underlying102, zc_102, rfl, by kernel_rfl⟩
theorem ag_103 : tyAgg Try.prog 103 = some (some 1) := by kernel_rfl
theorem ts_103 : tySize Try.prog 103 = some 1 := by kernel_rfl
theorem fo_103_0 : fldOff Try.prog 103 0 = some 0 := by kernel_rfl
theorem zc_103 : zeroOf Try.prog 103 = some (.agg #[.map none]) := by kernel_rfl
theorem ti_103 : Try.prog.info? 103 = some Try.t103 := by kernel_rfl
theorem tz_103 : Try.t103.zero = some (.agg #[.map none]) := by kernel_rfl
theorem bu_103 : BuTy Try.prog 103 [(0, 1)] [.map none] := ⟨_, _, Try.underlying103, zc_103, rfl, by kernel_rfl⟩
theorem ag_104 : tyAgg Try.prog 104 = some none := by kernel_rfl
theorem ts_104 : tySize Try.prog 104 = some 1 := by kernel_rfl
theorem zc_104 : zeroOf Try.prog 104 = some (.map none) := by kernel_rfl
theorem ti_104 : Try.prog.info? 104 = some Try.t104 := by kernel_rfl
theorem tz_104 : Try.t104.zero = some (.map none) := by kernel_rfl
theorem ag_105 : tyAgg Try.prog 105 = some none := by kernel_rfl
theorem ts_105 : tySize Try.prog 105 = some 1 := by kernel_rfl
theorem zc_105 : zeroOf Try.prog 105 = some (.nilFunc) := by kernel_rfl
theorem ti_105 : Try.prog.info? 105 = some Try.t105 := by kernel_rfl
theorem tz_105 : Try.t105.zero = some (.nilFunc) := by kernel_rfl
theorem ag_106 : tyAgg Try.prog 106 = some none := by kernel_rfl
theorem ts_106 : tySize Try.prog 106 = some 1 := by kernel_rfl
theorem zc_106 : zeroOf Try.prog 106 = some (.nilFunc) := by kernel_rfl
theorem ti_106 : Try.prog.info? 106 = some Try.t106 := by kernel_rfl
theorem tz_106 : Try.t106.zero = some (.nilFunc) := by kernel_rfl
theorem ag_107 : tyAgg Try.prog 107 = some none := by kernel_rfl
theorem ts_107 : tySize Try.prog 107 = some 1 := by kernel_rfl
theorem zc_107 : zeroOf Try.prog 107 = some (.nilFunc) := by kernel_rfl
theorem ti_107 : Try.prog.info? 107 = some Try.t107 := by kernel_rfl
theorem tz_107 : Try.t107.zero = some (.nilFunc) := by kernel_rfl
theorem ag_108 : tyAgg Try.prog 108 = some none := by kernel_rfl
theorem ts_108 : tySize Try.prog 108 = some 1 := by kernel_rfl
theorem zc_108 : zeroOf Try.prog 108 = some (.nilFunc) := by kernel_rfl
theorem ti_108 : Try.prog.info? 108 = some Try.t108 := by kernel_rfl
theorem tz_108 : Try.t108.zero = some (.nilFunc) := by kernel_rfl
theorem ag_109 : tyAgg Try.prog 109 = some none := by kernel_rfl
theorem ts_109 : tySize Try.prog 109 = some 1 := by kernel_rfl
theorem zc_109 : zeroOf Try.prog 109 = some (.nilFunc) := by kernel_rfl
theorem ti_109 : Try.prog.info? 109 = some Try.t109 := by kernel_rfl
theorem tz_109 : Try.t109.zero = some (.nilFunc) := by kernel_rfl
theorem ag_110 : tyAgg Try.prog 110 = some none := by kernel_rfl
theorem ts_110 : tySize Try.prog 110 = some 1 := by kernel_rfl
theorem zc_110 : zeroOf Try.prog 110 = some (.map none) := by kernel_rfl
theorem ti_110 : Try.prog.info? 110 = some Try.t110 := by kernel_rfl
theorem tz_110 : Try.t110.zero = some (.map none) := by kernel_rfl
theorem ag_111 : tyAgg Try.prog 111 = some none := by kernel_rfl
theorem ts_111 : tySize Try.prog 111 = some 1 := by kernel_rfl
theorem zc_111 : zeroOf Try.prog 111 = some (.nilFunc) := by kernel_rfl
theorem ti_111 : Try.prog.info? 111 = some Try.t111 := by kernel_rfl
theorem tz_111 : Try.t111.zero = some (.nilFunc) := by kernel_rfl
theorem ag_112 : tyAgg Try.prog 112 = some none := by kernel_rfl
theorem ts_112 : tySize Try.prog 112 = some 1 := by kernel_rfl
theorem zc_112 : zeroOf Try.prog 112 = some (.nilFunc) := by kernel_rfl
theorem ti_112 : Try.prog.info? 112 = some Try.t112 := by kernel_rfl
theorem tz_112 : Try.t112.zero = some (.nilFunc) := by kernel_rfl
theorem ag_113 : tyAgg Try.prog 113 = some none := by kernel_rfl
theorem ts_113 : tySize Try.prog 113 = some 1 := by kernel_rfl
theorem zc_113 : zeroOf Try.prog 113 = some (.nilFunc) := by kernel_rfl
theorem ti_113 : Try.prog.info? 113 = some Try.t113 := by kernel_rfl
theorem tz_113 : Try.t113.zero = some (.nilFunc) := by kernel_rfl
theorem ag_114 : tyAgg Try.prog 114 = some none := by kernel_rfl
theorem ts_114 : tySize Try.prog 114 = some 1 := by kernel_rfl
theorem zc_114 : zeroOf Try.prog 114 = some (.nilFunc) := by kernel_rfl
theorem ti_114 : Try.prog.info? 114 = some Try.t114 := by kernel_rfl
theorem tz_114 : Try.t114.zero = some (.nilFunc) := by kernel_rfl
theorem ag_115 : tyAgg Try.prog 115 = some none := by kernel_rfl
theorem ts_115 : tySize Try.prog 115 = some 1 := by kernel_rfl
theorem zc_115 : zeroOf Try.prog 115 = some (.nilFunc) := by kernel_rfl
theorem ti_115 : Try.prog.info? 115 = some Try.t115 := by kernel_rfl
theorem tz_115 : Try.t115.zero = some (.nilFunc) := by kernel_rfl
theorem ag_116 : tyAgg Try.prog 116 = some none := by kernel_rfl
theorem ts_116 : tySize Try.prog 116 = some 1 := by kernel_rfl
theorem zc_116 : zeroOf Try.prog 116 = some (.nilFunc) := by kernel_rfl
theorem ti_116 : Try.prog.info? 116 = some Try.t116 := by kernel_rfl
theorem tz_116 : Try.t116.zero = some (.nilFunc) := by kernel_rfl
theorem ag_117 : tyAgg Try.prog 117 = some none := by kernel_rfl
theorem ts_117 : tySize Try.prog 117 = some 1 := by kernel_rfl
theorem zc_117 : zeroOf Try.prog 117 = some (.map none) := by kernel_rfl
theorem ti_117 : Try.prog.info? 117 = some Try.t117 := by kernel_rfl
theorem tz_117 : Try.t117.zero = some (.map none) := by kernel_rfl
theorem ag_118 : tyAgg Try.prog 118 = some none := by kernel_rfl
theorem ts_118 : tySize Try.prog 118 = some 1 := by kernel_rfl
theorem zc_118 : zeroOf Try.prog 118 = some (.map none) := by kernel_rfl
theorem ti_118 : Try.prog.info? 118 = some Try.t118 := by kernel_rfl
theorem tz_118 : Try.t118.zero = some (.map none) := by kernel_rfl
theorem ag_119 : tyAgg Try.prog 119 = some (some 1) := by kernel_rfl
theorem ts_119 : tySize Try.prog 119 = some 1 := by kernel_rfl
theorem fo_119_0 : fldOff Try.prog 119 0 = some 0 := by kernel_rfl
theorem zc_119 : zeroOf Try.prog 119 = some (.agg #[.map none]) := by kernel_rfl
theorem ti_119 : Try.prog.info? 119 = some Try.t119 := by kernel_rfl
theorem tz_119 : Try.t119.zero = some (.agg #[.map none]) := by kernel_rfl
theorem bu_119 : BuTy Try.prog 119 [(0, 1)] [.map none] := ⟨_, _, Try.underlying119, zc_119, rfl, by kernel_rfl⟩
theorem ag_120 : tyAgg Try.prog 120 = some (some 1) := by kernel_rfl
theorem ts_120 : tySize Try.prog 120 = some 1 := by kernel_rfl
theorem fo_120_0 : fldOff Try.prog 120 0 = some 0 := by kernel_rfl
theorem zc_120 : zeroOf Try.prog 120 = some (.agg #[.map none]) := by kernel_rfl
theorem ti_120 : Try.prog.info? 120 = some Try.t120 := by kernel_rfl
theorem tz_120 : Try.t120.zero = some (.agg #[.map none]) := by kernel_rfl
theorem bu_120 : BuTy Try.prog 120 [(0, 1)] [.map none] := ⟨_, _, Try.underlying120, zc_120, rfl, by kernel_rfl⟩
theorem ag_121 : tyAgg Try.prog 121 = some none := by kernel_rfl
theorem ts_121 : tySize Try.prog 121 = some 1 := by kernel_rfl
theorem zc_121 : zeroOf Try.prog 121 = some (.nilFunc) := by kernel_rfl
theorem ti_121 : Try.prog.info? 121 = some Try.t121 := by kernel_rfl
theorem tz_121 : Try.t121.zero = some (.nilFunc) := by kernel_rfl
theorem ag_122 : tyAgg Try.prog 122 = some none := by kernel_rfl
theorem ts_122 : tySize Try.prog 122 = some 1 := by kernel_rfl
theorem zc_122 : zeroOf Try.prog 122 = some (.nilFunc) := by kernel_rfl
theorem ti_122 : Try.prog.info? 122 = some Try.t122 := by kernel_rfl
theorem tz_122 : Try.t122.zero = some (.nilFunc) := by kernel_rfl
theorem ag_123 : tyAgg Try.prog 123 = some none := by kernel_rfl
theorem ts_123 : tySize Try.prog 123 = some 1 := by kernel_rfl
theorem zc_123 : zeroOf Try.prog 123 = some (.nilFunc) := by kernel_rfl
theorem ti_123 : Try.prog.info? 123 = some Try.t123 := by kernel_rfl
theorem tz_123 : Try.t123.zero = some (.nilFunc) := by kernel_rfl
theorem ts_124 : tySize Try.prog 124 = some 1 := by kernel_rfl
theorem zc_124 : zeroOf Try.prog 124 = some (.tuple #[.int .i64 0, .bool false]) := by kernel_rfl
theorem ti_124 : Try.prog.info? 124 = some Try.t124 := by kernel_rfl
theorem tz_124 : Try.t124.zero = some (.tuple #[.int .i64 0, .bool false]) := by kernel_rfl
theorem ag_125 : tyAgg Try.prog 125 = some none := by kernel_rfl
theorem ts_125 : tySize Try.prog 125 = some 1 := by kernel_rfl
theorem zc_125 : zeroOf Try.prog 125 = some (.nilFunc) := by kernel_rfl
theorem ti_125 : Try.prog.info? 125 = some Try.t125 := by kernel_rfl
theorem tz_125 : Try.t125.zero = some (.nilFunc) := by kernel_rfl
theorem ag_126 : tyAgg Try.prog 126 = some none := by kernel_rfl
theorem ts_126 : tySize Try.prog 126 = some 1 := by kernel_rfl
theorem zc_126 : zeroOf Try.prog 126 = some (.nilFunc) := by kernel_rfl
theorem ti_126 : Try.prog.info? 126 = some Try.t126 := by kernel_rfl
theorem tz_126 : Try.t126.zero = some (.nilFunc) := by kernel_rfl
theorem ag_127 : tyAgg Try.prog 127 = some none := by kernel_rfl
theorem ts_127 : tySize Try.prog 127 = some 1 := by kernel_rfl
theorem zc_127 : zeroOf Try.prog 127 = some (.nilFunc) := by kernel_rfl
theorem ti_127 : Try.prog.info? 127 = some Try.t127 := by kernel_rfl
theorem tz_127 : Try.t127.zero = some (.nilFunc) := by kernel_rfl
theorem ag_128 : tyAgg Try.prog 128 = some none := by kernel_rfl
theorem ts_128 : tySize Try.prog 128 = some 1 := by kernel_rfl
theorem zc_128 : zeroOf Try.prog 128 = some (.nilFunc) := by kernel_rfl
theorem ti_128 : Try.prog.info? 128 = some Try.t128 := by kernel_rfl
theorem tz_128 : Try.t128.zero = some (.nilFunc) := by kernel_rfl
theorem ag_129 : tyAgg Try.prog 129 = some none := by kernel_rfl
theorem ts_129 : tySize Try.prog 129 = some 1 := by kernel_rfl
theorem zc_129 : zeroOf Try.prog 129 = some (.nilFunc) := by kernel_rfl
theorem ti_129 : Try.prog.info? 129 = some Try.t129 := by kernel_rfl
theorem tz_129 : Try.t129.zero = some (.nilFunc) := by kernel_rfl
theorem ag_130 : tyAgg Try.prog 130 = some none := by kernel_rfl
theorem ts_130 : tySize Try.prog 130 = some 1 := by kernel_rfl
theorem zc_130 : zeroOf Try.prog 130 = some (.map none) := by kernel_rfl
theorem ti_130 : Try.prog.info? 130 = some Try.t130 := by kernel_rfl
theorem tz_130 : Try.t130.zero = some (.map none) := by kernel_rfl
theorem ag_131 : tyAgg Try.prog 131 = some none := by kernel_rfl
theorem ts_131 : tySize Try.prog 131 = some 1 := by kernel_rfl
theorem zc_131 : zeroOf Try.prog 131 = some (.nilFunc) := by kernel_rfl
theorem ti_131 : Try.prog.info? 131 = some Try.t131 := by kernel_rfl
theorem tz_131 : Try.t131.zero = some (.nilFunc) := by kernel_rfl
theorem ag_132 : tyAgg Try.prog 132 = some none := by kernel_rfl
theorem ts_132 : tySize Try.prog 132 = some 1 := by kernel_rfl
theorem zc_132 : zeroOf Try.prog 132 = some (.nilFunc) := by kernel_rfl
theorem ti_132 : Try.prog.info? 132 = some Try.t132 := by kernel_rfl
theorem tz_132 : Try.t132.zero = some (.nilFunc) := by kernel_rfl
theorem ag_133 : tyAgg Try.prog 133 = some none := by kernel_rfl
theorem ts_133 : tySize Try.prog 133 = some 1 := by kernel_rfl
theorem zc_133 : zeroOf Try.prog 133 = some (.nilFunc) := by kernel_rfl
theorem ti_133 : Try.prog.info? 133 = some Try.t133 := by kernel_rfl
theorem tz_133 : Try.t133.zero = some (.nilFunc) := by kernel_rfl
theorem ag_134 : tyAgg Try.prog 134 = some none := by kernel_rfl
theorem ts_134 : tySize Try.prog 134 = some 1 := by kernel_rfl
theorem zc_134 : zeroOf Try.prog 134 = some (.nilFunc) := by kernel_rfl
theorem ti_134 : Try.prog.info? 134 = some Try.t134 := by kernel_rfl
theorem tz_134 : Try.t134.zero = some (.nilFunc) := by kernel_rfl
theorem ag_135 : tyAgg Try.prog 135 = some none := by kernel_rfl
theorem ts_135 : tySize Try.prog 135 = some 1 := by kernel_rfl
theorem zc_135 : zeroOf Try.prog 135 = some (.map none) := by kernel_rfl
theorem ti_135 : Try.prog.info? 135 = some Try.t135 := by kernel_rfl
theorem tz_135 : Try.t135.zero = some (.map none) := by kernel_rfl
theorem ag_136 : tyAgg Try.prog 136 = some none := by kernel_rfl
theorem ts_136 : tySize Try.prog 136 = some 1 := by kernel_rfl
theorem zc_136 : zeroOf Try.prog 136 = some (.map none) := by kernel_rfl
theorem ti_136 : Try.prog.info? 136 = some Try.t136 := by kernel_rfl
theorem tz_136 : Try.t136.zero = some (.map none) := by kernel_rfl
theorem ag_137 : tyAgg Try.prog 137 = some (some 1) := by kernel_rfl
theorem ts_137 : tySize Try.prog 137 = some 1 := by kernel_rfl
theorem fo_137_0 : fldOff Try.prog 137 0 = some 0 := by kernel_rfl
theorem zc_137 : zeroOf Try.prog 137 = some (.agg #[.map none]) := by kernel_rfl
theorem ti_137 : Try.prog.info? 137 = some Try.t137 := by kernel_rfl
theorem tz_137 : Try.t137.zero = some (.agg #[.map none]) := by kernel_rfl
theorem bu_137 : BuTy Try.prog 137 [(0, 1)] [.map none] := ⟨_, _, Try.underlying137, zc_137, rfl, by kernel_rfl⟩
theorem ag_138 : tyAgg Try.prog 138 = some (some 1) := by kernel_rfl
theorem ts_138 : tySize Try.prog 138 = some 1 := by kernel_rfl
theorem fo_138_0 : fldOff Try.prog 138 0 = some 0 := by kernel_rfl
theorem zc_138 : zeroOf Try.prog 138 = some (.agg #[.map none]) := by kernel_rfl
theorem ti_138 : Try.prog.info? 138 = some Try.t138 := by kernel_rfl
theorem tz_138 : Try.t138.zero = some (.agg #[.map none]) := by kernel_rfl
theorem bu_138 : BuTy Try.prog 138 [(0, 1)] [.map none] := ⟨_, _, Try.underlying138, zc_138, rfl, by kernel_rfl⟩
theorem ag_139 : tyAgg Try.prog 139 = some none := by kernel_rfl
theorem ts_139 : tySize Try.prog 139 = some 1 := by kernel_rfl
theorem zc_139 : zeroOf Try.prog 139 = some (.nilFunc) := by kernel_rfl
theorem ti_139 : Try.prog.info? 139 = some Try.t139 := by kernel_rfl
theorem tz_139 : Try.t139.zero = some (.nilFunc) := by kernel_rfl
theorem ag_140 : tyAgg Try.prog 140 = some none := by kernel_rfl
theorem ts_140 : tySize Try.prog 140 = some 1 := by kernel_rfl
theorem zc_140 : zeroOf Try.prog 140 = some (.nilFunc) := by kernel_rfl
theorem ti_140 : Try.prog.info? 140 = some Try.t140 := by kernel_rfl
theorem tz_140 : Try.t140.zero = some (.nilFunc) := by kernel_rfl
theorem ag_141 : tyAgg Try.prog 141 = some none := by kernel_rfl
theorem ts_141 : tySize Try.prog 141 = some 1 := by kernel_rfl
theorem zc_141 : zeroOf Try.prog 141 = some (.nilFunc) := by kernel_rfl
theorem ti_141 : Try.prog.info? 141 = some Try.t141 := by kernel_rfl
theorem tz_141 : Try.t141.zero = some (.nilFunc) := by kernel_rfl
theorem ag_142 : tyAgg Try.prog 142 = some none := by kernel_rfl
theorem ts_142 : tySize Try.prog 142 = some 1 := by kernel_rfl
theorem zc_142 : zeroOf Try.prog 142 = some (.nilFunc) := by kernel_rfl
theorem ti_142 : Try.prog.info? 142 = some Try.t142 := by kernel_rfl
theorem tz_142 : Try.t142.zero = some (.nilFunc) := by kernel_rfl
theorem ag_143 : tyAgg Try.prog 143 = some none := by kernel_rfl
theorem ts_143 : tySize Try.prog 143 = some 1 := by kernel_rfl
theorem zc_143 : zeroOf Try.prog 143 = some (.int .u64 0) := by kernel_rfl
theorem ti_143 : Try.prog.info? 143 = some Try.t143 := by kernel_rfl
theorem tz_143 : Try.t143.zero = some (.int .u64 0) := by kernel_rfl
theorem ag_144 : tyAgg Try.prog 144 = some none := by kernel_rfl
theorem ts_144 : tySize Try.prog 144 = some 1 := by kernel_rfl
theorem zc_144 : zeroOf Try.prog 144 = some (.nilFunc) := by kernel_rfl
theorem ti_144 : Try.prog.info? 144 = some Try.t144 := by kernel_rfl
theorem tz_144 : Try.t144.zero = some (.nilFunc) := by kernel_rfl
theorem ag_145 : tyAgg Try.prog 145 = some none := by kernel_rfl
theorem ts_145 : tySize Try.prog 145 = some 1 := by kernel_rfl
theorem zc_145 : zeroOf Try.prog 145 = some (.nilFunc) := by kernel_rfl
theorem ti_145 : Try.prog.info? 145 = some Try.t145 := by kernel_rfl
theorem tz_145 : Try.t145.zero = some (.nilFunc) := by kernel_rfl
theorem ag_146 : tyAgg Try.prog 146 = some none := by kernel_rfl
theorem ts_146 : tySize Try.prog 146 = some 1 := by kernel_rfl
theorem zc_146 : zeroOf Try.prog 146 = some (.nilFunc) := by kernel_rfl
theorem ti_146 : Try.prog.info? 146 = some Try.t146 := by kernel_rfl
theorem tz_146 : Try.t146.zero = some (.nilFunc) := by kernel_rfl
theorem ag_147 : tyAgg Try.prog 147 = some none := by kernel_rfl
theorem ts_147 : tySize Try.prog 147 = some 1 := by kernel_rfl
theorem zc_147 : zeroOf Try.prog 147 = some (.nilFunc) := by kernel_rfl
theorem ti_147 : Try.prog.info? 147 = some Try.t147 := by kernel_rfl
theorem tz_147 : Try.t147.zero = some (.nilFunc) := by kernel_rfl
theorem ag_148 : tyAgg Try.prog 148 = some none := by kernel_rfl
theorem ts_148 : tySize Try.prog 148 = some 1 := by kernel_rfl
theorem zc_148 : zeroOf Try.prog 148 = some (.int .i64 0) := by kernel_rfl
theorem ti_148 : Try.prog.info? 148 = some Try.t148 := by kernel_rfl
theorem tz_148 : Try.t148.zero = some (.int .i64 0) := by kernel_rfl
theorem ts_149 : tySize Try.prog 149 = some 1 := by kernel_rfl
theorem zc_149 : zeroOf Try.prog 149 = some (.tuple #[.int .i64 0, .int .i64 0]) := by kernel_rfl
theorem ti_149 : Try.prog.info? 149 = some Try.t149 := by kernel_rfl
theorem tz_149 : Try.t149.zero = some (.tuple #[.int .i64 0, .int .i64 0]) := by kernel_rfl
theorem ag_150 : tyAgg Try.prog 150 = some none := by kernel_rfl
theorem ts_150 : tySize Try.prog 150 = some 1 := by kernel_rfl
theorem zc_150 : zeroOf Try.prog 150 = some (.nilFunc) := by kernel_rfl
theorem ti_150 : Try.prog.info? 150 = some Try.t150 := by kernel_rfl
theorem tz_150 : Try.t150.zero = some (.nilFunc) := by kernel_rfl
theorem ag_151 : tyAgg Try.prog 151 = some none := by kernel_rfl
theorem ts_151 : tySize Try.prog 151 = some 1 := by kernel_rfl
theorem zc_151 : zeroOf Try.prog 151 = some (.nilFunc) := by kernel_rfl
theorem ti_151 : Try.prog.info? 151 = some Try.t151 := by kernel_rfl
theorem tz_151 : Try.t151.zero = some (.nilFunc) := by kernel_rfl
theorem ag_152 : tyAgg Try.prog 152 = some none := by kernel_rfl
theorem ts_152 : tySize Try.prog 152 = some 1 := by kernel_rfl
theorem zc_152 : zeroOf Try.prog 152 = some (.nilFunc) := by kernel_rfl
theorem ti_152 : Try.prog.info? 152 = some Try.t152 := by kernel_rfl
theorem tz_152 : Try.t152.zero = some (.nilFunc) := by kernel_rfl
theorem ag_153 : tyAgg Try.prog 153 = some none := by kernel_rfl
theorem ts_153 : tySize Try.prog 153 = some 1 := by kernel_rfl
theorem zc_153 : zeroOf Try.prog 153 = some (.nilFunc) := by kernel_rfl
theorem ti_153 : Try.prog.info? 153 = some Try.t153 := by kernel_rfl
theorem tz_153 : Try.t153.zero = some (.nilFunc) := by kernel_rfl
theorem ag_154 : tyAgg Try.prog 154 = some none := by kernel_rfl
theorem ts_154 : tySize Try.prog 154 = some 1 := by kernel_rfl
theorem zc_154 : zeroOf Try.prog 154 = some (.nilFunc) := by kernel_rfl
theorem ti_154 : Try.prog.info? 154 = some Try.t154 := by kernel_rfl
theorem tz_154 : Try.t154.zero = some (.nilFunc) := by kernel_rfl
theorem ag_155 : tyAgg Try.prog 155 = some none := by kernel_rfl
theorem ts_155 : tySize Try.prog 155 = some 1 := by kernel_rfl
theorem zc_155 : zeroOf Try.prog 155 = some (.int .u32 0) := by kernel_rfl
theorem ti_155 : Try.prog.info? 155 = some Try.t155 := by kernel_rfl
theorem tz_155 : Try.t155.zero = some (.int .u32 0) := by kernel_rfl
theorem ag_156 : tyAgg Try.prog 156 = some none := by kernel_rfl
theorem ts_156 : tySize Try.prog 156 = some 1 := by kernel_rfl
theorem zc_156 : zeroOf Try.prog 156 = some (.nilFunc) := by kernel_rfl
theorem ti_156 : Try.prog.info? 156 = some Try.t156 := by kernel_rfl
theorem tz_156 : Try.t156.zero = some (.nilFunc) := by kernel_rfl
theorem ag_157 : tyAgg Try.prog 157 = some none := by kernel_rfl
theorem ts_157 : tySize Try.prog 157 = some 1 := by kernel_rfl
theorem zc_157 : zeroOf Try.prog 157 = some (.int .u64 0) := by kernel_rfl
theorem ti_157 : Try.prog.info? 157 = some Try.t157 := by kernel_rfl
theorem tz_157 : Try.t157.zero = some (.int .u64 0) := by kernel_rfl
theorem ag_158 : tyAgg Try.prog 158 = some none := by kernel_rfl
theorem ts_158 : tySize Try.prog 158 = some 1 := by kernel_rfl
theorem zc_158 : zeroOf Try.prog 158 = some (.nilFunc) := by kernel_rfl
theorem ti_158 : Try.prog.info? 158 = some Try.t158 := by kernel_rfl
theorem tz_158 : Try.t158.zero = some (.nilFunc) := by kernel_rfl
theorem ag_159 : tyAgg Try.prog 159 = some none := by kernel_rfl
theorem ts_159 : tySize Try.prog 159 = some 1 := by kernel_rfl
theorem zc_159 : zeroOf Try.prog 159 = some (.nilFunc) := by kernel_rfl
theorem ti_159 : Try.prog.info? 159 = some Try.t159 := by kernel_rfl
theorem tz_159 : Try.t159.zero = some (.nilFunc) := by kernel_rfl
theorem ag_160 : tyAgg Try.prog 160 = some none := by kernel_rfl
theorem ts_160 : tySize Try.prog 160 = some 1 := by kernel_rfl
theorem zc_160 : zeroOf Try.prog 160 = some (.nilFunc) := by kernel_rfl
theorem ti_160 : Try.prog.info? 160 = some Try.t160 := by kernel_rfl
theorem tz_160 : Try.t160.zero = some (.nilFunc) := by kernel_rfl
theorem ag_161 : tyAgg Try.prog 161 = some none := by kernel_rfl
theorem ts_161 : tySize Try.prog 161 = some 1 := by kernel_rfl
theorem zc_161 : zeroOf Try.prog 161 = some (.nilFunc) := by kernel_rfl
theorem ti_161 : Try.prog.info? 161 = some Try.t161 := by kernel_rfl
theorem tz_161 : Try.t161.zero = some (.nilFunc) := by kernel_rfl
theorem ag_162 : tyAgg Try.prog 162 = some none := by kernel_rfl
theorem ts_162 : tySize Try.prog 162 = some 1 := by kernel_rfl
theorem zc_162 : zeroOf Try.prog 162 = some (.nilFunc) := by kernel_rfl
theorem ti_162 : Try.prog.info? 162 = some Try.t162 := by kernel_rfl
theorem tz_162 : Try.t162.zero = some (.nilFunc) := by kernel_rfl
theorem ag_163 : tyAgg Try.prog 163 = some none := by kernel_rfl
theorem ts_163 : tySize Try.prog 163 = some 1 := by kernel_rfl
theorem zc_163 : zeroOf Try.prog 163 = some (.int .u64 0) := by kernel_rfl
theorem ti_163 : Try.prog.info? 163 = some Try.t163 := by kernel_rfl
theorem tz_163 : Try.t163.zero = some (.int .u64 0) := by kernel_rfl
theorem ag_164 : tyAgg Try.prog 164 = some none := by kernel_rfl
theorem ts_164 : tySize Try.prog 164 = some 1 := by kernel_rfl
theorem zc_164 : zeroOf Try.prog 164 = some (.nilFunc) := by kernel_rfl
theorem ti_164 : Try.prog.info? 164 = some Try.t164 := by kernel_rfl
theorem tz_164 : Try.t164.zero = some (.nilFunc) := by kernel_rfl
theorem ag_165 : tyAgg Try.prog 165 = some none := by kernel_rfl
theorem ts_165 : tySize Try.prog 165 = some 1 := by kernel_rfl
theorem zc_165 : zeroOf Try.prog 165 = some (.nilFunc) := by kernel_rfl
theorem ti_165 : Try.prog.info? 165 = some Try.t165 := by kernel_rfl
theorem tz_165 : Try.t165.zero = some (.nilFunc) := by kernel_rfl
theorem ag_166 : tyAgg Try.prog 166 = some none := by kernel_rfl
theorem ts_166 : tySize Try.prog 166 = some 1 := by kernel_rfl
theorem zc_166 : zeroOf Try.prog 166 = some (.nilFunc) := by kernel_rfl
theorem ti_166 : Try.prog.info? 166 = some Try.t166 := by kernel_rfl
theorem tz_166 : Try.t166.zero = some (.nilFunc) := by kernel_rfl
theorem ag_167 : tyAgg Try.prog 167 = some none := by kernel_rfl
theorem ts_167 : tySize Try.prog 167 = some 1 := by kernel_rfl
theorem zc_167 : zeroOf Try.prog 167 = some (.pointer none) := by kernel_rfl
theorem ti_167 : Try.prog.info? 167 = some Try.t167 := by kernel_rfl
theorem tz_167 : Try.t167.zero = some (.pointer none) := by kernel_rfl
theorem ag_168 : tyAgg Try.prog 168 = some none := by kernel_rfl
theorem ts_168 : tySize Try.prog 168 = some 1 := by kernel_rfl
theorem zc_168 : zeroOf Try.prog 168 = some (.nilFunc) := by kernel_rfl
theorem ti_168 : Try.prog.info? 168 = some Try.t168 := by kernel_rfl
theorem tz_168 : Try.t168.zero = some (.nilFunc) := by kernel_rfl
theorem ag_169 : tyAgg Try.prog 169 = some none := by kernel_rfl
theorem ts_169 : tySize Try.prog 169 = some 1 := by kernel_rfl
theorem zc_169 : zeroOf Try.prog 169 = some (.nilFunc) := by kernel_rfl
theorem ti_169 : Try.prog.info? 169 = some Try.t169 := by kernel_rfl
theorem tz_169 : Try.t169.zero = some (.nilFunc) := by kernel_rfl
theorem ag_170 : tyAgg Try.prog 170 = some none := by kernel_rfl
theorem ts_170 : tySize Try.prog 170 = some 1 := by kernel_rfl
theorem zc_170 : zeroOf Try.prog 170 = some (.nilFunc) := by kernel_rfl
theorem ti_170 : Try.prog.info? 170 = some Try.t170 := by kernel_rfl
theorem tz_170 : Try.t170.zero = some (.nilFunc) := by kernel_rfl
theorem ag_171 : tyAgg Try.prog 171 = some none := by kernel_rfl
theorem ts_171 : tySize Try.prog 171 = some 1 := by kernel_rfl
theorem zc_171 : zeroOf Try.prog 171 = some (.pointer none) := by kernel_rfl
theorem ti_171 : Try.prog.info? 171 = some Try.t171 := by kernel_rfl
theorem tz_171 : Try.t171.zero = some (.pointer none) := by kernel_rfl
theorem ts_172 : tySize Try.prog 172 = some 1 := by kernel_rfl
theorem zc_172 : zeroOf Try.prog 172 = some (.tuple #[.int .i64 0, .int .i64 0]) := by kernel_rfl
theorem ti_172 : Try.prog.info? 172 = some Try.t172 := by kernel_rfl
theorem tz_172 : Try.t172.zero = some (.tuple #[.int .i64 0, .int .i64 0]) := by kernel_rfl
theorem ag_173 : tyAgg Try.prog 173 = some none := by kernel_rfl
theorem ts_173 : tySize Try.prog 173 = some 1 := by kernel_rfl
theorem zc_173 : zeroOf Try.prog 173 = some (.nilFunc) := by kernel_rfl
theorem ti_173 : Try.prog.info? 173 = some Try.t173 := by kernel_rfl
theorem tz_173 : Try.t173.zero = some (.nilFunc) := by kernel_rfl
theorem ag_174 : tyAgg Try.prog 174 = some none := by kernel_rfl
theorem ts_174 : tySize Try.prog 174 = some 1 := by kernel_rfl
theorem zc_174 : zeroOf Try.prog 174 = some (.nilFunc) := by kernel_rfl
theorem ti_174 : Try.prog.info? 174 = some Try.t174 := by kernel_rfl
theorem tz_174 : Try.t174.zero = some (.nilFunc) := by kernel_rfl
theorem ag_175 : tyAgg Try.prog 175 = some none := by kernel_rfl
theorem ts_175 : tySize Try.prog 175 = some 1 := by kernel_rfl
theorem zc_175 : zeroOf Try.prog 175 = some (.nilFunc) := by kernel_rfl
theorem ti_175 : Try.prog.info? 175 = some Try.t175 := by kernel_rfl
theorem tz_175 : Try.t175.zero = some (.nilFunc) := by kernel_rfl
theorem ag_176 : tyAgg Try.prog 176 = some (some 4) := by kernel_rfl
theorem ts_176 : tySize Try.prog 176 = some 4 := by kernel_rfl
theorem fo_176_0 : fldOff Try.prog 176 0 = some 0 := by kernel_rfl
theorem fo_176_1 : fldOff Try.prog 176 1 = some 1 := by kernel_rfl
theorem fo_176_2 : fldOff Try.prog 176 2 = some 2 := by kernel_rfl
theorem fo_176_3 : fldOff Try.prog 176 3 = some 3 := by kernel_rfl
theorem zc_176 : zeroOf Try.prog 176 = some (.agg #[.pointer none, .pointer none, .pointer none, .string ByteArray.empty]) := by kernel_rfl
theorem ti_176 : Try.prog.info? 176 = some Try.t176 := by kernel_rfl
theorem tz_176 : Try.t176.zero = some (.agg #[.pointer none, .pointer none, .pointer none, .string ByteArray.empty]) := by kernel_rfl
theorem bu_176 : BuTy Try.prog 176 [(0, 1), (1, 1), (2, 1), (3, 1)] [.pointer none, .pointer none, .pointer none, .string ByteArray.empty] := ⟨_, _, Try.underlying176, zc_176, rfl, by kernel_rfl⟩
theorem ag_177 : tyAgg Try.prog 177 = some (some 4) := by kernel_rfl
theorem ts_177 : tySize Try.prog 177 = some 4 := by kernel_rfl
theorem fo_177_0 : fldOff Try.prog 177 0 = some 0 := by kernel_rfl
theorem fo_177_1 : fldOff Try.prog 177 1 = some 1 := by kernel_rfl
theorem fo_177_2 : fldOff Try.prog 177 2 = some 2 := by kernel_rfl
theorem fo_177_3 : fldOff Try.prog 177 3 = some 3 := by kernel_rfl
theorem zc_177 : zeroOf Try.prog 177 = some (.agg #[.pointer none, .pointer none, .pointer none, .string ByteArray.empty]) := by kernel_rfl
theorem ti_177 : Try.prog.info? 177 = some Try.t177 := by kernel_rfl
theorem tz_177 : Try.t177.zero = some (.agg #[.pointer none, .pointer none, .pointer none, .string ByteArray.empty]) := by kernel_rfl
theorem bu_177 : BuTy Try.prog 177 [(0, 1), (1, 1), (2, 1), (3, 1)] [.pointer none, .pointer none, .pointer none, .string ByteArray.empty] := ⟨_, _, Try.underlying177, zc_177, rfl, by kernel_rfl⟩
theorem ag_178 : tyAgg Try.prog 178 = some (some 0) := by kernel_rfl
theorem ts_178 : tySize Try.prog 178 = some 0 := by kernel_rfl
theorem ar_178 : arSize Try.prog 178 = some (0, 1) := by kernel_rfl
theorem zc_178 : zeroOf Try.prog 178 = some (.agg #[]) := by kernel_rfl
theorem ti_178 : Try.prog.info? 178 = some Try.t178 := by kernel_rfl
theorem tz_178 : Try.t178.zero = some (.agg #[]) := by kernel_rfl
theorem ag_179 : tyAgg Try.prog 179 = some (some 0) := by kernel_rfl
theorem ts_179 : tySize Try.prog 179 = some 0 := by kernel_rfl
theorem zc_179 : zeroOf Try.prog 179 = some (.agg #[]) := by kernel_rfl
theorem ti_179 : Try.prog.info? 179 = some Try.t179 := by kernel_rfl
theorem tz_179 : Try.t179.zero = some (.agg #[]) := by kernel_rfl
theorem bu_179 : BuTy Try.prog 179 [(0, 0)] [] := ⟨_, _, Try.underlying179, zc_179, rfl, by kernel_rfl⟩
theorem ag_180 : tyAgg Try.prog 180 = some (some 0) := by kernel_rfl
theorem ts_180 : tySize Try.prog 180 = some 0 := by kernel_rfl
theorem zc_180 : zeroOf Try.prog 180 = some (.agg #[]) := by kernel_rfl
theorem ti_180 : Try.prog.info? 180 = some Try.t180 := by kernel_rfl
theorem tz_180 : Try.t180.zero = some (.agg #[]) := by kernel_rfl
theorem bu_180 : BuTy Try.prog 180 [(0, 0)] [] := ⟨_, _, Try.underlying180, zc_180, rfl, by kernel_rfl⟩
theorem ag_181 : tyAgg Try.prog 181 = some none := by kernel_rfl
theorem ts_181 : tySize Try.prog 181 = some 1 := by kernel_rfl
theorem zc_181 : zeroOf Try.prog 181 = some (.int .u8 0) := by kernel_rfl
theorem ti_181 : Try.prog.info? 181 = some Try.t181 := by kernel_rfl
theorem tz_181 : Try.t181.zero = some (.int .u8 0) := by kernel_rfl
theorem ag_182 : tyAgg Try.prog 182 = some none := by kernel_rfl
theorem ts_182 : tySize Try.prog 182 = some 1 := by kernel_rfl
theorem zc_182 : zeroOf Try.prog 182 = some (.int .u8 0) := by kernel_rfl
theorem ti_182 : Try.prog.info? 182 = some Try.t182 := by kernel_rfl
theorem tz_182 : Try.t182.zero = some (.int .u8 0) := by kernel_rfl
theorem ag_183 : tyAgg Try.prog 183 = some none := by kernel_rfl
theorem ts_183 : tySize Try.prog 183 = some 1 := by kernel_rfl
theorem zc_183 : zeroOf Try.prog 183 = some (.nilFunc) := by kernel_rfl
theorem ti_183 : Try.prog.info? 183 = some Try.t183 := by kernel_rfl
theorem tz_183 : Try.t183.zero = some (.nilFunc) := by kernel_rfl
theorem ag_184 : tyAgg Try.prog 184 = some none := by kernel_rfl
theorem ts_184 : tySize Try.prog 184 = some 1 := by kernel_rfl
theorem zc_184 : zeroOf Try.prog 184 = some (.pointer none) := by kernel_rfl
theorem ti_184 : Try.prog.info? 184 = some Try.t184 := by kernel_rfl
theorem tz_184 : Try.t184.zero = some (.pointer none) := by kernel_rfl
theorem ag_185 : tyAgg Try.prog 185 = some none := by kernel_rfl
theorem ts_185 : tySize Try.prog 185 = some 1 := by kernel_rfl
theorem zc_185 : zeroOf Try.prog 185 = some (.int .i32 0) := by kernel_rfl
theorem ti_185 : Try.prog.info? 185 = some Try.t185 := by kernel_rfl
theorem tz_185 : Try.t185.zero = some (.int .i32 0) := by kernel_rfl
theorem ag_186 : tyAgg Try.prog 186 = some none := by kernel_rfl
theorem ts_186 : tySize Try.prog 186 = some 1 := by kernel_rfl
theorem zc_186 : zeroOf Try.prog 186 = some (.int .i32 0) := by kernel_rfl
theorem ti_186 : Try.prog.info? 186 = some Try.t186 := by kernel_rfl
theorem tz_186 : Try.t186.zero = some (.int .i32 0) := by kernel_rfl
theorem ag_187 : tyAgg Try.prog 187 = some (some 11) := by kernel_rfl
theorem ts_187 : tySize Try.prog 187 = some 11 := by kernel_rfl
theorem fo_187_0 : fldOff Try.prog 187 0 = some 0 := by kernel_rfl
theorem fo_187_1 : fldOff Try.prog 187 1 = some 1 := by kernel_rfl
theorem fo_187_2 : fldOff Try.prog 187 2 = some 2 := by kernel_rfl
theorem fo_187_3 : fldOff Try.prog 187 3 = some 3 := by kernel_rfl
theorem fo_187_4 : fldOff Try.prog 187 4 = some 4 := by kernel_rfl
theorem fo_187_5 : fldOff Try.prog 187 5 = some 5 := by kernel_rfl
theorem fo_187_6 : fldOff Try.prog 187 6 = some 6 := by kernel_rfl
theorem fo_187_7 : fldOff Try.prog 187 7 = some 7 := by kernel_rfl
theorem fo_187_8 : fldOff Try.prog 187 8 = some 8 := by kernel_rfl
theorem fo_187_9 : fldOff Try.prog 187 9 = some 9 := by kernel_rfl
theorem fo_187_10 : fldOff Try.prog 187 10 = some 10 := by kernel_rfl
theorem zc_187 : zeroOf Try.prog 187 = some (.agg #[.int .u64 0, .int .u64 0, .int .u32 0, .int .u8 0, .int .u8 0, .int .u8 0, .int .u8 0, .nilFunc, .pointer none, .int .i32 0, .int .i32 0]) := by kernel_rfl
theorem ti_187 : Try.prog.info? 187 = some Try.t187 := by kernel_rfl
theorem tz_187 : Try.t187.zero = some (.agg #[.int .u64 0, .int .u64 0, .int .u32 0, .int .u8 0, .int .u8 0, .int .u8 0, .int .u8 0, .nilFunc, .pointer none, .int .i32 0, .int .i32 0]) := by kernel_rfl
theorem bu_187 : BuTy Try.prog 187 [(0, 1), (1, 1), (2, 1), (3, 1), (4, 1), (5, 1), (6, 1), (7, 1), (8, 1), (9, 1), (10, 1)] [.int .u64 0, .int .u64 0, .int .u32 0, .int .u8 0, .int .u8 0, .int .u8 0, .int .u8 0, .nilFunc, .pointer none, .int .i32 0, .int .i32 0] := ⟨_, _, Try.underlying187, zc_187, rfl, by kernel_rfl⟩
theorem ag_188 : tyAgg Try.prog 188 = some (some 11) := by kernel_rfl
theorem ts_188 : tySize Try.prog 188 = some 11 := by kernel_rfl
theorem fo_188_0 : fldOff Try.prog 188 0 = some 0 := by kernel_rfl
theorem fo_188_1 : fldOff Try.prog 188 1 = some 1 := by kernel_rfl
theorem fo_188_2 : fldOff Try.prog 188 2 = some 2 := by kernel_rfl
theorem fo_188_3 : fldOff Try.prog 188 3 = some 3 := by kernel_rfl
theorem fo_188_4 : fldOff Try.prog 188 4 = some 4 := by kernel_rfl
theorem fo_188_5 : fldOff Try.prog 188 5 = some 5 := by kernel_rfl
theorem fo_188_6 : fldOff Try.prog 188 6 = some 6 := by kernel_rfl
theorem fo_188_7 : fldOff Try.prog 188 7 = some 7 := by kernel_rfl
theorem fo_188_8 : fldOff Try.prog 188 8 = some 8 := by kernel_rfl
theorem fo_188_9 : fldOff Try.prog 188 9 = some 9 := by kernel_rfl
theorem fo_188_10 : fldOff Try.prog 188 10 = some 10 := by kernel_rfl
theorem zc_188 : zeroOf Try.prog 188 = some (.agg #[.int .u64 0, .int .u64 0, .int .u32 0, .int .u8 0, .int .u8 0, .int .u8 0, .int .u8 0, .nilFunc, .pointer none, .int .i32 0, .int .i32 0]) := by kernel_rfl
theorem ti_188 : Try.prog.info? 188 = some Try.t188 := by kernel_rfl
theorem tz_188 : Try.t188.zero = some (.agg #[.int .u64 0, .int .u64 0, .int .u32 0, .int .u8 0, .int .u8 0, .int .u8 0, .int .u8 0, .nilFunc, .pointer none, .int .i32 0, .int .i32 0]) := by kernel_rfl
theorem bu_188 : BuTy Try.prog 188 [(0, 1), (1, 1), (2, 1), (3, 1), (4, 1), (5, 1), (6, 1), (7, 1), (8, 1), (9, 1), (10, 1)] [.int .u64 0, .int .u64 0, .int .u32 0, .int .u8 0, .int .u8 0, .int .u8 0, .int .u8 0, .nilFunc, .pointer none, .int .i32 0, .int .i32 0] := ⟨_, _, Try.underlying188, zc_188, rfl, by kernel_rfl⟩
theorem ag_189 : tyAgg Try.prog 189 = some none := by kernel_rfl
theorem ts_189 : tySize Try.prog 189 = some 1 := by kernel_rfl
theorem zc_189 : zeroOf Try.prog 189 = some (.nilFunc) := by kernel_rfl
theorem ti_189 : Try.prog.info? 189 = some Try.t189 := by kernel_rfl
theorem tz_189 : Try.t189.zero = some (.nilFunc) := by kernel_rfl
theorem ag_190 : tyAgg Try.prog 190 = some none := by kernel_rfl
theorem ts_190 : tySize Try.prog 190 = some 1 := by kernel_rfl
theorem zc_190 : zeroOf Try.prog 190 = some (.nilFunc) := by kernel_rfl
theorem ti_190 : Try.prog.info? 190 = some Try.t190 := by kernel_rfl
theorem tz_190 : Try.t190.zero = some (.nilFunc) := by kernel_rfl
theorem ag_191 : tyAgg Try.prog 191 = some none := by kernel_rfl
theorem ts_191 : tySize Try.prog 191 = some 1 := by kernel_rfl
theorem zc_191 : zeroOf Try.prog 191 = some (.nilFunc) := by kernel_rfl
theorem ti_191 : Try.prog.info? 191 = some Try.t191 := by kernel_rfl
theorem tz_191 : Try.t191.zero = some (.nilFunc) := by kernel_rfl
theorem ag_192 : tyAgg Try.prog 192 = some none := by kernel_rfl
theorem ts_192 : tySize Try.prog 192 = some 1 := by kernel_rfl
theorem zc_192 : zeroOf Try.prog 192 = some (.nilFunc) := by kernel_rfl
theorem ti_192 : Try.prog.info? 192 = some Try.t192 := by kernel_rfl
theorem tz_192 : Try.t192.zero = some (.nilFunc) := by kernel_rfl
theorem ag_193 : tyAgg Try.prog 193 = some none := by kernel_rfl
theorem ts_193 : tySize Try.prog 193 = some 1 := by kernel_rfl
theorem zc_193 : zeroOf Try.prog 193 = some (.nilFunc) := by kernel_rfl
theorem ti_193 : Try.prog.info? 193 = some Try.t193 := by kernel_rfl
theorem tz_193 : Try.t193.zero = some (.nilFunc) := by kernel_rfl
theorem ag_194 : tyAgg Try.prog 194 = some none := by kernel_rfl
theorem ts_194 : tySize Try.prog 194 = some 1 := by kernel_rfl
theorem zc_194 : zeroOf Try.prog 194 = some (.nilFunc) := by kernel_rfl
theorem ti_194 : Try.prog.info? 194 = some Try.t194 := by kernel_rfl
theorem tz_194 : Try.t194.zero = some (.nilFunc) := by kernel_rfl
theorem ag_195 : tyAgg Try.prog 195 = some none := by kernel_rfl
theorem ts_195 : tySize Try.prog 195 = some 1 := by kernel_rfl
theorem zc_195 : zeroOf Try.prog 195 = some (.nilFunc) := by kernel_rfl
theorem ti_195 : Try.prog.info? 195 = some Try.t195 := by kernel_rfl
theorem tz_195 : Try.t195.zero = some (.nilFunc) := by kernel_rfl
theorem ag_196 : tyAgg Try.prog 196 = some none := by kernel_rfl
theorem ts_196 : tySize Try.prog 196 = some 1 := by kernel_rfl
theorem zc_196 : zeroOf Try.prog 196 = some (.pointer none) := by kernel_rfl
theorem ti_196 : Try.prog.info? 196 = some Try.t196 := by kernel_rfl
theorem tz_196 : Try.t196.zero = some (.pointer none) := by kernel_rfl
theorem ag_197 : tyAgg Try.prog 197 = some none := by kernel_rfl
theorem ts_197 : tySize Try.prog 197 = some 1 := by kernel_rfl
theorem sz_197 : slSize Try.prog 197 = some 3 := by kernel_rfl
theorem st_197 : SlTy Try.prog 197 201 3 40 := ⟨Try.underlying197, ⟨_, _, (by kernel_rfl : Try.prog.info? 201 = some Try.t201), (by kernel_rfl : Try.t201.zero = some (.agg #[.string ByteArray.empty, .string ByteArray.empty, .int .i64 0])), by kernel_rfl, by kernel_rfl, by kernel_rfl⟩, by decide⟩
theorem zc_197 : zeroOf Try.prog 197 = some (.slice none 0 0) := by kernel_rfl
theorem ti_197 : Try.prog.info? 197 = some Try.t197 := by kernel_rfl
theorem tz_197 : Try.t197.zero = some (.slice none 0 0) := by kernel_rfl
theorem ag_198 : tyAgg Try.prog 198 = some none := by kernel_rfl
theorem ts_198 : tySize Try.prog 198 = some 1 := by kernel_rfl
theorem sz_198 : slSize Try.prog 198 = some 1 := by kernel_rfl
theorem st_198 : SlTy Try.prog 198 91 1 24 := ⟨Try.underlying198, ⟨_, _, (by kernel_rfl : Try.prog.info? 91 = some Try.t91), (by kernel_rfl : Try.t91.zero = some (.slice none 0 0)), by kernel_rfl, by kernel_rfl, by kernel_rfl⟩, by decide⟩
theorem zc_198 : zeroOf Try.prog 198 = some (.slice none 0 0) := by kernel_rfl
theorem ti_198 : Try.prog.info? 198 = some Try.t198 := by kernel_rfl
theorem tz_198 : Try.t198.zero = some (.slice none 0 0) := by kernel_rfl
theorem ag_199 : tyAgg Try.prog 199 = some none := by kernel_rfl
theorem ts_199 : tySize Try.prog 199 = some 1 := by kernel_rfl
theorem zc_199 : zeroOf Try.prog 199 = some (.map none) := by kernel_rfl
theorem ti_199 : Try.prog.info? 199 = some Try.t199 := by kernel_rfl
theorem tz_199 : Try.t199.zero = some (.map none) := by kernel_rfl
theorem ag_200 : tyAgg Try.prog 200 = some (some 3) := by kernel_rfl
theorem ts_200 : tySize Try.prog 200 = some 3 := by kernel_rfl
theorem fo_200_0 : fldOff Try.prog 200 0 = some 0 := by kernel_rfl
theorem fo_200_1 : fldOff Try.prog 200 1 = some 1 := by kernel_rfl
theorem fo_200_2 : fldOff Try.prog 200 2 = some 2 := by kernel_rfl
theorem zc_200 : zeroOf Try.prog 200 = some (.agg #[.string ByteArray.empty, .string ByteArray.empty, .int .i64 0]) := by kernel_rfl
theorem ti_200 : Try.prog.info? 200 = some Try.t200 := by kernel_rfl
theorem tz_200 : Try.t200.zero = some (.agg #[.string ByteArray.empty, .string ByteArray.empty, .int .i64 0]) := by kernel_rfl
theorem bu_200 : BuTy Try.prog 200 [(0, 1), (1, 1), (2, 1)] [.string ByteArray.empty, .string ByteArray.empty, .int .i64 0] := ⟨_, _, Try.underlying200, zc_200, rfl, by kernel_rfl⟩
theorem ag_201 : tyAgg Try.prog 201 = some (some 3) := by kernel_rfl
theorem ts_201 : tySize Try.prog 201 = some 3 := by kernel_rfl
theorem fo_201_0 : fldOff Try.prog 201 0 = some 0 := by kernel_rfl
theorem fo_201_1 : fldOff Try.prog 201 1 = some 1 := by kernel_rfl
theorem fo_201_2 : fldOff Try.prog 201 2 = some 2 := by kernel_rfl
theorem zc_201 : zeroOf Try.prog 201 = some (.agg #[.string ByteArray.empty, .string ByteArray.empty, .int .i64 0]) := by kernel_rfl
theorem ti_201 : Try.prog.info? 201 = some Try.t201 := by kernel_rfl
theorem tz_201 : Try.t201.zero = some (.agg #[.string ByteArray.empty, .string ByteArray.empty, .int .i64 0]) := by kernel_rfl
theorem bu_201 : BuTy Try.prog 201 [(0, 1), (1, 1), (2, 1)] [.string ByteArray.empty, .string ByteArray.empty, .int .i64 0] := ⟨_, _, Try.underlying201, zc_201, rfl, by kernel_rfl⟩
theorem ba_45 : BuArr Try.prog 45 1 [.string ByteArray.empty, .string ByteArray.empty] := ⟨_, _, _, _, Try.underlying45, zc_45, rfl, ti_9, rfl⟩
theorem ba_51 : BuArr Try.prog 51 1 [.int .i64 0, .int .i64 0] := ⟨_, _, _, _, Try.underlying51, zc_51, rfl, ti_3, rfl⟩
theorem ba_178 : BuArr Try.prog 178 1 [] := ⟨_, _, _, _, Try.underlying178, zc_178, rfl, ti_16, rfl⟩
theorem fn_3 : Fun Try.prog 3 := ⟨_, Try.func3, by kernel_rfl, by kernel_rfl⟩
theorem fn_4 : Fun Try.prog 4 := ⟨_, Try.func4, by kernel_rfl, by kernel_rfl⟩
theorem fn_5 : Fun Try.prog 5 := ⟨_, Try.func5, by kernel_rfl, by kernel_rfl⟩
theorem fn_6 : Fun Try.prog 6 := ⟨_, Try.func6, by kernel_rfl, by kernel_rfl⟩
theorem fn_7 : Fun Try.prog 7 := ⟨_, Try.func7, by kernel_rfl, by kernel_rfl⟩
theorem fn_8 : Fun Try.prog 8 := ⟨_, Try.func8, by kernel_rfl, by kernel_rfl⟩
theorem fn_9 : Fun Try.prog 9 := ⟨_, Try.func9, by kernel_rfl, by kernel_rfl⟩
theorem fn_10 : Fun Try.prog 10 := ⟨_, Try.func10, by kernel_rfl, by kernel_rfl⟩
theorem fn_11 : Fun Try.prog 11 := ⟨_, Try.func11, by kernel_rfl, by kernel_rfl⟩
theorem fn_12 : Fun Try.prog 12 := ⟨_, Try.func12, by kernel_rfl, by kernel_rfl⟩
theorem fn_13 : Fun Try.prog 13 := ⟨_, Try.func13, by kernel_rfl, by kernel_rfl⟩
theorem fn_14 : Fun Try.prog 14 := ⟨_, Try.func14, by kernel_rfl, by kernel_rfl⟩
theorem fn_15 : Fun Try.prog 15 := ⟨_, Try.func15, by kernel_rfl, by kernel_rfl⟩
theorem fn_16 : Fun Try.prog 16 := ⟨_, Try.func16, by kernel_rfl, by kernel_rfl⟩
theorem fn_17 : Fun Try.prog 17 := ⟨_, Try.func17, by kernel_rfl, by kernel_rfl⟩
theorem fn_18 : Fun Try.prog 18 := ⟨_, Try.func18, by kernel_rfl, by kernel_rfl⟩
theorem fn_19 : Fun Try.prog 19 := ⟨_, Try.func19, by kernel_rfl, by kernel_rfl⟩
theorem fn_20 : Fun Try.prog 20 := ⟨_, Try.func20, by kernel_rfl, by kernel_rfl⟩
theorem fn_21 : Fun Try.prog 21 := ⟨_, Try.func21, by kernel_rfl, by kernel_rfl⟩
theorem fn_22 : Fun Try.prog 22 := ⟨_, Try.func22, by kernel_rfl, by kernel_rfl⟩
theorem fn_23 : Fun Try.prog 23 := ⟨_, Try.func23, by kernel_rfl, by kernel_rfl⟩
theorem fn_24 : Fun Try.prog 24 := ⟨_, Try.func24, by kernel_rfl, by kernel_rfl⟩
theorem fn_25 : Fun Try.prog 25 := ⟨_, Try.func25, by kernel_rfl, by kernel_rfl⟩
theorem fn_26 : Fun Try.prog 26 := ⟨_, Try.func26, by kernel_rfl, by kernel_rfl⟩
theorem fn_27 : Fun Try.prog 27 := ⟨_, Try.func27, by kernel_rfl, by kernel_rfl⟩
theorem fn_28 : Fun Try.prog 28 := ⟨_, Try.func28, by kernel_rfl, by kernel_rfl⟩
theorem fn_29 : Fun Try.prog 29 := ⟨_, Try.func29, by kernel_rfl, by kernel_rfl⟩
theorem fn_30 : Fun Try.prog 30 := ⟨_, Try.func30, by kernel_rfl, by kernel_rfl⟩
theorem fn_31 : Fun Try.prog 31 := ⟨_, Try.func31, by kernel_rfl, by kernel_rfl⟩
theorem fn_32 : Fun Try.prog 32 := ⟨_, Try.func32, by kernel_rfl, by kernel_rfl⟩
theorem fn_33 : Fun Try.prog 33 := ⟨_, Try.func33, by kernel_rfl, by kernel_rfl⟩
theorem fn_34 : Fun Try.prog 34 := ⟨_, Try.func34, by kernel_rfl, by kernel_rfl⟩
theorem fn_35 : Fun Try.prog 35 := ⟨_, Try.func35, by kernel_rfl, by kernel_rfl⟩
theorem fn_36 : Fun Try.prog 36 := ⟨_, Try.func36, by kernel_rfl, by kernel_rfl⟩
theorem fn_37 : Fun Try.prog 37 := ⟨_, Try.func37, by kernel_rfl, by kernel_rfl⟩
theorem fn_38 : Fun Try.prog 38 := ⟨_, Try.func38, by kernel_rfl, by kernel_rfl⟩
theorem fn_39 : Fun Try.prog 39 := ⟨_, Try.func39, by kernel_rfl, by kernel_rfl⟩
theorem fn_40 : Fun Try.prog 40 := ⟨_, Try.func40, by kernel_rfl, by kernel_rfl⟩
theorem fn_41 : Fun Try.prog 41 := ⟨_, Try.func41, by kernel_rfl, by kernel_rfl⟩
theorem fn_42 : Fun Try.prog 42 := ⟨_, Try.func42, by kernel_rfl, by kernel_rfl⟩
theorem fn_43 : Fun Try.prog 43 := ⟨_, Try.func43, by kernel_rfl, by kernel_rfl⟩
theorem fn_44 : Fun Try.prog 44 := ⟨_, Try.func44, by kernel_rfl, by kernel_rfl⟩
theorem fn_45 : Fun Try.prog 45 := ⟨_, Try.func45, by kernel_rfl, by kernel_rfl⟩
theorem fn_46 : Fun Try.prog 46 := ⟨_, Try.func46, by kernel_rfl, by kernel_rfl⟩
theorem fn_47 : Fun Try.prog 47 := ⟨_, Try.func47, by kernel_rfl, by kernel_rfl⟩
theorem fn_48 : Fun Try.prog 48 := ⟨_, Try.func48, by kernel_rfl, by kernel_rfl⟩
theorem fn_49 : Fun Try.prog 49 := ⟨_, Try.func49, by kernel_rfl, by kernel_rfl⟩
theorem fn_50 : Fun Try.prog 50 := ⟨_, Try.func50, by kernel_rfl, by kernel_rfl⟩
theorem fn_51 : Fun Try.prog 51 := ⟨_, Try.func51, by kernel_rfl, by kernel_rfl⟩
theorem fn_52 : Fun Try.prog 52 := ⟨_, Try.func52, by kernel_rfl, by kernel_rfl⟩
theorem fn_53 : Fun Try.prog 53 := ⟨_, Try.func53, by kernel_rfl, by kernel_rfl⟩
theorem fn_54 : Fun Try.prog 54 := ⟨_, Try.func54, by kernel_rfl, by kernel_rfl⟩
theorem fn_55 : Fun Try.prog 55 := ⟨_, Try.func55, by kernel_rfl, by kernel_rfl⟩
theorem fn_56 : Fun Try.prog 56 := ⟨_, Try.func56, by kernel_rfl, by kernel_rfl⟩
theorem fn_57 : Fun Try.prog 57 := ⟨_, Try.func57, by kernel_rfl, by kernel_rfl⟩
theorem fn_58 : Fun Try.prog 58 := ⟨_, Try.func58, by kernel_rfl, by kernel_rfl⟩
theorem fn_59 : Fun Try.prog 59 := ⟨_, Try.func59, by kernel_rfl, by kernel_rfl⟩
theorem fn_60 : Fun Try.prog 60 := ⟨_, Try.func60, by kernel_rfl, by kernel_rfl⟩
theorem fn_61 : Fun Try.prog 61 := ⟨_, Try.func61, by kernel_rfl, by kernel_rfl⟩
theorem fn_62 : Fun Try.prog 62 := ⟨_, Try.func62, by kernel_rfl, by kernel_rfl⟩
theorem fn_63 : Fun Try.prog 63 := ⟨_, Try.func63, by kernel_rfl, by kernel_rfl⟩
theorem fn_64 : Fun Try.prog 64 := ⟨_, Try.func64, by kernel_rfl, by kernel_rfl⟩
theorem fn_65 : Fun Try.prog 65 := ⟨_, Try.func65, by kernel_rfl, by kernel_rfl⟩
theorem fn_66 : Fun Try.prog 66 := ⟨_, Try.func66, by kernel_rfl, by kernel_rfl⟩
theorem fn_67 : Fun Try.prog 67 := ⟨_, Try.func67, by kernel_rfl, by kernel_rfl⟩
theorem fn_68 : Fun Try.prog 68 := ⟨_, Try.func68, by kernel_rfl, by kernel_rfl⟩
theorem fn_69 : Fun Try.prog 69 := ⟨_, Try.func69, by kernel_rfl, by kernel_rfl⟩
theorem fn_70 : Fun Try.prog 70 := ⟨_, Try.func70, by kernel_rfl, by kernel_rfl⟩
theorem fn_71 : Fun Try.prog 71 := ⟨_, Try.func71, by kernel_rfl, by kernel_rfl⟩
theorem fn_72 : Fun Try.prog 72 := ⟨_, Try.func72, by kernel_rfl, by kernel_rfl⟩
theorem fn_73 : Fun Try.prog 73 := ⟨_, Try.func73, by kernel_rfl, by kernel_rfl⟩
theorem fn_74 : Fun Try.prog 74 := ⟨_, Try.func74, by kernel_rfl, by kernel_rfl⟩
theorem fn_75 : Fun Try.prog 75 := ⟨_, Try.func75, by kernel_rfl, by kernel_rfl⟩
theorem fn_76 : Fun Try.prog 76 := ⟨_, Try.func76, by kernel_rfl, by kernel_rfl⟩
theorem fn_77 : Fun Try.prog 77 := ⟨_, Try.func77, by kernel_rfl, by kernel_rfl⟩
theorem fn_78 : Fun Try.prog 78 := ⟨_, Try.func78, by kernel_rfl, by kernel_rfl⟩
theorem fn_79 : Fun Try.prog 79 := ⟨_, Try.func79, by kernel_rfl, by kernel_rfl⟩
theorem fn_80 : Fun Try.prog 80 := ⟨_, Try.func80, by kernel_rfl, by kernel_rfl⟩
theorem fn_81 : Fun Try.prog 81 := ⟨_, Try.func81, by kernel_rfl, by kernel_rfl⟩
theorem fn_82 : Fun Try.prog 82 := ⟨_, Try.func82, by kernel_rfl, by kernel_rfl⟩
theorem fn_83 : Fun Try.prog 83 := ⟨_, Try.func83, by kernel_rfl, by kernel_rfl⟩
theorem fn_84 : Fun Try.prog 84 := ⟨_, Try.func84, by kernel_rfl, by kernel_rfl⟩
theorem fn_85 : Fun Try.prog 85 := ⟨_, Try.func85, by kernel_rfl, by kernel_rfl⟩
theorem fn_86 : Fun Try.prog 86 := ⟨_, Try.func86, by kernel_rfl, by kernel_rfl⟩
theorem fn_87 : Fun Try.prog 87 := ⟨_, Try.func87, by kernel_rfl, by kernel_rfl⟩
theorem fn_88 : Fun Try.prog 88 := ⟨_, Try.func88, by kernel_rfl, by kernel_rfl⟩
theorem fn_89 : Fun Try.prog 89 := ⟨_, Try.func89, by kernel_rfl, by kernel_rfl⟩
theorem fn_90 : Fun Try.prog 90 := ⟨_, Try.func90, by kernel_rfl, by kernel_rfl⟩
theorem fn_91 : Fun Try.prog 91 := ⟨_, Try.func91, by kernel_rfl, by kernel_rfl⟩
theorem fn_92 : Fun Try.prog 92 := ⟨_, Try.func92, by kernel_rfl, by kernel_rfl⟩
theorem fn_93 : Fun Try.prog 93 := ⟨_, Try.func93, by kernel_rfl, by kernel_rfl⟩
theorem fn_94 : Fun Try.prog 94 := ⟨_, Try.func94, by kernel_rfl, by kernel_rfl⟩
theorem fn_95 : Fun Try.prog 95 := ⟨_, Try.func95, by kernel_rfl, by kernel_rfl⟩
theorem fn_96 : Fun Try.prog 96 := ⟨_, Try.func96, by kernel_rfl, by kernel_rfl⟩
theorem fn_97 : Fun Try.prog 97 := ⟨_, Try.func97, by kernel_rfl, by kernel_rfl⟩
theorem fn_98 : Fun Try.prog 98 := ⟨_, Try.func98, by kernel_rfl, by kernel_rfl⟩
theorem fn_99 : Fun Try.prog 99 := ⟨_, Try.func99, by kernel_rfl, by kernel_rfl⟩
theorem fn_100 : Fun Try.prog 100 := ⟨_, Try.func100, by kernel_rfl, by kernel_rfl⟩
theorem fn_101 : Fun Try.prog 101 := ⟨_, Try.func101, by kernel_rfl, by kernel_rfl⟩
theorem fn_102 : Fun Try.prog 102 := ⟨_, Try.func102, by kernel_rfl, by kernel_rfl⟩
theorem fn_103 : Fun Try.prog 103 := ⟨_, Try.func103, by kernel_rfl, by kernel_rfl⟩
theorem fn_104 : Fun Try.prog 104 := ⟨_, Try.func104, by kernel_rfl, by kernel_rfl⟩
theorem fn_105 : Fun Try.prog 105 := ⟨_, Try.func105, by kernel_rfl, by kernel_rfl⟩
theorem fn_106 : Fun Try.prog 106 := ⟨_, Try.func106, by kernel_rfl, by kernel_rfl⟩
theorem fn_107 : Fun Try.prog 107 := ⟨_, Try.func107, by kernel_rfl, by kernel_rfl⟩
theorem fn_108 : Fun Try.prog 108 := ⟨_, Try.func108, by kernel_rfl, by kernel_rfl⟩
theorem fn_109 : Fun Try.prog 109 := ⟨_, Try.func109, by kernel_rfl, by kernel_rfl⟩
theorem fn_110 : Fun Try.prog 110 := ⟨_, Try.func110, by kernel_rfl, by kernel_rfl⟩
theorem fn_111 : Fun Try.prog 111 := ⟨_, Try.func111, by kernel_rfl, by kernel_rfl⟩
theorem fn_112 : Fun Try.prog 112 := ⟨_, Try.func112, by kernel_rfl, by kernel_rfl⟩
theorem fn_113 : Fun Try.prog 113 := ⟨_, Try.func113, by kernel_rfl, by kernel_rfl⟩
theorem fn_114 : Fun Try.prog 114 := ⟨_, Try.func114, by kernel_rfl, by kernel_rfl⟩
theorem fn_115 : Fun Try.prog 115 := ⟨_, Try.func115, by kernel_rfl, by kernel_rfl⟩
theorem fn_116 : Fun Try.prog 116 := ⟨_, Try.func116, by kernel_rfl, by kernel_rfl⟩
theorem fn_117 : Fun Try.prog 117 := ⟨_, Try.func117, by kernel_rfl, by kernel_rfl⟩
theorem fn_118 : Fun Try.prog 118 := ⟨_, Try.func118, by kernel_rfl, by kernel_rfl⟩
theorem fn_119 : Fun Try.prog 119 := ⟨_, Try.func119, by kernel_rfl, by kernel_rfl⟩
theorem fn_120 : Fun Try.prog 120 := ⟨_, Try.func120, by kernel_rfl, by kernel_rfl⟩
theorem fn_121 : Fun Try.prog 121 := ⟨_, Try.func121, by kernel_rfl, by kernel_rfl⟩
theorem fn_122 : Fun Try.prog 122 := ⟨_, Try.func122, by kernel_rfl, by kernel_rfl⟩
theorem fn_123 : Fun Try.prog 123 := ⟨_, Try.func123, by kernel_rfl, by kernel_rfl⟩
theorem fn_124 : Fun Try.prog 124 := ⟨_, Try.func124, by kernel_rfl, by kernel_rfl⟩
theorem fn_125 : Fun Try.prog 125 := ⟨_, Try.func125, by kernel_rfl, by kernel_rfl⟩
theorem fn_126 : Fun Try.prog 126 := ⟨_, Try.func126, by kernel_rfl, by kernel_rfl⟩
theorem fn_127 : Fun Try.prog 127 := ⟨_, Try.func127, by kernel_rfl, by kernel_rfl⟩
theorem fn_128 : Fun Try.prog 128 := ⟨_, Try.func128, by kernel_rfl, by kernel_rfl⟩
theorem fn_129 : Fun Try.prog 129 := ⟨_, Try.func129, by kernel_rfl, by kernel_rfl⟩
theorem fn_130 : Fun Try.prog 130 := ⟨_, Try.func130, by kernel_rfl, by kernel_rfl⟩
theorem fn_131 : Fun Try.prog 131 := ⟨_, Try.func131, by kernel_rfl, by kernel_rfl⟩
theorem fn_132 : Fun Try.prog 132 := ⟨_, Try.func132, by kernel_rfl, by kernel_rfl⟩
theorem fn_133 : Fun Try.prog 133 := ⟨_, Try.func133, by kernel_rfl, by kernel_rfl⟩
theorem fn_134 : Fun Try.prog 134 := ⟨_, Try.func134, by kernel_rfl, by kernel_rfl⟩
theorem fn_135 : Fun Try.prog 135 := ⟨_, Try.func135, by kernel_rfl, by kernel_rfl⟩
theorem fn_136 : Fun Try.prog 136 := ⟨_, Try.func136, by kernel_rfl, by kernel_rfl⟩
theorem fn_137 : Fun Try.prog 137 := ⟨_, Try.func137, by kernel_rfl, by kernel_rfl⟩
theorem fn_138 : Fun Try.prog 138 := ⟨_, Try.func138, by kernel_rfl, by kernel_rfl⟩
theorem fn_139 : Fun Try.prog 139 := ⟨_, Try.func139, by kernel_rfl, by kernel_rfl⟩
theorem fn_140 : Fun Try.prog 140 := ⟨_, Try.func140, by kernel_rfl, by kernel_rfl⟩
theorem fn_141 : Fun Try.prog 141 := ⟨_, Try.func141, by kernel_rfl, by kernel_rfl⟩
theorem fn_142 : Fun Try.prog 142 := ⟨_, Try.func142, by kernel_rfl, by kernel_rfl⟩
theorem fn_143 : Fun Try.prog 143 := ⟨_, Try.func143, by kernel_rfl, by kernel_rfl⟩
theorem fn_144 : Fun Try.prog 144 := ⟨_, Try.func144, by kernel_rfl, by kernel_rfl⟩
theorem fn_145 : Fun Try.prog 145 := ⟨_, Try.func145, by kernel_rfl, by kernel_rfl⟩
theorem fn_146 : Fun Try.prog 146 := ⟨_, Try.func146, by kernel_rfl, by kernel_rfl⟩
theorem fn_147 : Fun Try.prog 147 := ⟨_, Try.func147, by kernel_rfl, by kernel_rfl⟩
theorem fn_148 : Fun Try.prog 148 := ⟨_, Try.func148, by kernel_rfl, by kernel_rfl⟩
theorem fn_149 : Fun Try.prog 149 := ⟨_, Try.func149, by kernel_rfl, by kernel_rfl⟩
theorem fn_150 : Fun Try.prog 150 := ⟨_, Try.func150, by kernel_rfl, by kernel_rfl⟩

end Go.Proofs.Ytlmeblhcipkgmaa
