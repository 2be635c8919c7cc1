/- Facts on the program's types and functions, written by program. -/
import Derived.Test.YtkaalpdfppbdeaaDoorProg
import Derived.Test.YtkaalpdfppbdeaaDoorPWy
import Derived.WalkKit
import Derived.ProofKit
namespace Go.Proofs.YtkaalpdfppbdeaaDoor
namespace PW
theorem tk_0 : tyK Tryd.prog 0 = some none := by kernel_rfl
theorem tk_1 : tyK Tryd.prog 1 = some none := by kernel_rfl
theorem zk_1 : zeroK Tryd.prog 1 = some [.nilFunc] := by kernel_rfl
theorem tk_2 : tyK Tryd.prog 2 = some none := by kernel_rfl
theorem zk_2 : zeroK Tryd.prog 2 = some [.int .i64 0] := by kernel_rfl
theorem tk_3 : tyK Tryd.prog 3 = some none := by kernel_rfl
theorem zk_3 : zeroK Tryd.prog 3 = some [.int .i64 0] := by kernel_rfl
theorem tk_4 : tyK Tryd.prog 4 = some none := by kernel_rfl
theorem zk_4 : zeroK Tryd.prog 4 = some [.bool false] := by kernel_rfl
theorem bk_4 : boolK Tryd.prog 4 = true := by kernel_rfl
theorem tk_5 : tyK Tryd.prog 5 = some none := by kernel_rfl
theorem zk_5 : zeroK Tryd.prog 5 = some [.int .u8 0] := by kernel_rfl
theorem tk_6 : tyK Tryd.prog 6 = some none := by kernel_rfl
theorem zk_6 : zeroK Tryd.prog 6 = some [.int .u8 0] := by kernel_rfl
theorem tk_7 : tyK Tryd.prog 7 = some (some 4) := by kernel_rfl
theorem fo_7_0 : fieldOff Tryd.prog 7 0 = some 0 := by kernel_rfl
theorem fo_7_1 : fieldOff Tryd.prog 7 1 = some 1 := by kernel_rfl
theorem fo_7_2 : fieldOff Tryd.prog 7 2 = some 2 := by kernel_rfl
theorem fo_7_3 : fieldOff Tryd.prog 7 3 = some 3 := by kernel_rfl
theorem st_7 : stK Tryd.prog 7 = some ([(0, 1), (1, 1), (2, 1), (3, 1)], [.int .i64 0, .int .i64 0, .bool false, .int .u8 0]) := by kernel_rfl
theorem zk_7 : zeroK Tryd.prog 7 = some [.int .i64 0, .int .i64 0, .bool false, .int .u8 0] := by kernel_rfl
theorem tk_8 : tyK Tryd.prog 8 = some (some 4) := by kernel_rfl
theorem fo_8_0 : fieldOff Tryd.prog 8 0 = some 0 := by kernel_rfl
theorem fo_8_1 : fieldOff Tryd.prog 8 1 = some 1 := by kernel_rfl
theorem fo_8_2 : fieldOff Tryd.prog 8 2 = some 2 := by kernel_rfl
theorem fo_8_3 : fieldOff Tryd.prog 8 3 = some 3 := by kernel_rfl
theorem st_8 : stK Tryd.prog 8 = some ([(0, 1), (1, 1), (2, 1), (3, 1)], [.int .i64 0, .int .i64 0, .bool false, .int .u8 0]) := by kernel_rfl
theorem zk_8 : zeroK Tryd.prog 8 = some [.int .i64 0, .int .i64 0, .bool false, .int .u8 0] := by kernel_rfl
theorem tk_9 : tyK Tryd.prog 9 = some none := by kernel_rfl
theorem zk_9 : zeroK Tryd.prog 9 = some [.string ⟨#[]⟩] := by kernel_rfl
theorem tk_10 : tyK Tryd.prog 10 = some none := by kernel_rfl
theorem zk_10 : zeroK Tryd.prog 10 = some [.string ⟨#[]⟩] := by kernel_rfl
theorem tk_11 : tyK Tryd.prog 11 = some none := by kernel_rfl
theorem zk_11 : zeroK Tryd.prog 11 = some [.string ⟨#[]⟩] := by kernel_rfl
theorem tk_12 : tyK Tryd.prog 12 = some none := by kernel_rfl
theorem zk_12 : zeroK Tryd.prog 12 = some [.int .u64 0] := by kernel_rfl
theorem tk_13 : tyK Tryd.prog 13 = some (some 2) := by kernel_rfl
theorem fo_13_0 : fieldOff Tryd.prog 13 0 = some 0 := by kernel_rfl
theorem fo_13_1 : fieldOff Tryd.prog 13 1 = some 1 := by kernel_rfl
theorem st_13 : stK Tryd.prog 13 = some ([(0, 1), (1, 1)], [.string ⟨#[]⟩, .int .u64 0]) := by kernel_rfl
theorem zk_13 : zeroK Tryd.prog 13 = some [.string ⟨#[]⟩, .int .u64 0] := by kernel_rfl
theorem tk_14 : tyK Tryd.prog 14 = some (some 2) := by kernel_rfl
theorem fo_14_0 : fieldOff Tryd.prog 14 0 = some 0 := by kernel_rfl
theorem fo_14_1 : fieldOff Tryd.prog 14 1 = some 1 := by kernel_rfl
theorem st_14 : stK Tryd.prog 14 = some ([(0, 1), (1, 1)], [.string ⟨#[]⟩, .int .u64 0]) := by kernel_rfl
theorem zk_14 : zeroK Tryd.prog 14 = some [.string ⟨#[]⟩, .int .u64 0] := by kernel_rfl
theorem tk_15 : tyK Tryd.prog 15 = some none := by kernel_rfl
theorem zk_15 : zeroK Tryd.prog 15 = some [.pointer none] := by kernel_rfl
theorem pk_15 : ptrK Tryd.prog 15 = true := by kernel_rfl
theorem tk_16 : tyK Tryd.prog 16 = some none := by kernel_rfl
theorem zk_16 : zeroK Tryd.prog 16 = some [.pointer none] := by kernel_rfl
theorem pk_16 : ptrK Tryd.prog 16 = true := by kernel_rfl
theorem tk_17 : tyK Tryd.prog 17 = some none := by kernel_rfl
theorem zk_17 : zeroK Tryd.prog 17 = some [.pointer none] := by kernel_rfl
theorem pk_17 : ptrK Tryd.prog 17 = true := by kernel_rfl
theorem tk_18 : tyK Tryd.prog 18 = some (some 1) := by kernel_rfl
theorem fo_18_0 : fieldOff Tryd.prog 18 0 = some 0 := by kernel_rfl
theorem st_18 : stK Tryd.prog 18 = some ([(0, 1)], [.pointer none]) := by kernel_rfl
theorem zk_18 : zeroK Tryd.prog 18 = some [.pointer none] := by kernel_rfl
theorem tk_19 : tyK Tryd.prog 19 = some (some 1) := by kernel_rfl
theorem fo_19_0 : fieldOff Tryd.prog 19 0 = some 0 := by kernel_rfl
theorem st_19 : stK Tryd.prog 19 = some ([(0, 1)], [.pointer none]) := by kernel_rfl
theorem zk_19 : zeroK Tryd.prog 19 = some [.pointer none] := by kernel_rfl
theorem tk_20 : tyK Tryd.prog 20 = some none := by kernel_rfl
theorem zk_20 : zeroK Tryd.prog 20 = some [.nilIface] := by kernel_rfl
theorem tk_21 : tyK Tryd.prog 21 = some none := by kernel_rfl
theorem zk_21 : zeroK Tryd.prog 21 = some [.int .i32 0] := by kernel_rfl
theorem tk_22 : tyK Tryd.prog 22 = some none := by kernel_rfl
theorem zk_22 : zeroK Tryd.prog 22 = some [.slice none 0 0] := by kernel_rfl
theorem el_22 : elK Tryd.prog 22 = some (4, 1) := by kernel_rfl
theorem sl_22 : slK Tryd.prog 22 = some (4, 1, [.bool false]) := by kernel_rfl
theorem rk_22 : rowK Tryd.prog 22 = some (4, 1, 1, [.bool false]) := by kernel_rfl
theorem tk_23 : tyK Tryd.prog 23 = some none := by kernel_rfl
theorem zk_23 : zeroK Tryd.prog 23 = some [.slice none 0 0] := by kernel_rfl
theorem el_23 : elK Tryd.prog 23 = some (56, 7) := by kernel_rfl
theorem sl_23 : slK Tryd.prog 23 = some (56, 7, [.int .i64 0, .int .i64 0, .int .i64 0, .int .i64 0, .int .i64 0, .int .i64 0, .int .i64 0]) := by kernel_rfl
theorem rk_23 : rowK Tryd.prog 23 = some (56, 7, 56, [.int .i64 0, .int .i64 0, .int .i64 0, .int .i64 0, .int .i64 0, .int .i64 0, .int .i64 0]) := by kernel_rfl
theorem tk_24 : tyK Tryd.prog 24 = some (some 3) := by kernel_rfl
theorem fo_24_0 : fieldOff Tryd.prog 24 0 = some 0 := by kernel_rfl
theorem fo_24_1 : fieldOff Tryd.prog 24 1 = some 1 := by kernel_rfl
theorem fo_24_2 : fieldOff Tryd.prog 24 2 = some 2 := by kernel_rfl
theorem st_24 : stK Tryd.prog 24 = some ([(0, 1), (1, 1), (2, 1)], [.int .i64 0, .slice none 0 0, .slice none 0 0]) := by kernel_rfl
theorem zk_24 : zeroK Tryd.prog 24 = some [.int .i64 0, .slice none 0 0, .slice none 0 0] := by kernel_rfl
theorem tk_25 : tyK Tryd.prog 25 = some (some 3) := by kernel_rfl
theorem fo_25_0 : fieldOff Tryd.prog 25 0 = some 0 := by kernel_rfl
theorem fo_25_1 : fieldOff Tryd.prog 25 1 = some 1 := by kernel_rfl
theorem fo_25_2 : fieldOff Tryd.prog 25 2 = some 2 := by kernel_rfl
theorem st_25 : stK Tryd.prog 25 = some ([(0, 1), (1, 1), (2, 1)], [.int .i64 0, .slice none 0 0, .slice none 0 0]) := by kernel_rfl
theorem zk_25 : zeroK Tryd.prog 25 = some [.int .i64 0, .slice none 0 0, .slice none 0 0] := by kernel_rfl
theorem tk_26 : tyK Tryd.prog 26 = some none := by kernel_rfl
theorem zk_26 : zeroK Tryd.prog 26 = some [.nilFunc] := by kernel_rfl
theorem tk_27 : tyK Tryd.prog 27 = some none := by kernel_rfl
theorem zk_27 : zeroK Tryd.prog 27 = some [.nilFunc] := by kernel_rfl
theorem tk_28 : tyK Tryd.prog 28 = some none := by kernel_rfl
theorem zk_28 : zeroK Tryd.prog 28 = some [.slice none 0 0] := by kernel_rfl
theorem el_28 : elK Tryd.prog 28 = some (40, 3) := by kernel_rfl
theorem sl_28 : slK Tryd.prog 28 = some (40, 3, [.slice none 0 0, .bool false, .slice none 0 0]) := by kernel_rfl
theorem rk_28 : rowK Tryd.prog 28 = some (40, 3, 56, [.slice none 0 0, .bool false, .slice none 0 0]) := by kernel_rfl
theorem tk_29 : tyK Tryd.prog 29 = some none := by kernel_rfl
theorem zk_29 : zeroK Tryd.prog 29 = some [.slice none 0 0] := by kernel_rfl
theorem el_29 : elK Tryd.prog 29 = some (3, 1) := by kernel_rfl
theorem sl_29 : slK Tryd.prog 29 = some (3, 1, [.int .i64 0]) := by kernel_rfl
theorem rk_29 : rowK Tryd.prog 29 = some (3, 1, 8, [.int .i64 0]) := by kernel_rfl
theorem tk_30 : tyK Tryd.prog 30 = some (some 3) := by kernel_rfl
theorem fo_30_0 : fieldOff Tryd.prog 30 0 = some 0 := by kernel_rfl
theorem fo_30_1 : fieldOff Tryd.prog 30 1 = some 1 := by kernel_rfl
theorem fo_30_2 : fieldOff Tryd.prog 30 2 = some 2 := by kernel_rfl
theorem st_30 : stK Tryd.prog 30 = some ([(0, 1), (1, 1), (2, 1)], [.int .i64 0, .slice none 0 0, .slice none 0 0]) := by kernel_rfl
theorem zk_30 : zeroK Tryd.prog 30 = some [.int .i64 0, .slice none 0 0, .slice none 0 0] := by kernel_rfl
theorem tk_31 : tyK Tryd.prog 31 = some (some 3) := by kernel_rfl
theorem fo_31_0 : fieldOff Tryd.prog 31 0 = some 0 := by kernel_rfl
theorem fo_31_1 : fieldOff Tryd.prog 31 1 = some 1 := by kernel_rfl
theorem fo_31_2 : fieldOff Tryd.prog 31 2 = some 2 := by kernel_rfl
theorem st_31 : stK Tryd.prog 31 = some ([(0, 1), (1, 1), (2, 1)], [.int .i64 0, .slice none 0 0, .slice none 0 0]) := by kernel_rfl
theorem zk_31 : zeroK Tryd.prog 31 = some [.int .i64 0, .slice none 0 0, .slice none 0 0] := by kernel_rfl
theorem tk_32 : tyK Tryd.prog 32 = some none := by kernel_rfl
theorem zk_32 : zeroK Tryd.prog 32 = some [.int .i64 0] := by kernel_rfl
theorem tk_33 : tyK Tryd.prog 33 = some none := by kernel_rfl
theorem tk_34 : tyK Tryd.prog 34 = some none := by kernel_rfl
theorem zk_34 : zeroK Tryd.prog 34 = some [.nilFunc] := by kernel_rfl
theorem tk_35 : tyK Tryd.prog 35 = some none := by kernel_rfl
theorem zk_35 : zeroK Tryd.prog 35 = some [.nilFunc] := by kernel_rfl
theorem tk_36 : tyK Tryd.prog 36 = some none := by kernel_rfl
theorem zk_36 : zeroK Tryd.prog 36 = some [.nilFunc] := by kernel_rfl
theorem tk_37 : tyK Tryd.prog 37 = some none := by kernel_rfl
theorem zk_37 : zeroK Tryd.prog 37 = some [.nilFunc] := by kernel_rfl
theorem tk_38 : tyK Tryd.prog 38 = some none := by kernel_rfl
theorem zk_38 : zeroK Tryd.prog 38 = some [.slice none 0 0] := by kernel_rfl
theorem el_38 : elK Tryd.prog 38 = some (42, 2) := by kernel_rfl
theorem sl_38 : slK Tryd.prog 38 = some (42, 2, [.int .i64 0, .int .i64 0]) := by kernel_rfl
theorem rk_38 : rowK Tryd.prog 38 = some (42, 2, 16, [.int .i64 0, .int .i64 0]) := by kernel_rfl
theorem tk_39 : tyK Tryd.prog 39 = some (some 3) := by kernel_rfl
theorem fo_39_0 : fieldOff Tryd.prog 39 0 = some 0 := by kernel_rfl
theorem fo_39_1 : fieldOff Tryd.prog 39 1 = some 1 := by kernel_rfl
theorem fo_39_2 : fieldOff Tryd.prog 39 2 = some 2 := by kernel_rfl
theorem st_39 : stK Tryd.prog 39 = some ([(0, 1), (1, 1), (2, 1)], [.slice none 0 0, .bool false, .slice none 0 0]) := by kernel_rfl
theorem zk_39 : zeroK Tryd.prog 39 = some [.slice none 0 0, .bool false, .slice none 0 0] := by kernel_rfl
theorem tk_40 : tyK Tryd.prog 40 = some (some 3) := by kernel_rfl
theorem fo_40_0 : fieldOff Tryd.prog 40 0 = some 0 := by kernel_rfl
theorem fo_40_1 : fieldOff Tryd.prog 40 1 = some 1 := by kernel_rfl
theorem fo_40_2 : fieldOff Tryd.prog 40 2 = some 2 := by kernel_rfl
theorem st_40 : stK Tryd.prog 40 = some ([(0, 1), (1, 1), (2, 1)], [.slice none 0 0, .bool false, .slice none 0 0]) := by kernel_rfl
theorem zk_40 : zeroK Tryd.prog 40 = some [.slice none 0 0, .bool false, .slice none 0 0] := by kernel_rfl
theorem tk_41 : tyK Tryd.prog 41 = some (some 2) := by kernel_rfl
theorem fo_41_0 : fieldOff Tryd.prog 41 0 = some 0 := by kernel_rfl
theorem fo_41_1 : fieldOff Tryd.prog 41 1 = some 1 := by kernel_rfl
theorem st_41 : stK Tryd.prog 41 = some ([(0, 1), (1, 1)], [.int .i64 0, .int .i64 0]) := by kernel_rfl
theorem zk_41 : zeroK Tryd.prog 41 = some [.int .i64 0, .int .i64 0] := by kernel_rfl
theorem tk_42 : tyK Tryd.prog 42 = some (some 2) := by kernel_rfl
theorem fo_42_0 : fieldOff Tryd.prog 42 0 = some 0 := by kernel_rfl
theorem fo_42_1 : fieldOff Tryd.prog 42 1 = some 1 := by kernel_rfl
theorem st_42 : stK Tryd.prog 42 = some ([(0, 1), (1, 1)], [.int .i64 0, .int .i64 0]) := by kernel_rfl
theorem zk_42 : zeroK Tryd.prog 42 = some [.int .i64 0, .int .i64 0] := by kernel_rfl
theorem tk_43 : tyK Tryd.prog 43 = some none := by kernel_rfl
theorem zk_43 : zeroK Tryd.prog 43 = some [.nilFunc] := by kernel_rfl
theorem tk_44 : tyK Tryd.prog 44 = some none := by kernel_rfl
theorem zk_44 : zeroK Tryd.prog 44 = some [.nilFunc] := by kernel_rfl
theorem tk_45 : tyK Tryd.prog 45 = some none := by kernel_rfl
theorem zk_45 : zeroK Tryd.prog 45 = some [.nilFunc] := by kernel_rfl
theorem tk_46 : tyK Tryd.prog 46 = some none := by kernel_rfl
theorem tk_47 : tyK Tryd.prog 47 = some none := by kernel_rfl
theorem zk_47 : zeroK Tryd.prog 47 = some [.nilFunc] := by kernel_rfl
theorem tk_48 : tyK Tryd.prog 48 = some none := by kernel_rfl
theorem zk_48 : zeroK Tryd.prog 48 = some [.nilFunc] := by kernel_rfl
theorem tk_49 : tyK Tryd.prog 49 = some none := by kernel_rfl
theorem zk_49 : zeroK Tryd.prog 49 = some [.nilFunc] := by kernel_rfl
theorem tk_50 : tyK Tryd.prog 50 = some none := by kernel_rfl
theorem zk_50 : zeroK Tryd.prog 50 = some [.nilFunc] := by kernel_rfl
theorem tk_51 : tyK Tryd.prog 51 = some none := by kernel_rfl
theorem zk_51 : zeroK Tryd.prog 51 = some [.slice none 0 0] := by kernel_rfl
theorem el_51 : elK Tryd.prog 51 = some (31, 3) := by kernel_rfl
theorem sl_51 : slK Tryd.prog 51 = some (31, 3, [.int .i64 0, .slice none 0 0, .slice none 0 0]) := by kernel_rfl
theorem rk_51 : rowK Tryd.prog 51 = some (31, 3, 56, [.int .i64 0, .slice none 0 0, .slice none 0 0]) := by kernel_rfl
theorem tk_52 : tyK Tryd.prog 52 = some none := by kernel_rfl
theorem tk_53 : tyK Tryd.prog 53 = some none := by kernel_rfl
theorem zk_53 : zeroK Tryd.prog 53 = some [.nilFunc] := by kernel_rfl
theorem tk_54 : tyK Tryd.prog 54 = some (some 2) := by kernel_rfl
theorem zk_54 : zeroK Tryd.prog 54 = some [.int .i64 0, .int .i64 0] := by kernel_rfl
theorem ar_54 : arK Tryd.prog 54 = some (2, 1) := by kernel_rfl
theorem tk_55 : tyK Tryd.prog 55 = some (some 7) := by kernel_rfl
theorem fo_55_0 : fieldOff Tryd.prog 55 0 = some 0 := by kernel_rfl
theorem fo_55_1 : fieldOff Tryd.prog 55 1 = some 1 := by kernel_rfl
theorem fo_55_2 : fieldOff Tryd.prog 55 2 = some 2 := by kernel_rfl
theorem fo_55_3 : fieldOff Tryd.prog 55 3 = some 4 := by kernel_rfl
theorem fo_55_4 : fieldOff Tryd.prog 55 4 = some 5 := by kernel_rfl
theorem fo_55_5 : fieldOff Tryd.prog 55 5 = some 6 := by kernel_rfl
theorem st_55 : stK Tryd.prog 55 = some ([(0, 1), (1, 1), (2, 2), (4, 1), (5, 1), (6, 1)], [.int .i64 0, .int .i64 0, .int .i64 0, .int .i64 0, .int .i64 0, .int .i64 0, .int .i64 0]) := by kernel_rfl
theorem zk_55 : zeroK Tryd.prog 55 = some [.int .i64 0, .int .i64 0, .int .i64 0, .int .i64 0, .int .i64 0, .int .i64 0, .int .i64 0] := by kernel_rfl
theorem tk_56 : tyK Tryd.prog 56 = some (some 7) := by kernel_rfl
theorem fo_56_0 : fieldOff Tryd.prog 56 0 = some 0 := by kernel_rfl
theorem fo_56_1 : fieldOff Tryd.prog 56 1 = some 1 := by kernel_rfl
theorem fo_56_2 : fieldOff Tryd.prog 56 2 = some 2 := by kernel_rfl
theorem fo_56_3 : fieldOff Tryd.prog 56 3 = some 4 := by kernel_rfl
theorem fo_56_4 : fieldOff Tryd.prog 56 4 = some 5 := by kernel_rfl
theorem fo_56_5 : fieldOff Tryd.prog 56 5 = some 6 := by kernel_rfl
theorem st_56 : stK Tryd.prog 56 = some ([(0, 1), (1, 1), (2, 2), (4, 1), (5, 1), (6, 1)], [.int .i64 0, .int .i64 0, .int .i64 0, .int .i64 0, .int .i64 0, .int .i64 0, .int .i64 0]) := by kernel_rfl
theorem zk_56 : zeroK Tryd.prog 56 = some [.int .i64 0, .int .i64 0, .int .i64 0, .int .i64 0, .int .i64 0, .int .i64 0, .int .i64 0] := by kernel_rfl
theorem tk_57 : tyK Tryd.prog 57 = some none := by kernel_rfl
theorem zk_57 : zeroK Tryd.prog 57 = some [.nilFunc] := by kernel_rfl
theorem tk_58 : tyK Tryd.prog 58 = some none := by kernel_rfl
theorem zk_58 : zeroK Tryd.prog 58 = some [.nilFunc] := by kernel_rfl
theorem tk_59 : tyK Tryd.prog 59 = some none := by kernel_rfl
theorem zk_59 : zeroK Tryd.prog 59 = some [.nilFunc] := by kernel_rfl
theorem tk_60 : tyK Tryd.prog 60 = some none := by kernel_rfl
theorem zk_60 : zeroK Tryd.prog 60 = some [.nilFunc] := by kernel_rfl
theorem tk_61 : tyK Tryd.prog 61 = some none := by kernel_rfl
theorem zk_61 : zeroK Tryd.prog 61 = some [.nilFunc] := by kernel_rfl
theorem tk_62 : tyK Tryd.prog 62 = some none := by kernel_rfl
theorem zk_62 : zeroK Tryd.prog 62 = some [.nilFunc] := by kernel_rfl
theorem tk_63 : tyK Tryd.prog 63 = some (some 5) := by kernel_rfl
theorem zk_63 : zeroK Tryd.prog 63 = some [.string ⟨#[]⟩, .string ⟨#[]⟩, .string ⟨#[]⟩, .string ⟨#[]⟩, .string ⟨#[]⟩] := by kernel_rfl
theorem ar_63 : arK Tryd.prog 63 = some (5, 1) := by kernel_rfl
theorem tk_64 : tyK Tryd.prog 64 = some none := by kernel_rfl
theorem zk_64 : zeroK Tryd.prog 64 = some [.nilFunc] := by kernel_rfl
theorem tk_65 : tyK Tryd.prog 65 = some none := by kernel_rfl
theorem zk_65 : zeroK Tryd.prog 65 = some [.pointer none] := by kernel_rfl
theorem pk_65 : ptrK Tryd.prog 65 = true := by kernel_rfl
theorem tk_66 : tyK Tryd.prog 66 = some none := by kernel_rfl
theorem zk_66 : zeroK Tryd.prog 66 = some [.slice none 0 0] := by kernel_rfl
theorem el_66 : elK Tryd.prog 66 = some (5, 1) := by kernel_rfl
theorem sl_66 : slK Tryd.prog 66 = some (5, 1, [.int .u8 0]) := by kernel_rfl
theorem rk_66 : rowK Tryd.prog 66 = some (5, 1, 1, [.int .u8 0]) := by kernel_rfl
theorem tk_67 : tyK Tryd.prog 67 = some (some 2) := by kernel_rfl
theorem fo_67_0 : fieldOff Tryd.prog 67 0 = some 0 := by kernel_rfl
theorem fo_67_1 : fieldOff Tryd.prog 67 1 = some 1 := by kernel_rfl
theorem st_67 : stK Tryd.prog 67 = some ([(0, 1), (1, 1)], [.pointer none, .slice none 0 0]) := by kernel_rfl
theorem zk_67 : zeroK Tryd.prog 67 = some [.pointer none, .slice none 0 0] := by kernel_rfl
theorem tk_68 : tyK Tryd.prog 68 = some (some 2) := by kernel_rfl
theorem fo_68_0 : fieldOff Tryd.prog 68 0 = some 0 := by kernel_rfl
theorem fo_68_1 : fieldOff Tryd.prog 68 1 = some 1 := by kernel_rfl
theorem st_68 : stK Tryd.prog 68 = some ([(0, 1), (1, 1)], [.pointer none, .slice none 0 0]) := by kernel_rfl
theorem zk_68 : zeroK Tryd.prog 68 = some [.pointer none, .slice none 0 0] := by kernel_rfl
theorem tk_69 : tyK Tryd.prog 69 = some none := by kernel_rfl
theorem zk_69 : zeroK Tryd.prog 69 = some [.nilFunc] := by kernel_rfl
theorem tk_70 : tyK Tryd.prog 70 = some none := by kernel_rfl
theorem zk_70 : zeroK Tryd.prog 70 = some [.slice none 0 0] := by kernel_rfl
theorem el_70 : elK Tryd.prog 70 = some (9, 1) := by kernel_rfl
theorem sl_70 : slK Tryd.prog 70 = some (9, 1, [.string ⟨#[]⟩]) := by kernel_rfl
theorem rk_70 : rowK Tryd.prog 70 = some (9, 1, 16, [.string ⟨#[]⟩]) := by kernel_rfl
theorem tk_71 : tyK Tryd.prog 71 = some none := by kernel_rfl
theorem zk_71 : zeroK Tryd.prog 71 = some [.nilFunc] := by kernel_rfl
theorem tk_72 : tyK Tryd.prog 72 = some none := by kernel_rfl
theorem zk_72 : zeroK Tryd.prog 72 = some [.nilFunc] := by kernel_rfl
theorem tk_73 : tyK Tryd.prog 73 = some none := by kernel_rfl
theorem zk_73 : zeroK Tryd.prog 73 = some [.nilFunc] := by kernel_rfl
theorem tk_74 : tyK Tryd.prog 74 = some none := by kernel_rfl
theorem zk_74 : zeroK Tryd.prog 74 = some [.nilFunc] := by kernel_rfl
theorem tk_75 : tyK Tryd.prog 75 = some none := by kernel_rfl
theorem zk_75 : zeroK Tryd.prog 75 = some [.nilFunc] := by kernel_rfl
theorem tk_76 : tyK Tryd.prog 76 = some none := by kernel_rfl
theorem zk_76 : zeroK Tryd.prog 76 = some [.nilFunc] := by kernel_rfl
theorem tk_77 : tyK Tryd.prog 77 = some none := by kernel_rfl
theorem zk_77 : zeroK Tryd.prog 77 = some [.nilFunc] := by kernel_rfl
theorem tk_78 : tyK Tryd.prog 78 = some none := by kernel_rfl
theorem zk_78 : zeroK Tryd.prog 78 = some [.nilFunc] := by kernel_rfl
theorem tk_79 : tyK Tryd.prog 79 = some none := by kernel_rfl
theorem zk_79 : zeroK Tryd.prog 79 = some [.nilFunc] := by kernel_rfl
theorem tk_80 : tyK Tryd.prog 80 = some none := by kernel_rfl
theorem zk_80 : zeroK Tryd.prog 80 = some [.nilFunc] := by kernel_rfl
theorem tk_81 : tyK Tryd.prog 81 = some none := by kernel_rfl
theorem zk_81 : zeroK Tryd.prog 81 = some [.nilFunc] := by kernel_rfl
theorem tk_82 : tyK Tryd.prog 82 = some none := by kernel_rfl
theorem zk_82 : zeroK Tryd.prog 82 = some [.pointer none] := by kernel_rfl
theorem pk_82 : ptrK Tryd.prog 82 = true := by kernel_rfl
theorem tk_83 : tyK Tryd.prog 83 = some none := by kernel_rfl
theorem zk_83 : zeroK Tryd.prog 83 = some [.nilFunc] := by kernel_rfl
theorem tk_84 : tyK Tryd.prog 84 = some none := by kernel_rfl
theorem zk_84 : zeroK Tryd.prog 84 = some [.nilFunc] := by kernel_rfl
theorem tk_85 : tyK Tryd.prog 85 = some none := by kernel_rfl
theorem zk_85 : zeroK Tryd.prog 85 = some [.nilFunc] := by kernel_rfl
theorem tk_86 : tyK Tryd.prog 86 = some none := by kernel_rfl
theorem zk_86 : zeroK Tryd.prog 86 = some [.int .u64 0] := by kernel_rfl
theorem tk_87 : tyK Tryd.prog 87 = some none := by kernel_rfl
theorem zk_87 : zeroK Tryd.prog 87 = some [.nilIface] := by kernel_rfl
theorem tk_88 : tyK Tryd.prog 88 = some none := by kernel_rfl
theorem zk_88 : zeroK Tryd.prog 88 = some [.nilIface] := by kernel_rfl
theorem tk_89 : tyK Tryd.prog 89 = some none := by kernel_rfl
theorem tk_90 : tyK Tryd.prog 90 = some none := by kernel_rfl
theorem zk_90 : zeroK Tryd.prog 90 = some [.nilFunc] := by kernel_rfl
theorem tk_91 : tyK Tryd.prog 91 = some none := by kernel_rfl
theorem zk_91 : zeroK Tryd.prog 91 = some [.nilFunc] := by kernel_rfl
theorem tk_92 : tyK Tryd.prog 92 = some none := by kernel_rfl
theorem zk_92 : zeroK Tryd.prog 92 = some [.nilFunc] := by kernel_rfl
theorem tk_93 : tyK Tryd.prog 93 = some none := by kernel_rfl
theorem zk_93 : zeroK Tryd.prog 93 = some [.nilFunc] := by kernel_rfl
theorem tk_94 : tyK Tryd.prog 94 = some none := by kernel_rfl
theorem zk_94 : zeroK Tryd.prog 94 = some [.pointer none] := by kernel_rfl
theorem pk_94 : ptrK Tryd.prog 94 = true := by kernel_rfl
theorem tk_95 : tyK Tryd.prog 95 = some none := by kernel_rfl
theorem zk_95 : zeroK Tryd.prog 95 = some [.nilFunc] := by kernel_rfl
theorem tk_96 : tyK Tryd.prog 96 = some none := by kernel_rfl
theorem zk_96 : zeroK Tryd.prog 96 = some [.nilFunc] := by kernel_rfl
theorem tk_97 : tyK Tryd.prog 97 = some none := by kernel_rfl
theorem zk_97 : zeroK Tryd.prog 97 = some [.nilFunc] := by kernel_rfl
theorem tk_98 : tyK Tryd.prog 98 = some none := by kernel_rfl
theorem zk_98 : zeroK Tryd.prog 98 = some [.nilFunc] := by kernel_rfl
theorem tk_99 : tyK Tryd.prog 99 = some none := by kernel_rfl
theorem zk_99 : zeroK Tryd.prog 99 = some [.nilFunc] := by kernel_rfl
theorem tk_100 : tyK Tryd.prog 100 = some none := by kernel_rfl
theorem zk_100 : zeroK Tryd.prog 100 = some [.slice none 0 0] := by kernel_rfl
theorem el_100 : elK Tryd.prog 100 = some (29, 1) := by kernel_rfl
theorem sl_100 : slK Tryd.prog 100 = some (29, 1, [.slice none 0 0]) := by kernel_rfl
theorem rk_100 : rowK Tryd.prog 100 = some (29, 1, 24, [.slice none 0 0]) := by kernel_rfl
theorem tk_101 : tyK Tryd.prog 101 = some none := by kernel_rfl
theorem zk_101 : zeroK Tryd.prog 101 = some [.nilFunc] := by kernel_rfl
theorem tk_102 : tyK Tryd.prog 102 = some none := by kernel_rfl
theorem zk_102 : zeroK Tryd.prog 102 = some [.nilFunc] := by kernel_rfl
theorem tk_103 : tyK Tryd.prog 103 = some none := by kernel_rfl
theorem zk_103 : zeroK Tryd.prog 103 = some [.nilFunc] := by kernel_rfl
theorem tk_104 : tyK Tryd.prog 104 = some (some 7) := by kernel_rfl
theorem fo_104_0 : fieldOff Tryd.prog 104 0 = some 0 := by kernel_rfl
theorem fo_104_1 : fieldOff Tryd.prog 104 1 = some 3 := by kernel_rfl
theorem fo_104_2 : fieldOff Tryd.prog 104 2 = some 4 := by kernel_rfl
theorem fo_104_3 : fieldOff Tryd.prog 104 3 = some 5 := by kernel_rfl
theorem fo_104_4 : fieldOff Tryd.prog 104 4 = some 6 := by kernel_rfl
theorem st_104 : stK Tryd.prog 104 = some ([(0, 3), (3, 1), (4, 1), (5, 1), (6, 1)], [.int .i64 0, .slice none 0 0, .slice none 0 0, .slice none 0 0, .int .i64 0, .nilFunc, .nilFunc]) := by kernel_rfl
theorem zk_104 : zeroK Tryd.prog 104 = some [.int .i64 0, .slice none 0 0, .slice none 0 0, .slice none 0 0, .int .i64 0, .nilFunc, .nilFunc] := by kernel_rfl
theorem tk_105 : tyK Tryd.prog 105 = some (some 7) := by kernel_rfl
theorem fo_105_0 : fieldOff Tryd.prog 105 0 = some 0 := by kernel_rfl
theorem fo_105_1 : fieldOff Tryd.prog 105 1 = some 3 := by kernel_rfl
theorem fo_105_2 : fieldOff Tryd.prog 105 2 = some 4 := by kernel_rfl
theorem fo_105_3 : fieldOff Tryd.prog 105 3 = some 5 := by kernel_rfl
theorem fo_105_4 : fieldOff Tryd.prog 105 4 = some 6 := by kernel_rfl
theorem st_105 : stK Tryd.prog 105 = some ([(0, 3), (3, 1), (4, 1), (5, 1), (6, 1)], [.int .i64 0, .slice none 0 0, .slice none 0 0, .slice none 0 0, .int .i64 0, .nilFunc, .nilFunc]) := by kernel_rfl
theorem zk_105 : zeroK Tryd.prog 105 = some [.int .i64 0, .slice none 0 0, .slice none 0 0, .slice none 0 0, .int .i64 0, .nilFunc, .nilFunc] := by kernel_rfl
theorem tk_106 : tyK Tryd.prog 106 = some none := by kernel_rfl
theorem zk_106 : zeroK Tryd.prog 106 = some [.nilFunc] := by kernel_rfl
theorem tk_107 : tyK Tryd.prog 107 = some none := by kernel_rfl
theorem zk_107 : zeroK Tryd.prog 107 = some [.pointer none] := by kernel_rfl
theorem tk_108 : tyK Tryd.prog 108 = some none := by kernel_rfl
theorem zk_108 : zeroK Tryd.prog 108 = some [.nilFunc] := by kernel_rfl
theorem tk_109 : tyK Tryd.prog 109 = some (some 24) := by kernel_rfl
theorem zk_109 : zeroK Tryd.prog 109 = some [.int .u8 0, .int .u8 0, .int .u8 0, .int .u8 0, .int .u8 0, .int .u8 0, .int .u8 0, .int .u8 0, .int .u8 0, .int .u8 0, .int .u8 0, .int .u8 0, .int .u8 0, .int .u8 0, .int .u8 0, .int .u8 0, .int .u8 0, .int .u8 0, .int .u8 0, .int .u8 0, .int .u8 0, .int .u8 0, .int .u8 0, .int .u8 0] := by kernel_rfl
theorem ar_109 : arK Tryd.prog 109 = some (24, 1) := by kernel_rfl
theorem tk_110 : tyK Tryd.prog 110 = some none := by kernel_rfl
theorem zk_110 : zeroK Tryd.prog 110 = some [.nilFunc] := by kernel_rfl
theorem tk_111 : tyK Tryd.prog 111 = some none := by kernel_rfl
theorem zk_111 : zeroK Tryd.prog 111 = some [.nilFunc] := by kernel_rfl
theorem tk_112 : tyK Tryd.prog 112 = some none := by kernel_rfl
theorem tk_113 : tyK Tryd.prog 113 = some none := by kernel_rfl
theorem zk_113 : zeroK Tryd.prog 113 = some [.nilFunc] := by kernel_rfl
theorem tk_114 : tyK Tryd.prog 114 = some none := by kernel_rfl
theorem zk_114 : zeroK Tryd.prog 114 = some [.pointer none] := by kernel_rfl
theorem pk_114 : ptrK Tryd.prog 114 = true := by kernel_rfl
theorem tk_115 : tyK Tryd.prog 115 = some none := by kernel_rfl
theorem tk_116 : tyK Tryd.prog 116 = some none := by kernel_rfl
theorem zk_116 : zeroK Tryd.prog 116 = some [.nilFunc] := by kernel_rfl
theorem tk_117 : tyK Tryd.prog 117 = some none := by kernel_rfl
theorem zk_117 : zeroK Tryd.prog 117 = some [.nilFunc] := by kernel_rfl
theorem tk_118 : tyK Tryd.prog 118 = some none := by kernel_rfl
theorem tk_119 : tyK Tryd.prog 119 = some none := by kernel_rfl
theorem zk_119 : zeroK Tryd.prog 119 = some [.nilFunc] := by kernel_rfl
theorem tk_120 : tyK Tryd.prog 120 = some none := by kernel_rfl
theorem tk_121 : tyK Tryd.prog 121 = some none := by kernel_rfl
theorem zk_121 : zeroK Tryd.prog 121 = some [.nilFunc] := by kernel_rfl
theorem tk_122 : tyK Tryd.prog 122 = some none := by kernel_rfl
theorem zk_122 : zeroK Tryd.prog 122 = some [.nilFunc] := by kernel_rfl
theorem tk_123 : tyK Tryd.prog 123 = some none := by kernel_rfl
theorem zk_123 : zeroK Tryd.prog 123 = some [.nilFunc] := by kernel_rfl
theorem tk_124 : tyK Tryd.prog 124 = some (some 20) := by kernel_rfl
theorem zk_124 : zeroK Tryd.prog 124 = some [.int .u64 0, .int .u64 0, .int .u64 0, .int .u64 0, .int .u64 0, .int .u64 0, .int .u64 0, .int .u64 0, .int .u64 0, .int .u64 0, .int .u64 0, .int .u64 0, .int .u64 0, .int .u64 0, .int .u64 0, .int .u64 0, .int .u64 0, .int .u64 0, .int .u64 0, .int .u64 0] := by kernel_rfl
theorem ar_124 : arK Tryd.prog 124 = some (20, 1) := by kernel_rfl
theorem tk_125 : tyK Tryd.prog 125 = some none := by kernel_rfl
theorem zk_125 : zeroK Tryd.prog 125 = some [.int .u32 0] := by kernel_rfl
theorem tk_126 : tyK Tryd.prog 126 = some (some 65) := by kernel_rfl
theorem ar_126 : arK Tryd.prog 126 = some (65, 1) := by kernel_rfl
theorem tk_127 : tyK Tryd.prog 127 = some none := by kernel_rfl
theorem zk_127 : zeroK Tryd.prog 127 = some [.nilFunc] := by kernel_rfl
theorem tk_128 : tyK Tryd.prog 128 = some none := by kernel_rfl
theorem zk_128 : zeroK Tryd.prog 128 = some [.int .u64 0] := by kernel_rfl
theorem tk_129 : tyK Tryd.prog 129 = some none := by kernel_rfl
theorem zk_129 : zeroK Tryd.prog 129 = some [.nilFunc] := by kernel_rfl
theorem tk_130 : tyK Tryd.prog 130 = some (some 3) := by kernel_rfl
theorem fo_130_0 : fieldOff Tryd.prog 130 0 = some 0 := by kernel_rfl
theorem fo_130_1 : fieldOff Tryd.prog 130 1 = some 1 := by kernel_rfl
theorem fo_130_2 : fieldOff Tryd.prog 130 2 = some 2 := by kernel_rfl
theorem st_130 : stK Tryd.prog 130 = some ([(0, 1), (1, 1), (2, 1)], [.slice none 0 0, .slice none 0 0, .slice none 0 0]) := by kernel_rfl
theorem zk_130 : zeroK Tryd.prog 130 = some [.slice none 0 0, .slice none 0 0, .slice none 0 0] := by kernel_rfl
theorem tk_131 : tyK Tryd.prog 131 = some (some 3) := by kernel_rfl
theorem fo_131_0 : fieldOff Tryd.prog 131 0 = some 0 := by kernel_rfl
theorem fo_131_1 : fieldOff Tryd.prog 131 1 = some 1 := by kernel_rfl
theorem fo_131_2 : fieldOff Tryd.prog 131 2 = some 2 := by kernel_rfl
theorem st_131 : stK Tryd.prog 131 = some ([(0, 1), (1, 1), (2, 1)], [.slice none 0 0, .slice none 0 0, .slice none 0 0]) := by kernel_rfl
theorem zk_131 : zeroK Tryd.prog 131 = some [.slice none 0 0, .slice none 0 0, .slice none 0 0] := by kernel_rfl
theorem tk_132 : tyK Tryd.prog 132 = some none := by kernel_rfl
theorem zk_132 : zeroK Tryd.prog 132 = some [.nilFunc] := by kernel_rfl
theorem tk_133 : tyK Tryd.prog 133 = some none := by kernel_rfl
theorem zk_133 : zeroK Tryd.prog 133 = some [.nilFunc] := by kernel_rfl
theorem tk_134 : tyK Tryd.prog 134 = some none := by kernel_rfl
theorem zk_134 : zeroK Tryd.prog 134 = some [.nilFunc] := by kernel_rfl
theorem tk_135 : tyK Tryd.prog 135 = some (some 32) := by kernel_rfl
theorem zk_135 : zeroK Tryd.prog 135 = some [.int .u8 0, .int .u8 0, .int .u8 0, .int .u8 0, .int .u8 0, .int .u8 0, .int .u8 0, .int .u8 0, .int .u8 0, .int .u8 0, .int .u8 0, .int .u8 0, .int .u8 0, .int .u8 0, .int .u8 0, .int .u8 0, .int .u8 0, .int .u8 0, .int .u8 0, .int .u8 0, .int .u8 0, .int .u8 0, .int .u8 0, .int .u8 0, .int .u8 0, .int .u8 0, .int .u8 0, .int .u8 0, .int .u8 0, .int .u8 0, .int .u8 0, .int .u8 0] := by kernel_rfl
theorem ar_135 : arK Tryd.prog 135 = some (32, 1) := by kernel_rfl
theorem tk_136 : tyK Tryd.prog 136 = some (some 64) := by kernel_rfl
theorem ar_136 : arK Tryd.prog 136 = some (64, 1) := by kernel_rfl
theorem tk_137 : tyK Tryd.prog 137 = some (some 4) := by kernel_rfl
theorem fo_137_0 : fieldOff Tryd.prog 137 0 = some 0 := by kernel_rfl
theorem fo_137_1 : fieldOff Tryd.prog 137 1 = some 1 := by kernel_rfl
theorem fo_137_2 : fieldOff Tryd.prog 137 2 = some 2 := by kernel_rfl
theorem fo_137_3 : fieldOff Tryd.prog 137 3 = some 3 := by kernel_rfl
theorem st_137 : stK Tryd.prog 137 = some ([(0, 1), (1, 1), (2, 1), (3, 1)], [.pointer none, .pointer none, .pointer none, .string ⟨#[]⟩]) := by kernel_rfl
theorem zk_137 : zeroK Tryd.prog 137 = some [.pointer none, .pointer none, .pointer none, .string ⟨#[]⟩] := by kernel_rfl
theorem tk_138 : tyK Tryd.prog 138 = some (some 4) := by kernel_rfl
theorem fo_138_0 : fieldOff Tryd.prog 138 0 = some 0 := by kernel_rfl
theorem fo_138_1 : fieldOff Tryd.prog 138 1 = some 1 := by kernel_rfl
theorem fo_138_2 : fieldOff Tryd.prog 138 2 = some 2 := by kernel_rfl
theorem fo_138_3 : fieldOff Tryd.prog 138 3 = some 3 := by kernel_rfl
theorem st_138 : stK Tryd.prog 138 = some ([(0, 1), (1, 1), (2, 1), (3, 1)], [.pointer none, .pointer none, .pointer none, .string ⟨#[]⟩]) := by kernel_rfl
theorem zk_138 : zeroK Tryd.prog 138 = some [.pointer none, .pointer none, .pointer none, .string ⟨#[]⟩] := by kernel_rfl
theorem tk_139 : tyK Tryd.prog 139 = some (some 0) := by kernel_rfl
theorem zk_139 : zeroK Tryd.prog 139 = some [] := by kernel_rfl
theorem ar_139 : arK Tryd.prog 139 = some (0, 1) := by kernel_rfl
theorem tk_140 : tyK Tryd.prog 140 = some (some 0) := by kernel_rfl
theorem st_140 : stK Tryd.prog 140 = some ([(0, 0)], []) := by kernel_rfl
theorem zk_140 : zeroK Tryd.prog 140 = some [] := by kernel_rfl
theorem tk_141 : tyK Tryd.prog 141 = some (some 0) := by kernel_rfl
theorem st_141 : stK Tryd.prog 141 = some ([(0, 0)], []) := by kernel_rfl
theorem zk_141 : zeroK Tryd.prog 141 = some [] := by kernel_rfl
theorem tk_142 : tyK Tryd.prog 142 = some none := by kernel_rfl
theorem zk_142 : zeroK Tryd.prog 142 = some [.nilFunc] := by kernel_rfl
theorem tk_143 : tyK Tryd.prog 143 = some none := by kernel_rfl
theorem zk_143 : zeroK Tryd.prog 143 = some [.int .u8 0] := by kernel_rfl
theorem tk_144 : tyK Tryd.prog 144 = some none := by kernel_rfl
theorem zk_144 : zeroK Tryd.prog 144 = some [.int .u8 0] := by kernel_rfl
theorem tk_145 : tyK Tryd.prog 145 = some none := by kernel_rfl
theorem zk_145 : zeroK Tryd.prog 145 = some [.nilFunc] := by kernel_rfl
theorem tk_146 : tyK Tryd.prog 146 = some none := by kernel_rfl
theorem zk_146 : zeroK Tryd.prog 146 = some [.int .i32 0] := by kernel_rfl
theorem tk_147 : tyK Tryd.prog 147 = some none := by kernel_rfl
theorem zk_147 : zeroK Tryd.prog 147 = some [.int .i32 0] := by kernel_rfl
theorem tk_148 : tyK Tryd.prog 148 = some (some 11) := by kernel_rfl
theorem fo_148_0 : fieldOff Tryd.prog 148 0 = some 0 := by kernel_rfl
theorem fo_148_1 : fieldOff Tryd.prog 148 1 = some 1 := by kernel_rfl
theorem fo_148_2 : fieldOff Tryd.prog 148 2 = some 2 := by kernel_rfl
theorem fo_148_3 : fieldOff Tryd.prog 148 3 = some 3 := by kernel_rfl
theorem fo_148_4 : fieldOff Tryd.prog 148 4 = some 4 := by kernel_rfl
theorem fo_148_5 : fieldOff Tryd.prog 148 5 = some 5 := by kernel_rfl
theorem fo_148_6 : fieldOff Tryd.prog 148 6 = some 6 := by kernel_rfl
theorem fo_148_7 : fieldOff Tryd.prog 148 7 = some 7 := by kernel_rfl
theorem fo_148_8 : fieldOff Tryd.prog 148 8 = some 8 := by kernel_rfl
theorem fo_148_9 : fieldOff Tryd.prog 148 9 = some 9 := by kernel_rfl
theorem fo_148_10 : fieldOff Tryd.prog 148 10 = some 10 := by kernel_rfl
theorem st_148 : stK Tryd.prog 148 = some ([(0, 1), (1, 1), (2, 1), (3, 1), (4, 1), (5, 1), (6, 1), (7, 1), (8, 1), (9, 1), (10, 1)], [.int .u64 0, .int .u64 0, .int .u32 0, .int .u8 0, .int .u8 0, .int .u8 0, .int .u8 0, .nilFunc, .pointer none, .int .i32 0, .int .i32 0]) := by kernel_rfl
theorem zk_148 : zeroK Tryd.prog 148 = some [.int .u64 0, .int .u64 0, .int .u32 0, .int .u8 0, .int .u8 0, .int .u8 0, .int .u8 0, .nilFunc, .pointer none, .int .i32 0, .int .i32 0] := by kernel_rfl
theorem tk_149 : tyK Tryd.prog 149 = some (some 11) := by kernel_rfl
theorem fo_149_0 : fieldOff Tryd.prog 149 0 = some 0 := by kernel_rfl
theorem fo_149_1 : fieldOff Tryd.prog 149 1 = some 1 := by kernel_rfl
theorem fo_149_2 : fieldOff Tryd.prog 149 2 = some 2 := by kernel_rfl
theorem fo_149_3 : fieldOff Tryd.prog 149 3 = some 3 := by kernel_rfl
theorem fo_149_4 : fieldOff Tryd.prog 149 4 = some 4 := by kernel_rfl
theorem fo_149_5 : fieldOff Tryd.prog 149 5 = some 5 := by kernel_rfl
theorem fo_149_6 : fieldOff Tryd.prog 149 6 = some 6 := by kernel_rfl
theorem fo_149_7 : fieldOff Tryd.prog 149 7 = some 7 := by kernel_rfl
theorem fo_149_8 : fieldOff Tryd.prog 149 8 = some 8 := by kernel_rfl
theorem fo_149_9 : fieldOff Tryd.prog 149 9 = some 9 := by kernel_rfl
theorem fo_149_10 : fieldOff Tryd.prog 149 10 = some 10 := by kernel_rfl
theorem st_149 : stK Tryd.prog 149 = some ([(0, 1), (1, 1), (2, 1), (3, 1), (4, 1), (5, 1), (6, 1), (7, 1), (8, 1), (9, 1), (10, 1)], [.int .u64 0, .int .u64 0, .int .u32 0, .int .u8 0, .int .u8 0, .int .u8 0, .int .u8 0, .nilFunc, .pointer none, .int .i32 0, .int .i32 0]) := by kernel_rfl
theorem zk_149 : zeroK Tryd.prog 149 = some [.int .u64 0, .int .u64 0, .int .u32 0, .int .u8 0, .int .u8 0, .int .u8 0, .int .u8 0, .nilFunc, .pointer none, .int .i32 0, .int .i32 0] := by kernel_rfl
theorem en_2 : enters Tryd.prog 2 = true := by kernel_rfl
theorem en_3 : enters Tryd.prog 3 = true := by kernel_rfl
theorem en_4 : enters Tryd.prog 4 = true := by kernel_rfl
theorem en_5 : enters Tryd.prog 5 = true := by kernel_rfl
theorem en_6 : enters Tryd.prog 6 = true := by kernel_rfl
theorem en_7 : enters Tryd.prog 7 = true := by kernel_rfl
theorem en_8 : enters Tryd.prog 8 = true := by kernel_rfl
theorem en_9 : enters Tryd.prog 9 = true := by kernel_rfl
theorem en_10 : enters Tryd.prog 10 = true := by kernel_rfl
theorem en_11 : enters Tryd.prog 11 = true := by kernel_rfl
theorem en_12 : enters Tryd.prog 12 = true := by kernel_rfl
theorem en_13 : enters Tryd.prog 13 = true := by kernel_rfl
theorem en_14 : enters Tryd.prog 14 = true := by kernel_rfl
theorem en_15 : enters Tryd.prog 15 = true := by kernel_rfl
theorem en_16 : enters Tryd.prog 16 = true := by kernel_rfl
theorem en_17 : enters Tryd.prog 17 = true := by kernel_rfl
theorem en_18 : enters Tryd.prog 18 = true := by kernel_rfl
theorem en_19 : enters Tryd.prog 19 = true := by kernel_rfl
theorem en_20 : enters Tryd.prog 20 = true := by kernel_rfl
theorem en_21 : enters Tryd.prog 21 = true := by kernel_rfl
theorem en_22 : enters Tryd.prog 22 = true := by kernel_rfl
theorem en_23 : enters Tryd.prog 23 = true := by kernel_rfl
theorem en_24 : enters Tryd.prog 24 = true := by kernel_rfl
theorem en_25 : enters Tryd.prog 25 = true := by kernel_rfl
theorem en_26 : enters Tryd.prog 26 = true := by kernel_rfl
theorem en_27 : enters Tryd.prog 27 = true := by kernel_rfl
theorem en_28 : enters Tryd.prog 28 = true := by kernel_rfl
theorem en_29 : enters Tryd.prog 29 = true := by kernel_rfl
theorem en_30 : enters Tryd.prog 30 = true := by kernel_rfl
theorem en_31 : enters Tryd.prog 31 = true := by kernel_rfl
theorem en_32 : enters Tryd.prog 32 = true := by kernel_rfl
theorem en_33 : enters Tryd.prog 33 = true := by kernel_rfl
theorem en_34 : enters Tryd.prog 34 = true := by kernel_rfl
theorem en_35 : enters Tryd.prog 35 = true := by kernel_rfl
theorem en_36 : enters Tryd.prog 36 = true := by kernel_rfl
theorem en_37 : enters Tryd.prog 37 = true := by kernel_rfl
theorem en_38 : enters Tryd.prog 38 = true := by kernel_rfl
theorem en_39 : enters Tryd.prog 39 = true := by kernel_rfl
theorem en_40 : enters Tryd.prog 40 = true := by kernel_rfl
theorem en_41 : enters Tryd.prog 41 = true := by kernel_rfl
theorem en_42 : enters Tryd.prog 42 = true := by kernel_rfl
theorem en_43 : enters Tryd.prog 43 = true := by kernel_rfl
theorem en_44 : enters Tryd.prog 44 = true := by kernel_rfl
theorem en_45 : enters Tryd.prog 45 = true := by kernel_rfl
theorem en_46 : enters Tryd.prog 46 = true := by kernel_rfl
theorem en_47 : enters Tryd.prog 47 = true := by kernel_rfl
theorem en_48 : enters Tryd.prog 48 = true := by kernel_rfl
theorem en_49 : enters Tryd.prog 49 = true := by kernel_rfl
theorem en_50 : enters Tryd.prog 50 = true := by kernel_rfl
theorem en_51 : enters Tryd.prog 51 = true := by kernel_rfl
theorem en_52 : enters Tryd.prog 52 = true := by kernel_rfl
theorem en_53 : enters Tryd.prog 53 = true := by kernel_rfl
theorem en_54 : enters Tryd.prog 54 = true := by kernel_rfl
theorem en_55 : enters Tryd.prog 55 = true := by kernel_rfl
theorem en_56 : enters Tryd.prog 56 = true := by kernel_rfl
theorem en_57 : enters Tryd.prog 57 = true := by kernel_rfl
theorem en_58 : enters Tryd.prog 58 = true := by kernel_rfl
theorem en_59 : enters Tryd.prog 59 = true := by kernel_rfl
theorem en_60 : enters Tryd.prog 60 = true := by kernel_rfl
theorem en_61 : enters Tryd.prog 61 = true := by kernel_rfl
theorem en_62 : enters Tryd.prog 62 = true := by kernel_rfl
theorem en_63 : enters Tryd.prog 63 = true := by kernel_rfl
theorem en_64 : enters Tryd.prog 64 = true := by kernel_rfl
theorem en_65 : enters Tryd.prog 65 = true := by kernel_rfl
theorem en_66 : enters Tryd.prog 66 = true := by kernel_rfl
theorem en_67 : enters Tryd.prog 67 = true := by kernel_rfl
theorem en_68 : enters Tryd.prog 68 = true := by kernel_rfl
theorem en_69 : enters Tryd.prog 69 = true := by kernel_rfl
theorem en_70 : enters Tryd.prog 70 = true := by kernel_rfl
theorem en_71 : enters Tryd.prog 71 = true := by kernel_rfl
theorem en_72 : enters Tryd.prog 72 = true := by kernel_rfl
theorem en_73 : enters Tryd.prog 73 = true := by kernel_rfl
theorem en_74 : enters Tryd.prog 74 = true := by kernel_rfl
theorem en_75 : enters Tryd.prog 75 = true := by kernel_rfl
theorem en_76 : enters Tryd.prog 76 = true := by kernel_rfl
theorem en_77 : enters Tryd.prog 77 = true := by kernel_rfl
theorem en_78 : enters Tryd.prog 78 = true := by kernel_rfl
theorem en_79 : enters Tryd.prog 79 = true := by kernel_rfl
theorem en_80 : enters Tryd.prog 80 = true := by kernel_rfl
theorem en_81 : enters Tryd.prog 81 = true := by kernel_rfl
theorem en_82 : enters Tryd.prog 82 = true := by kernel_rfl
theorem en_83 : enters Tryd.prog 83 = true := by kernel_rfl
theorem en_84 : enters Tryd.prog 84 = true := by kernel_rfl
theorem en_85 : enters Tryd.prog 85 = true := by kernel_rfl
theorem en_86 : enters Tryd.prog 86 = true := by kernel_rfl
theorem en_87 : enters Tryd.prog 87 = true := by kernel_rfl
theorem en_89 : enters Tryd.prog 89 = true := by kernel_rfl
theorem en_90 : enters Tryd.prog 90 = true := by kernel_rfl
theorem en_91 : enters Tryd.prog 91 = true := by kernel_rfl
theorem en_92 : enters Tryd.prog 92 = true := by kernel_rfl
theorem en_93 : enters Tryd.prog 93 = true := by kernel_rfl
theorem en_94 : enters Tryd.prog 94 = true := by kernel_rfl
theorem en_95 : enters Tryd.prog 95 = true := by kernel_rfl
theorem en_96 : enters Tryd.prog 96 = true := by kernel_rfl
theorem en_97 : enters Tryd.prog 97 = true := by kernel_rfl
theorem en_99 : enters Tryd.prog 99 = true := by kernel_rfl
theorem en_100 : enters Tryd.prog 100 = true := by kernel_rfl
theorem en_101 : enters Tryd.prog 101 = true := by kernel_rfl
theorem en_102 : enters Tryd.prog 102 = true := by kernel_rfl
theorem en_103 : enters Tryd.prog 103 = true := by kernel_rfl
theorem en_104 : enters Tryd.prog 104 = true := by kernel_rfl
theorem en_105 : enters Tryd.prog 105 = true := by kernel_rfl
theorem en_106 : enters Tryd.prog 106 = true := by kernel_rfl
theorem en_107 : enters Tryd.prog 107 = true := by kernel_rfl
theorem en_108 : enters Tryd.prog 108 = true := by kernel_rfl
theorem en_109 : enters Tryd.prog 109 = true := by kernel_rfl
theorem en_133 : enters Tryd.prog 133 = true := by kernel_rfl
theorem mixed : Tryd.prog.follows .mixedOrders = true := by kernel_rfl
end PW
end Go.Proofs.YtkaalpdfppbdeaaDoor
