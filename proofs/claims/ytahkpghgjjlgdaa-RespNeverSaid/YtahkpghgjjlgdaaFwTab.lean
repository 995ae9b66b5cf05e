/-
  The types of the seat's program, as a table for the abstract walk; that the table is right.
-/
import Derived.Test.YtahkpghgjjlgdaaFwT
import Derived.Test.YtahkpghgjjlgdaaProg
import Derived.KernelRfl
namespace Go.Proofs.YtahkpghgjjlgdaaFw
open Go Go.Proofs
set_option linter.unusedVariables false
set_option linter.unusedSimpArgs false
def tabL : List (TypeId × TI) := [
  (1, { k := .func, size := 1, bytes := 8, zero := [.nilf] }),
  (2, { k := .int .i64, size := 1, bytes := 8, zero := [.int .i64 0] }),
  (3, { k := .int .i64, size := 1, bytes := 8, zero := [.int .i64 0] }),
  (4, { k := .bool, size := 1, bytes := 1, zero := [.bool false] }),
  (5, { k := .int .u8, size := 1, bytes := 1, zero := [.int .u8 0] }),
  (6, { k := .int .u8, size := 1, bytes := 1, zero := [.int .u8 0] }),
  (7, { k := .strct [(0, 2), (1, 3), (2, 4), (3, 6)], size := 4, bytes := 24, zero := [.int .i64 0, .int .i64 0, .bool false, .int .u8 0] }),
  (8, { k := .strct [(0, 2), (1, 3), (2, 4), (3, 6)], size := 4, bytes := 24, zero := [.int .i64 0, .int .i64 0, .bool false, .int .u8 0] }),
  (9, { k := .str, size := 1, bytes := 16, zero := [.str ⟨#[]⟩] }),
  (10, { k := .str, size := 1, bytes := 16, zero := [.str ⟨#[]⟩] }),
  (11, { k := .str, size := 1, bytes := 16, zero := [.str ⟨#[]⟩] }),
  (12, { k := .int .u64, size := 1, bytes := 8, zero := [.int .u64 0] }),
  (13, { k := .strct [(0, 9), (1, 12)], size := 2, bytes := 24, zero := [.str ⟨#[]⟩, .int .u64 0] }),
  (14, { k := .strct [(0, 9), (1, 12)], size := 2, bytes := 24, zero := [.str ⟨#[]⟩, .int .u64 0] }),
  (15, { k := .ptr 60, size := 1, bytes := 8, zero := [.nilp] }),
  (16, { k := .ptr 63, size := 1, bytes := 8, zero := [.nilp] }),
  (17, { k := .ptr 73, size := 1, bytes := 8, zero := [.nilp] }),
  (18, { k := .strct [(0, 17)], size := 1, bytes := 8, zero := [.nilp] }),
  (19, { k := .strct [(0, 17)], size := 1, bytes := 8, zero := [.nilp] }),
  (21, { k := .int .i32, size := 1, bytes := 4, zero := [.int .i32 0] }),
  (22, { k := .slice 36, size := 1, bytes := 24, zero := [.sl true 3 []] }),
  (23, { k := .slice 3, size := 1, bytes := 24, zero := [.sl true 1 []] }),
  (24, { k := .strct [(0, 23), (1, 3), (2, 3)], size := 3, bytes := 40, zero := [.sl true 1 [], .int .i64 0, .int .i64 0] }),
  (25, { k := .strct [(0, 23), (1, 3), (2, 3)], size := 3, bytes := 40, zero := [.sl true 1 [], .int .i64 0, .int .i64 0] }),
  (26, { k := .func, size := 1, bytes := 8, zero := [.nilf] }),
  (27, { k := .func, size := 1, bytes := 8, zero := [.nilf] }),
  (28, { k := .func, size := 1, bytes := 8, zero := [.nilf] }),
  (30, { k := .func, size := 1, bytes := 8, zero := [.nilf] }),
  (31, { k := .func, size := 1, bytes := 8, zero := [.nilf] }),
  (32, { k := .func, size := 1, bytes := 8, zero := [.nilf] }),
  (33, { k := .func, size := 1, bytes := 8, zero := [.nilf] }),
  (34, { k := .func, size := 1, bytes := 8, zero := [.nilf] }),
  (35, { k := .strct [(0, 3), (1, 3), (2, 3)], size := 3, bytes := 24, zero := [.int .i64 0, .int .i64 0, .int .i64 0] }),
  (36, { k := .strct [(0, 3), (1, 3), (2, 3)], size := 3, bytes := 24, zero := [.int .i64 0, .int .i64 0, .int .i64 0], kinds := [.int .i64, .int .i64, .int .i64] }),
  (37, { k := .func, size := 1, bytes := 8, zero := [.nilf] }),
  (38, { k := .func, size := 1, bytes := 8, zero := [.nilf] }),
  (39, { k := .func, size := 1, bytes := 8, zero := [.nilf] }),
  (40, { k := .func, size := 1, bytes := 8, zero := [.nilf] }),
  (41, { k := .func, size := 1, bytes := 8, zero := [.nilf] }),
  (42, { k := .func, size := 1, bytes := 8, zero := [.nilf] }),
  (43, { k := .func, size := 1, bytes := 8, zero := [.nilf] }),
  (44, { k := .func, size := 1, bytes := 8, zero := [.nilf] }),
  (45, { k := .func, size := 1, bytes := 8, zero := [.nilf] }),
  (46, { k := .func, size := 1, bytes := 8, zero := [.nilf] }),
  (47, { k := .func, size := 1, bytes := 8, zero := [.nilf] }),
  (48, { k := .slice 49, size := 1, bytes := 24, zero := [.sl true 1 []] }),
  (49, { k := .ptr 51, size := 1, bytes := 8, zero := [.nilp] }),
  (50, { k := .strct [(0, 36), (3, 3), (4, 3), (5, 3), (6, 3)], size := 7, bytes := 56, zero := [.int .i64 0, .int .i64 0, .int .i64 0, .int .i64 0, .int .i64 0, .int .i64 0, .int .i64 0] }),
  (51, { k := .strct [(0, 36), (3, 3), (4, 3), (5, 3), (6, 3)], size := 7, bytes := 56, zero := [.int .i64 0, .int .i64 0, .int .i64 0, .int .i64 0, .int .i64 0, .int .i64 0, .int .i64 0], kinds := [.int .i64, .int .i64, .int .i64, .int .i64, .int .i64, .int .i64, .int .i64] }),
  (52, { k := .func, size := 1, bytes := 8, zero := [.nilf] }),
  (53, { k := .func, size := 1, bytes := 8, zero := [.nilf] }),
  (54, { k := .func, size := 1, bytes := 8, zero := [.nilf] }),
  (55, { k := .func, size := 1, bytes := 8, zero := [.nilf] }),
  (57, { k := .func, size := 1, bytes := 8, zero := [.nilf] }),
  (58, { k := .func, size := 1, bytes := 8, zero := [.nilf] }),
  (59, { k := .strct [(0, 17), (1, 17), (2, 17), (3, 9)], size := 4, bytes := 40, zero := [.nilp, .nilp, .nilp, .str ⟨#[]⟩] }),
  (60, { k := .strct [(0, 17), (1, 17), (2, 17), (3, 9)], size := 4, bytes := 40, zero := [.nilp, .nilp, .nilp, .str ⟨#[]⟩] }),
  (61, { k := .arr 0 16, size := 0, bytes := 0, zero := [] }),
  (62, { k := .strct [(0, 61)], size := 0, bytes := 0, zero := [] }),
  (63, { k := .strct [(0, 61)], size := 0, bytes := 0, zero := [] }),
  (64, { k := .func, size := 1, bytes := 8, zero := [.nilf] }),
  (65, { k := .int .u32, size := 1, bytes := 4, zero := [.int .u32 0] }),
  (66, { k := .int .u8, size := 1, bytes := 1, zero := [.int .u8 0] }),
  (67, { k := .int .u8, size := 1, bytes := 1, zero := [.int .u8 0] }),
  (68, { k := .func, size := 1, bytes := 8, zero := [.nilf] }),
  (69, { k := .ptr 5, size := 1, bytes := 8, zero := [.nilp] }),
  (70, { k := .int .i32, size := 1, bytes := 4, zero := [.int .i32 0] }),
  (71, { k := .int .i32, size := 1, bytes := 4, zero := [.int .i32 0] }),
  (72, { k := .strct [(0, 12), (1, 12), (2, 65), (3, 66), (4, 5), (5, 5), (6, 67), (7, 68), (8, 69), (9, 70), (10, 71)], size := 11, bytes := 48, zero := [.int .u64 0, .int .u64 0, .int .u32 0, .int .u8 0, .int .u8 0, .int .u8 0, .int .u8 0, .nilf, .nilp, .int .i32 0, .int .i32 0] }),
  (73, { k := .strct [(0, 12), (1, 12), (2, 65), (3, 66), (4, 5), (5, 5), (6, 67), (7, 68), (8, 69), (9, 70), (10, 71)], size := 11, bytes := 48, zero := [.int .u64 0, .int .u64 0, .int .u32 0, .int .u8 0, .int .u8 0, .int .u8 0, .int .u8 0, .nilf, .nilp, .int .i32 0, .int .i32 0] })]
def T : Tab := tabOf tabL
theorem tabOk : TabOk Try.prog T := tabOk_of Try.prog tabL (by kernel_rfl)
theorem T_1 : T 1 = { k := .func, size := 1, bytes := 8, zero := [.nilf] } := by kernel_rfl
theorem T_2 : T 2 = { k := .int .i64, size := 1, bytes := 8, zero := [.int .i64 0] } := by kernel_rfl
theorem T_3 : T 3 = { k := .int .i64, size := 1, bytes := 8, zero := [.int .i64 0] } := by kernel_rfl
theorem T_4 : T 4 = { k := .bool, size := 1, bytes := 1, zero := [.bool false] } := by kernel_rfl
theorem T_5 : T 5 = { k := .int .u8, size := 1, bytes := 1, zero := [.int .u8 0] } := by kernel_rfl
theorem T_6 : T 6 = { k := .int .u8, size := 1, bytes := 1, zero := [.int .u8 0] } := by kernel_rfl
theorem T_7 : T 7 = { k := .strct [(0, 2), (1, 3), (2, 4), (3, 6)], size := 4, bytes := 24, zero := [.int .i64 0, .int .i64 0, .bool false, .int .u8 0] } := by kernel_rfl
theorem T_8 : T 8 = { k := .strct [(0, 2), (1, 3), (2, 4), (3, 6)], size := 4, bytes := 24, zero := [.int .i64 0, .int .i64 0, .bool false, .int .u8 0] } := by kernel_rfl
theorem T_9 : T 9 = { k := .str, size := 1, bytes := 16, zero := [.str ⟨#[]⟩] } := by kernel_rfl
theorem T_10 : T 10 = { k := .str, size := 1, bytes := 16, zero := [.str ⟨#[]⟩] } := by kernel_rfl
theorem T_11 : T 11 = { k := .str, size := 1, bytes := 16, zero := [.str ⟨#[]⟩] } := by kernel_rfl
theorem T_12 : T 12 = { k := .int .u64, size := 1, bytes := 8, zero := [.int .u64 0] } := by kernel_rfl
theorem T_13 : T 13 = { k := .strct [(0, 9), (1, 12)], size := 2, bytes := 24, zero := [.str ⟨#[]⟩, .int .u64 0] } := by kernel_rfl
theorem T_14 : T 14 = { k := .strct [(0, 9), (1, 12)], size := 2, bytes := 24, zero := [.str ⟨#[]⟩, .int .u64 0] } := by kernel_rfl
theorem T_15 : T 15 = { k := .ptr 60, size := 1, bytes := 8, zero := [.nilp] } := by kernel_rfl
theorem T_16 : T 16 = { k := .ptr 63, size := 1, bytes := 8, zero := [.nilp] } := by kernel_rfl
theorem T_17 : T 17 = { k := .ptr 73, size := 1, bytes := 8, zero := [.nilp] } := by kernel_rfl
theorem T_18 : T 18 = { k := .strct [(0, 17)], size := 1, bytes := 8, zero := [.nilp] } := by kernel_rfl
theorem T_19 : T 19 = { k := .strct [(0, 17)], size := 1, bytes := 8, zero := [.nilp] } := by kernel_rfl
theorem T_21 : T 21 = { k := .int .i32, size := 1, bytes := 4, zero := [.int .i32 0] } := by kernel_rfl
theorem T_22 : T 22 = { k := .slice 36, size := 1, bytes := 24, zero := [.sl true 3 []] } := by kernel_rfl
theorem T_23 : T 23 = { k := .slice 3, size := 1, bytes := 24, zero := [.sl true 1 []] } := by kernel_rfl
theorem T_24 : T 24 = { k := .strct [(0, 23), (1, 3), (2, 3)], size := 3, bytes := 40, zero := [.sl true 1 [], .int .i64 0, .int .i64 0] } := by kernel_rfl
theorem T_25 : T 25 = { k := .strct [(0, 23), (1, 3), (2, 3)], size := 3, bytes := 40, zero := [.sl true 1 [], .int .i64 0, .int .i64 0] } := by kernel_rfl
theorem T_26 : T 26 = { k := .func, size := 1, bytes := 8, zero := [.nilf] } := by kernel_rfl
theorem T_27 : T 27 = { k := .func, size := 1, bytes := 8, zero := [.nilf] } := by kernel_rfl
theorem T_28 : T 28 = { k := .func, size := 1, bytes := 8, zero := [.nilf] } := by kernel_rfl
theorem T_30 : T 30 = { k := .func, size := 1, bytes := 8, zero := [.nilf] } := by kernel_rfl
theorem T_31 : T 31 = { k := .func, size := 1, bytes := 8, zero := [.nilf] } := by kernel_rfl
theorem T_32 : T 32 = { k := .func, size := 1, bytes := 8, zero := [.nilf] } := by kernel_rfl
theorem T_33 : T 33 = { k := .func, size := 1, bytes := 8, zero := [.nilf] } := by kernel_rfl
theorem T_34 : T 34 = { k := .func, size := 1, bytes := 8, zero := [.nilf] } := by kernel_rfl
theorem T_35 : T 35 = { k := .strct [(0, 3), (1, 3), (2, 3)], size := 3, bytes := 24, zero := [.int .i64 0, .int .i64 0, .int .i64 0] } := by kernel_rfl
theorem T_36 : T 36 = { k := .strct [(0, 3), (1, 3), (2, 3)], size := 3, bytes := 24, zero := [.int .i64 0, .int .i64 0, .int .i64 0], kinds := [.int .i64, .int .i64, .int .i64] } := by kernel_rfl
theorem T_37 : T 37 = { k := .func, size := 1, bytes := 8, zero := [.nilf] } := by kernel_rfl
theorem T_38 : T 38 = { k := .func, size := 1, bytes := 8, zero := [.nilf] } := by kernel_rfl
theorem T_39 : T 39 = { k := .func, size := 1, bytes := 8, zero := [.nilf] } := by kernel_rfl
theorem T_40 : T 40 = { k := .func, size := 1, bytes := 8, zero := [.nilf] } := by kernel_rfl
theorem T_41 : T 41 = { k := .func, size := 1, bytes := 8, zero := [.nilf] } := by kernel_rfl
theorem T_42 : T 42 = { k := .func, size := 1, bytes := 8, zero := [.nilf] } := by kernel_rfl
theorem T_43 : T 43 = { k := .func, size := 1, bytes := 8, zero := [.nilf] } := by kernel_rfl
theorem T_44 : T 44 = { k := .func, size := 1, bytes := 8, zero := [.nilf] } := by kernel_rfl
theorem T_45 : T 45 = { k := .func, size := 1, bytes := 8, zero := [.nilf] } := by kernel_rfl
theorem T_46 : T 46 = { k := .func, size := 1, bytes := 8, zero := [.nilf] } := by kernel_rfl
theorem T_47 : T 47 = { k := .func, size := 1, bytes := 8, zero := [.nilf] } := by kernel_rfl
theorem T_48 : T 48 = { k := .slice 49, size := 1, bytes := 24, zero := [.sl true 1 []] } := by kernel_rfl
theorem T_49 : T 49 = { k := .ptr 51, size := 1, bytes := 8, zero := [.nilp] } := by kernel_rfl
theorem T_50 : T 50 = { k := .strct [(0, 36), (3, 3), (4, 3), (5, 3), (6, 3)], size := 7, bytes := 56, zero := [.int .i64 0, .int .i64 0, .int .i64 0, .int .i64 0, .int .i64 0, .int .i64 0, .int .i64 0] } := by kernel_rfl
theorem T_51 : T 51 = { k := .strct [(0, 36), (3, 3), (4, 3), (5, 3), (6, 3)], size := 7, bytes := 56, zero := [.int .i64 0, .int .i64 0, .int .i64 0, .int .i64 0, .int .i64 0, .int .i64 0, .int .i64 0], kinds := [.int .i64, .int .i64, .int .i64, .int .i64, .int .i64, .int .i64, .int .i64] } := by kernel_rfl
theorem T_52 : T 52 = { k := .func, size := 1, bytes := 8, zero := [.nilf] } := by kernel_rfl
theorem T_53 : T 53 = { k := .func, size := 1, bytes := 8, zero := [.nilf] } := by kernel_rfl
theorem T_54 : T 54 = { k := .func, size := 1, bytes := 8, zero := [.nilf] } := by kernel_rfl
theorem T_55 : T 55 = { k := .func, size := 1, bytes := 8, zero := [.nilf] } := by kernel_rfl
theorem T_57 : T 57 = { k := .func, size := 1, bytes := 8, zero := [.nilf] } := by kernel_rfl
theorem T_58 : T 58 = { k := .func, size := 1, bytes := 8, zero := [.nilf] } := by kernel_rfl
theorem T_59 : T 59 = { k := .strct [(0, 17), (1, 17), (2, 17), (3, 9)], size := 4, bytes := 40, zero := [.nilp, .nilp, .nilp, .str ⟨#[]⟩] } := by kernel_rfl
theorem T_60 : T 60 = { k := .strct [(0, 17), (1, 17), (2, 17), (3, 9)], size := 4, bytes := 40, zero := [.nilp, .nilp, .nilp, .str ⟨#[]⟩] } := by kernel_rfl
theorem T_61 : T 61 = { k := .arr 0 16, size := 0, bytes := 0, zero := [] } := by kernel_rfl
theorem T_62 : T 62 = { k := .strct [(0, 61)], size := 0, bytes := 0, zero := [] } := by kernel_rfl
theorem T_63 : T 63 = { k := .strct [(0, 61)], size := 0, bytes := 0, zero := [] } := by kernel_rfl
theorem T_64 : T 64 = { k := .func, size := 1, bytes := 8, zero := [.nilf] } := by kernel_rfl
theorem T_65 : T 65 = { k := .int .u32, size := 1, bytes := 4, zero := [.int .u32 0] } := by kernel_rfl
theorem T_66 : T 66 = { k := .int .u8, size := 1, bytes := 1, zero := [.int .u8 0] } := by kernel_rfl
theorem T_67 : T 67 = { k := .int .u8, size := 1, bytes := 1, zero := [.int .u8 0] } := by kernel_rfl
theorem T_68 : T 68 = { k := .func, size := 1, bytes := 8, zero := [.nilf] } := by kernel_rfl
theorem T_69 : T 69 = { k := .ptr 5, size := 1, bytes := 8, zero := [.nilp] } := by kernel_rfl
theorem T_70 : T 70 = { k := .int .i32, size := 1, bytes := 4, zero := [.int .i32 0] } := by kernel_rfl
theorem T_71 : T 71 = { k := .int .i32, size := 1, bytes := 4, zero := [.int .i32 0] } := by kernel_rfl
theorem T_72 : T 72 = { k := .strct [(0, 12), (1, 12), (2, 65), (3, 66), (4, 5), (5, 5), (6, 67), (7, 68), (8, 69), (9, 70), (10, 71)], size := 11, bytes := 48, zero := [.int .u64 0, .int .u64 0, .int .u32 0, .int .u8 0, .int .u8 0, .int .u8 0, .int .u8 0, .nilf, .nilp, .int .i32 0, .int .i32 0] } := by kernel_rfl
theorem T_73 : T 73 = { k := .strct [(0, 12), (1, 12), (2, 65), (3, 66), (4, 5), (5, 5), (6, 67), (7, 68), (8, 69), (9, 70), (10, 71)], size := 11, bytes := 48, zero := [.int .u64 0, .int .u64 0, .int .u32 0, .int .u8 0, .int .u8 0, .int .u8 0, .int .u8 0, .nilf, .nilp, .int .i32 0, .int .i32 0] } := by kernel_rfl
end Go.Proofs.YtahkpghgjjlgdaaFw
