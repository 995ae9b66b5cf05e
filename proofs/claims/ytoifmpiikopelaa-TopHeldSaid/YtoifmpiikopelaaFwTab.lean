/-
  The types of the seat's program, as a table for the abstract walk; that the table is right.
-/
import Derived.Test.YtoifmpiikopelaaFwT
import Derived.Test.YtoifmpiikopelaaProg
import Derived.KernelRfl
namespace Go.Proofs.YtoifmpiikopelaaFw
open Go Go.Proofs
set_option linter.unusedVariables false
set_option linter.unusedSimpArgs false
def tabL : List (TypeId × TI) := [
  (1, { k := .func, size := 1, bytes := 8, zero := [.nilf] }),
  (2, { k := .int .i64, size := 1, bytes := 8, zero := [.int .i64 0] }),
  (3, { k := .int .i64, size := 1, bytes := 8, zero := [.int .i64 0] }),
  (4, { k := .bool, size := 1, bytes := 1, zero := [.bool false] }),
  (5, { k := .int .u8, size := 1, bytes := 1, zero := [.int .u8 0] }),
  (6, { k := .int .u8, size := 1, bytes := 1, zero := [.int .u8 0] }),
  (7, { k := .strct [(0, 2), (1, 3), (2, 4), (3, 6)], size := 4, bytes := 24, zero := [.int .i64 0, .int .i64 0, .bool false, .int .u8 0] }),
  (8, { k := .strct [(0, 2), (1, 3), (2, 4), (3, 6)], size := 4, bytes := 24, zero := [.int .i64 0, .int .i64 0, .bool false, .int .u8 0] }),
  (9, { k := .str, size := 1, bytes := 16, zero := [.str ⟨#[]⟩] }),
  (10, { k := .str, size := 1, bytes := 16, zero := [.str ⟨#[]⟩] }),
  (11, { k := .str, size := 1, bytes := 16, zero := [.str ⟨#[]⟩] }),
  (12, { k := .int .u64, size := 1, bytes := 8, zero := [.int .u64 0] }),
  (13, { k := .strct [(0, 9), (1, 12)], size := 2, bytes := 24, zero := [.str ⟨#[]⟩, .int .u64 0] }),
  (14, { k := .strct [(0, 9), (1, 12)], size := 2, bytes := 24, zero := [.str ⟨#[]⟩, .int .u64 0] }),
  (15, { k := .ptr 92, size := 1, bytes := 8, zero := [.nilp] }),
  (16, { k := .ptr 95, size := 1, bytes := 8, zero := [.nilp] }),
  (17, { k := .ptr 104, size := 1, bytes := 8, zero := [.nilp] }),
  (18, { k := .strct [(0, 17)], size := 1, bytes := 8, zero := [.nilp] }),
  (19, { k := .strct [(0, 17)], size := 1, bytes := 8, zero := [.nilp] }),
  (21, { k := .int .i32, size := 1, bytes := 4, zero := [.int .i32 0] }),
  (22, { k := .slice 5, size := 1, bytes := 24, zero := [.sl true 1 []] }),
  (23, { k := .int .u16, size := 1, bytes := 2, zero := [.int .u16 0] }),
  (24, { k := .func, size := 1, bytes := 8, zero := [.nilf] }),
  (25, { k := .slice 3, size := 1, bytes := 24, zero := [.sl true 1 []] }),
  (26, { k := .int .i64, size := 1, bytes := 8, zero := [.int .i64 0] }),
  (27, { k := .strct [(0, 3), (1, 22), (2, 3), (3, 3), (4, 3), (5, 3), (6, 3), (7, 3), (8, 26)], size := 9, bytes := 88, zero := [.int .i64 0, .sl true 1 [], .int .i64 0, .int .i64 0, .int .i64 0, .int .i64 0, .int .i64 0, .int .i64 0, .int .i64 0] }),
  (28, { k := .strct [(0, 3), (1, 22), (2, 3), (3, 3), (4, 3), (5, 3), (6, 3), (7, 3), (8, 26)], size := 9, bytes := 88, zero := [.int .i64 0, .sl true 1 [], .int .i64 0, .int .i64 0, .int .i64 0, .int .i64 0, .int .i64 0, .int .i64 0, .int .i64 0] }),
  (29, { k := .strct [(0, 3), (1, 3), (2, 22), (3, 3), (4, 3), (5, 3), (6, 3), (7, 3), (8, 3), (9, 26)], size := 10, bytes := 96, zero := [.int .i64 0, .int .i64 0, .sl true 1 [], .int .i64 0, .int .i64 0, .int .i64 0, .int .i64 0, .int .i64 0, .int .i64 0, .int .i64 0] }),
  (30, { k := .strct [(0, 3), (1, 3), (2, 22), (3, 3), (4, 3), (5, 3), (6, 3), (7, 3), (8, 3), (9, 26)], size := 10, bytes := 96, zero := [.int .i64 0, .int .i64 0, .sl true 1 [], .int .i64 0, .int .i64 0, .int .i64 0, .int .i64 0, .int .i64 0, .int .i64 0, .int .i64 0] }),
  (32, { k := .func, size := 1, bytes := 8, zero := [.nilf] }),
  (34, { k := .func, size := 1, bytes := 8, zero := [.nilf] }),
  (35, { k := .func, size := 1, bytes := 8, zero := [.nilf] }),
  (36, { k := .slice 42, size := 1, bytes := 24, zero := [.sl true 7 []] }),
  (38, { k := .func, size := 1, bytes := 8, zero := [.nilf] }),
  (39, { k := .func, size := 1, bytes := 8, zero := [.nilf] }),
  (40, { k := .func, size := 1, bytes := 8, zero := [.nilf] }),
  (41, { k := .strct [(0, 3), (1, 3), (2, 3), (3, 3), (4, 3), (5, 3), (6, 22)], size := 7, bytes := 72, zero := [.int .i64 0, .int .i64 0, .int .i64 0, .int .i64 0, .int .i64 0, .int .i64 0, .sl true 1 []] }),
  (42, { k := .strct [(0, 3), (1, 3), (2, 3), (3, 3), (4, 3), (5, 3), (6, 22)], size := 7, bytes := 72, zero := [.int .i64 0, .int .i64 0, .int .i64 0, .int .i64 0, .int .i64 0, .int .i64 0, .sl true 1 []] }),
  (44, { k := .func, size := 1, bytes := 8, zero := [.nilf] }),
  (45, { k := .func, size := 1, bytes := 8, zero := [.nilf] }),
  (46, { k := .strct [(0, 36), (1, 36)], size := 2, bytes := 48, zero := [.sl true 7 [], .sl true 7 []] }),
  (47, { k := .strct [(0, 36), (1, 36)], size := 2, bytes := 48, zero := [.sl true 7 [], .sl true 7 []] }),
  (48, { k := .func, size := 1, bytes := 8, zero := [.nilf] }),
  (49, { k := .func, size := 1, bytes := 8, zero := [.nilf] }),
  (51, { k := .func, size := 1, bytes := 8, zero := [.nilf] }),
  (52, { k := .func, size := 1, bytes := 8, zero := [.nilf] }),
  (54, { k := .func, size := 1, bytes := 8, zero := [.nilf] }),
  (55, { k := .func, size := 1, bytes := 8, zero := [.nilf] }),
  (56, { k := .func, size := 1, bytes := 8, zero := [.nilf] }),
  (57, { k := .func, size := 1, bytes := 8, zero := [.nilf] }),
  (58, { k := .func, size := 1, bytes := 8, zero := [.nilf] }),
  (59, { k := .func, size := 1, bytes := 8, zero := [.nilf] }),
  (60, { k := .func, size := 1, bytes := 8, zero := [.nilf] }),
  (61, { k := .func, size := 1, bytes := 8, zero := [.nilf] }),
  (62, { k := .ptr 47, size := 1, bytes := 8, zero := [.nilp] }),
  (63, { k := .ptr 65, size := 1, bytes := 8, zero := [.nilp] }),
  (64, { k := .strct [(0, 30)], size := 10, bytes := 96, zero := [.int .i64 0, .int .i64 0, .sl true 1 [], .int .i64 0, .int .i64 0, .int .i64 0, .int .i64 0, .int .i64 0, .int .i64 0, .int .i64 0] }),
  (65, { k := .strct [(0, 30)], size := 10, bytes := 96, zero := [.int .i64 0, .int .i64 0, .sl true 1 [], .int .i64 0, .int .i64 0, .int .i64 0, .int .i64 0, .int .i64 0, .int .i64 0, .int .i64 0] }),
  (66, { k := .func, size := 1, bytes := 8, zero := [.nilf] }),
  (67, { k := .func, size := 1, bytes := 8, zero := [.nilf] }),
  (69, { k := .strct [(0, 42), (7, 4)], size := 8, bytes := 80, zero := [.int .i64 0, .int .i64 0, .int .i64 0, .int .i64 0, .int .i64 0, .int .i64 0, .sl true 1 [], .bool false] }),
  (70, { k := .strct [(0, 42), (7, 4)], size := 8, bytes := 80, zero := [.int .i64 0, .int .i64 0, .int .i64 0, .int .i64 0, .int .i64 0, .int .i64 0, .sl true 1 [], .bool false] }),
  (72, { k := .func, size := 1, bytes := 8, zero := [.nilf] }),
  (73, { k := .ptr 75, size := 1, bytes := 8, zero := [.nilp] }),
  (74, { k := .strct [(0, 28)], size := 9, bytes := 88, zero := [.int .i64 0, .sl true 1 [], .int .i64 0, .int .i64 0, .int .i64 0, .int .i64 0, .int .i64 0, .int .i64 0, .int .i64 0] }),
  (75, { k := .strct [(0, 28)], size := 9, bytes := 88, zero := [.int .i64 0, .sl true 1 [], .int .i64 0, .int .i64 0, .int .i64 0, .int .i64 0, .int .i64 0, .int .i64 0, .int .i64 0] }),
  (76, { k := .func, size := 1, bytes := 8, zero := [.nilf] }),
  (77, { k := .strct [(0, 76)], size := 1, bytes := 8, zero := [.nilf] }),
  (78, { k := .strct [(0, 76)], size := 1, bytes := 8, zero := [.nilf] }),
  (79, { k := .arr 3 78, size := 3, bytes := 24, zero := [.nilf, .nilf, .nilf] }),
  (80, { k := .func, size := 1, bytes := 8, zero := [.nilf] }),
  (81, { k := .func, size := 1, bytes := 8, zero := [.nilf] }),
  (82, { k := .func, size := 1, bytes := 8, zero := [.nilf] }),
  (83, { k := .func, size := 1, bytes := 8, zero := [.nilf] }),
  (84, { k := .func, size := 1, bytes := 8, zero := [.nilf] }),
  (85, { k := .func, size := 1, bytes := 8, zero := [.nilf] }),
  (86, { k := .func, size := 1, bytes := 8, zero := [.nilf] }),
  (87, { k := .arr 5 24, size := 5, bytes := 40, zero := [.nilf, .nilf, .nilf, .nilf, .nilf] }),
  (88, { k := .slice 22, size := 1, bytes := 24, zero := [.sl true 1 []] }),
  (89, { k := .func, size := 1, bytes := 8, zero := [.nilf] }),
  (90, { k := .func, size := 1, bytes := 8, zero := [.nilf] }),
  (91, { k := .strct [(0, 17), (1, 17), (2, 17), (3, 9)], size := 4, bytes := 40, zero := [.nilp, .nilp, .nilp, .str ⟨#[]⟩] }),
  (92, { k := .strct [(0, 17), (1, 17), (2, 17), (3, 9)], size := 4, bytes := 40, zero := [.nilp, .nilp, .nilp, .str ⟨#[]⟩] }),
  (93, { k := .arr 0 16, size := 0, bytes := 0, zero := [] }),
  (94, { k := .strct [(0, 93)], size := 0, bytes := 0, zero := [] }),
  (95, { k := .strct [(0, 93)], size := 0, bytes := 0, zero := [] }),
  (96, { k := .int .u32, size := 1, bytes := 4, zero := [.int .u32 0] }),
  (97, { k := .int .u8, size := 1, bytes := 1, zero := [.int .u8 0] }),
  (98, { k := .int .u8, size := 1, bytes := 1, zero := [.int .u8 0] }),
  (99, { k := .func, size := 1, bytes := 8, zero := [.nilf] }),
  (100, { k := .ptr 5, size := 1, bytes := 8, zero := [.nilp] }),
  (101, { k := .int .i32, size := 1, bytes := 4, zero := [.int .i32 0] }),
  (102, { k := .int .i32, size := 1, bytes := 4, zero := [.int .i32 0] }),
  (103, { k := .strct [(0, 12), (1, 12), (2, 96), (3, 97), (4, 5), (5, 5), (6, 98), (7, 99), (8, 100), (9, 101), (10, 102)], size := 11, bytes := 48, zero := [.int .u64 0, .int .u64 0, .int .u32 0, .int .u8 0, .int .u8 0, .int .u8 0, .int .u8 0, .nilf, .nilp, .int .i32 0, .int .i32 0] }),
  (104, { k := .strct [(0, 12), (1, 12), (2, 96), (3, 97), (4, 5), (5, 5), (6, 98), (7, 99), (8, 100), (9, 101), (10, 102)], size := 11, bytes := 48, zero := [.int .u64 0, .int .u64 0, .int .u32 0, .int .u8 0, .int .u8 0, .int .u8 0, .int .u8 0, .nilf, .nilp, .int .i32 0, .int .i32 0] })]
def T : Tab := tabOf tabL
theorem tabOk : TabOk Try.prog T := tabOk_of Try.prog tabL (by kernel_rfl)
theorem T_1 : T 1 = { k := .func, size := 1, bytes := 8, zero := [.nilf] } := by kernel_rfl
theorem T_2 : T 2 = { k := .int .i64, size := 1, bytes := 8, zero := [.int .i64 0] } := by kernel_rfl
theorem T_3 : T 3 = { k := .int .i64, size := 1, bytes := 8, zero := [.int .i64 0] } := by kernel_rfl
theorem T_4 : T 4 = { k := .bool, size := 1, bytes := 1, zero := [.bool false] } := by kernel_rfl
theorem T_5 : T 5 = { k := .int .u8, size := 1, bytes := 1, zero := [.int .u8 0] } := by kernel_rfl
theorem T_6 : T 6 = { k := .int .u8, size := 1, bytes := 1, zero := [.int .u8 0] } := by kernel_rfl
theorem T_7 : T 7 = { k := .strct [(0, 2), (1, 3), (2, 4), (3, 6)], size := 4, bytes := 24, zero := [.int .i64 0, .int .i64 0, .bool false, .int .u8 0] } := by kernel_rfl
theorem T_8 : T 8 = { k := .strct [(0, 2), (1, 3), (2, 4), (3, 6)], size := 4, bytes := 24, zero := [.int .i64 0, .int .i64 0, .bool false, .int .u8 0] } := by kernel_rfl
theorem T_9 : T 9 = { k := .str, size := 1, bytes := 16, zero := [.str ⟨#[]⟩] } := by kernel_rfl
theorem T_10 : T 10 = { k := .str, size := 1, bytes := 16, zero := [.str ⟨#[]⟩] } := by kernel_rfl
theorem T_11 : T 11 = { k := .str, size := 1, bytes := 16, zero := [.str ⟨#[]⟩] } := by kernel_rfl
theorem T_12 : T 12 = { k := .int .u64, size := 1, bytes := 8, zero := [.int .u64 0] } := by kernel_rfl
theorem T_13 : T 13 = { k := .strct [(0, 9), (1, 12)], size := 2, bytes := 24, zero := [.str ⟨#[]⟩, .int .u64 0] } := by kernel_rfl
theorem T_14 : T 14 = { k := .strct [(0, 9), (1, 12)], size := 2, bytes := 24, zero := [.str ⟨#[]⟩, .int .u64 0] } := by kernel_rfl
theorem T_15 : T 15 = { k := .ptr 92, size := 1, bytes := 8, zero := [.nilp] } := by kernel_rfl
theorem T_16 : T 16 = { k := .ptr 95, size := 1, bytes := 8, zero := [.nilp] } := by kernel_rfl
theorem T_17 : T 17 = { k := .ptr 104, size := 1, bytes := 8, zero := [.nilp] } := by kernel_rfl
theorem T_18 : T 18 = { k := .strct [(0, 17)], size := 1, bytes := 8, zero := [.nilp] } := by kernel_rfl
theorem T_19 : T 19 = { k := .strct [(0, 17)], size := 1, bytes := 8, zero := [.nilp] } := by kernel_rfl
theorem T_21 : T 21 = { k := .int .i32, size := 1, bytes := 4, zero := [.int .i32 0] } := by kernel_rfl
theorem T_22 : T 22 = { k := .slice 5, size := 1, bytes := 24, zero := [.sl true 1 []] } := by kernel_rfl
theorem T_23 : T 23 = { k := .int .u16, size := 1, bytes := 2, zero := [.int .u16 0] } := by kernel_rfl
theorem T_24 : T 24 = { k := .func, size := 1, bytes := 8, zero := [.nilf] } := by kernel_rfl
theorem T_25 : T 25 = { k := .slice 3, size := 1, bytes := 24, zero := [.sl true 1 []] } := by kernel_rfl
theorem T_26 : T 26 = { k := .int .i64, size := 1, bytes := 8, zero := [.int .i64 0] } := by kernel_rfl
theorem T_27 : T 27 = { k := .strct [(0, 3), (1, 22), (2, 3), (3, 3), (4, 3), (5, 3), (6, 3), (7, 3), (8, 26)], size := 9, bytes := 88, zero := [.int .i64 0, .sl true 1 [], .int .i64 0, .int .i64 0, .int .i64 0, .int .i64 0, .int .i64 0, .int .i64 0, .int .i64 0] } := by kernel_rfl
theorem T_28 : T 28 = { k := .strct [(0, 3), (1, 22), (2, 3), (3, 3), (4, 3), (5, 3), (6, 3), (7, 3), (8, 26)], size := 9, bytes := 88, zero := [.int .i64 0, .sl true 1 [], .int .i64 0, .int .i64 0, .int .i64 0, .int .i64 0, .int .i64 0, .int .i64 0, .int .i64 0] } := by kernel_rfl
theorem T_29 : T 29 = { k := .strct [(0, 3), (1, 3), (2, 22), (3, 3), (4, 3), (5, 3), (6, 3), (7, 3), (8, 3), (9, 26)], size := 10, bytes := 96, zero := [.int .i64 0, .int .i64 0, .sl true 1 [], .int .i64 0, .int .i64 0, .int .i64 0, .int .i64 0, .int .i64 0, .int .i64 0, .int .i64 0] } := by kernel_rfl
theorem T_30 : T 30 = { k := .strct [(0, 3), (1, 3), (2, 22), (3, 3), (4, 3), (5, 3), (6, 3), (7, 3), (8, 3), (9, 26)], size := 10, bytes := 96, zero := [.int .i64 0, .int .i64 0, .sl true 1 [], .int .i64 0, .int .i64 0, .int .i64 0, .int .i64 0, .int .i64 0, .int .i64 0, .int .i64 0] } := by kernel_rfl
theorem T_32 : T 32 = { k := .func, size := 1, bytes := 8, zero := [.nilf] } := by kernel_rfl
theorem T_34 : T 34 = { k := .func, size := 1, bytes := 8, zero := [.nilf] } := by kernel_rfl
theorem T_35 : T 35 = { k := .func, size := 1, bytes := 8, zero := [.nilf] } := by kernel_rfl
theorem T_36 : T 36 = { k := .slice 42, size := 1, bytes := 24, zero := [.sl true 7 []] } := by kernel_rfl
theorem T_38 : T 38 = { k := .func, size := 1, bytes := 8, zero := [.nilf] } := by kernel_rfl
theorem T_39 : T 39 = { k := .func, size := 1, bytes := 8, zero := [.nilf] } := by kernel_rfl
theorem T_40 : T 40 = { k := .func, size := 1, bytes := 8, zero := [.nilf] } := by kernel_rfl
theorem T_41 : T 41 = { k := .strct [(0, 3), (1, 3), (2, 3), (3, 3), (4, 3), (5, 3), (6, 22)], size := 7, bytes := 72, zero := [.int .i64 0, .int .i64 0, .int .i64 0, .int .i64 0, .int .i64 0, .int .i64 0, .sl true 1 []] } := by kernel_rfl
theorem T_42 : T 42 = { k := .strct [(0, 3), (1, 3), (2, 3), (3, 3), (4, 3), (5, 3), (6, 22)], size := 7, bytes := 72, zero := [.int .i64 0, .int .i64 0, .int .i64 0, .int .i64 0, .int .i64 0, .int .i64 0, .sl true 1 []] } := by kernel_rfl
theorem T_44 : T 44 = { k := .func, size := 1, bytes := 8, zero := [.nilf] } := by kernel_rfl
theorem T_45 : T 45 = { k := .func, size := 1, bytes := 8, zero := [.nilf] } := by kernel_rfl
theorem T_46 : T 46 = { k := .strct [(0, 36), (1, 36)], size := 2, bytes := 48, zero := [.sl true 7 [], .sl true 7 []] } := by kernel_rfl
theorem T_47 : T 47 = { k := .strct [(0, 36), (1, 36)], size := 2, bytes := 48, zero := [.sl true 7 [], .sl true 7 []] } := by kernel_rfl
theorem T_48 : T 48 = { k := .func, size := 1, bytes := 8, zero := [.nilf] } := by kernel_rfl
theorem T_49 : T 49 = { k := .func, size := 1, bytes := 8, zero := [.nilf] } := by kernel_rfl
theorem T_51 : T 51 = { k := .func, size := 1, bytes := 8, zero := [.nilf] } := by kernel_rfl
theorem T_52 : T 52 = { k := .func, size := 1, bytes := 8, zero := [.nilf] } := by kernel_rfl
theorem T_54 : T 54 = { k := .func, size := 1, bytes := 8, zero := [.nilf] } := by kernel_rfl
theorem T_55 : T 55 = { k := .func, size := 1, bytes := 8, zero := [.nilf] } := by kernel_rfl
theorem T_56 : T 56 = { k := .func, size := 1, bytes := 8, zero := [.nilf] } := by kernel_rfl
theorem T_57 : T 57 = { k := .func, size := 1, bytes := 8, zero := [.nilf] } := by kernel_rfl
theorem T_58 : T 58 = { k := .func, size := 1, bytes := 8, zero := [.nilf] } := by kernel_rfl
theorem T_59 : T 59 = { k := .func, size := 1, bytes := 8, zero := [.nilf] } := by kernel_rfl
theorem T_60 : T 60 = { k := .func, size := 1, bytes := 8, zero := [.nilf] } := by kernel_rfl
theorem T_61 : T 61 = { k := .func, size := 1, bytes := 8, zero := [.nilf] } := by kernel_rfl
theorem T_62 : T 62 = { k := .ptr 47, size := 1, bytes := 8, zero := [.nilp] } := by kernel_rfl
theorem T_63 : T 63 = { k := .ptr 65, size := 1, bytes := 8, zero := [.nilp] } := by kernel_rfl
theorem T_64 : T 64 = { k := .strct [(0, 30)], size := 10, bytes := 96, zero := [.int .i64 0, .int .i64 0, .sl true 1 [], .int .i64 0, .int .i64 0, .int .i64 0, .int .i64 0, .int .i64 0, .int .i64 0, .int .i64 0] } := by kernel_rfl
theorem T_65 : T 65 = { k := .strct [(0, 30)], size := 10, bytes := 96, zero := [.int .i64 0, .int .i64 0, .sl true 1 [], .int .i64 0, .int .i64 0, .int .i64 0, .int .i64 0, .int .i64 0, .int .i64 0, .int .i64 0] } := by kernel_rfl
theorem T_66 : T 66 = { k := .func, size := 1, bytes := 8, zero := [.nilf] } := by kernel_rfl
theorem T_67 : T 67 = { k := .func, size := 1, bytes := 8, zero := [.nilf] } := by kernel_rfl
theorem T_69 : T 69 = { k := .strct [(0, 42), (7, 4)], size := 8, bytes := 80, zero := [.int .i64 0, .int .i64 0, .int .i64 0, .int .i64 0, .int .i64 0, .int .i64 0, .sl true 1 [], .bool false] } := by kernel_rfl
theorem T_70 : T 70 = { k := .strct [(0, 42), (7, 4)], size := 8, bytes := 80, zero := [.int .i64 0, .int .i64 0, .int .i64 0, .int .i64 0, .int .i64 0, .int .i64 0, .sl true 1 [], .bool false] } := by kernel_rfl
theorem T_72 : T 72 = { k := .func, size := 1, bytes := 8, zero := [.nilf] } := by kernel_rfl
theorem T_73 : T 73 = { k := .ptr 75, size := 1, bytes := 8, zero := [.nilp] } := by kernel_rfl
theorem T_74 : T 74 = { k := .strct [(0, 28)], size := 9, bytes := 88, zero := [.int .i64 0, .sl true 1 [], .int .i64 0, .int .i64 0, .int .i64 0, .int .i64 0, .int .i64 0, .int .i64 0, .int .i64 0] } := by kernel_rfl
theorem T_75 : T 75 = { k := .strct [(0, 28)], size := 9, bytes := 88, zero := [.int .i64 0, .sl true 1 [], .int .i64 0, .int .i64 0, .int .i64 0, .int .i64 0, .int .i64 0, .int .i64 0, .int .i64 0] } := by kernel_rfl
theorem T_76 : T 76 = { k := .func, size := 1, bytes := 8, zero := [.nilf] } := by kernel_rfl
theorem T_77 : T 77 = { k := .strct [(0, 76)], size := 1, bytes := 8, zero := [.nilf] } := by kernel_rfl
theorem T_78 : T 78 = { k := .strct [(0, 76)], size := 1, bytes := 8, zero := [.nilf] } := by kernel_rfl
theorem T_79 : T 79 = { k := .arr 3 78, size := 3, bytes := 24, zero := [.nilf, .nilf, .nilf] } := by kernel_rfl
theorem T_80 : T 80 = { k := .func, size := 1, bytes := 8, zero := [.nilf] } := by kernel_rfl
theorem T_81 : T 81 = { k := .func, size := 1, bytes := 8, zero := [.nilf] } := by kernel_rfl
theorem T_82 : T 82 = { k := .func, size := 1, bytes := 8, zero := [.nilf] } := by kernel_rfl
theorem T_83 : T 83 = { k := .func, size := 1, bytes := 8, zero := [.nilf] } := by kernel_rfl
theorem T_84 : T 84 = { k := .func, size := 1, bytes := 8, zero := [.nilf] } := by kernel_rfl
theorem T_85 : T 85 = { k := .func, size := 1, bytes := 8, zero := [.nilf] } := by kernel_rfl
theorem T_86 : T 86 = { k := .func, size := 1, bytes := 8, zero := [.nilf] } := by kernel_rfl
theorem T_87 : T 87 = { k := .arr 5 24, size := 5, bytes := 40, zero := [.nilf, .nilf, .nilf, .nilf, .nilf] } := by kernel_rfl
theorem T_88 : T 88 = { k := .slice 22, size := 1, bytes := 24, zero := [.sl true 1 []] } := by kernel_rfl
theorem T_89 : T 89 = { k := .func, size := 1, bytes := 8, zero := [.nilf] } := by kernel_rfl
theorem T_90 : T 90 = { k := .func, size := 1, bytes := 8, zero := [.nilf] } := by kernel_rfl
theorem T_91 : T 91 = { k := .strct [(0, 17), (1, 17), (2, 17), (3, 9)], size := 4, bytes := 40, zero := [.nilp, .nilp, .nilp, .str ⟨#[]⟩] } := by kernel_rfl
theorem T_92 : T 92 = { k := .strct [(0, 17), (1, 17), (2, 17), (3, 9)], size := 4, bytes := 40, zero := [.nilp, .nilp, .nilp, .str ⟨#[]⟩] } := by kernel_rfl
theorem T_93 : T 93 = { k := .arr 0 16, size := 0, bytes := 0, zero := [] } := by kernel_rfl
theorem T_94 : T 94 = { k := .strct [(0, 93)], size := 0, bytes := 0, zero := [] } := by kernel_rfl
theorem T_95 : T 95 = { k := .strct [(0, 93)], size := 0, bytes := 0, zero := [] } := by kernel_rfl
theorem T_96 : T 96 = { k := .int .u32, size := 1, bytes := 4, zero := [.int .u32 0] } := by kernel_rfl
theorem T_97 : T 97 = { k := .int .u8, size := 1, bytes := 1, zero := [.int .u8 0] } := by kernel_rfl
theorem T_98 : T 98 = { k := .int .u8, size := 1, bytes := 1, zero := [.int .u8 0] } := by kernel_rfl
theorem T_99 : T 99 = { k := .func, size := 1, bytes := 8, zero := [.nilf] } := by kernel_rfl
theorem T_100 : T 100 = { k := .ptr 5, size := 1, bytes := 8, zero := [.nilp] } := by kernel_rfl
theorem T_101 : T 101 = { k := .int .i32, size := 1, bytes := 4, zero := [.int .i32 0] } := by kernel_rfl
theorem T_102 : T 102 = { k := .int .i32, size := 1, bytes := 4, zero := [.int .i32 0] } := by kernel_rfl
theorem T_103 : T 103 = { k := .strct [(0, 12), (1, 12), (2, 96), (3, 97), (4, 5), (5, 5), (6, 98), (7, 99), (8, 100), (9, 101), (10, 102)], size := 11, bytes := 48, zero := [.int .u64 0, .int .u64 0, .int .u32 0, .int .u8 0, .int .u8 0, .int .u8 0, .int .u8 0, .nilf, .nilp, .int .i32 0, .int .i32 0] } := by kernel_rfl
theorem T_104 : T 104 = { k := .strct [(0, 12), (1, 12), (2, 96), (3, 97), (4, 5), (5, 5), (6, 98), (7, 99), (8, 100), (9, 101), (10, 102)], size := 11, bytes := 48, zero := [.int .u64 0, .int .u64 0, .int .u32 0, .int .u8 0, .int .u8 0, .int .u8 0, .int .u8 0, .nilf, .nilp, .int .i32 0, .int .i32 0] } := by kernel_rfl
end Go.Proofs.YtoifmpiikopelaaFw
