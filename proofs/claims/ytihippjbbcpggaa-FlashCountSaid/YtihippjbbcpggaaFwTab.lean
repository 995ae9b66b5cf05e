/-
  The types of the seat's program, as a table for the abstract walk; that the table is right.
-/
import Derived.Test.YtihippjbbcpggaaFwT
import Derived.Test.YtihippjbbcpggaaProg
import Derived.KernelRfl
namespace Go.Proofs.YtihippjbbcpggaaFw
open Go Go.Proofs
set_option linter.unusedVariables false
set_option linter.unusedSimpArgs false
def tabL : List (TypeId × TI) := [
  (1, { k := .func, size := 1, bytes := 8, zero := [.nilf] }),
  (2, { k := .int .i64, size := 1, bytes := 8, zero := [.int .i64 0] }),
  (3, { k := .int .i64, size := 1, bytes := 8, zero := [.int .i64 0] }),
  (4, { k := .bool, size := 1, bytes := 1, zero := [.bool false] }),
  (5, { k := .int .u8, size := 1, bytes := 1, zero := [.int .u8 0] }),
  (6, { k := .int .u8, size := 1, bytes := 1, zero := [.int .u8 0] }),
  (7, { k := .strct [(0, 2), (1, 3), (2, 4), (3, 6)], size := 4, bytes := 24, zero := [.int .i64 0, .int .i64 0, .bool false, .int .u8 0] }),
  (8, { k := .strct [(0, 2), (1, 3), (2, 4), (3, 6)], size := 4, bytes := 24, zero := [.int .i64 0, .int .i64 0, .bool false, .int .u8 0] }),
  (9, { k := .str, size := 1, bytes := 16, zero := [.str ⟨#[]⟩] }),
  (10, { k := .str, size := 1, bytes := 16, zero := [.str ⟨#[]⟩] }),
  (11, { k := .str, size := 1, bytes := 16, zero := [.str ⟨#[]⟩] }),
  (12, { k := .int .u64, size := 1, bytes := 8, zero := [.int .u64 0] }),
  (13, { k := .strct [(0, 9), (1, 12)], size := 2, bytes := 24, zero := [.str ⟨#[]⟩, .int .u64 0] }),
  (14, { k := .strct [(0, 9), (1, 12)], size := 2, bytes := 24, zero := [.str ⟨#[]⟩, .int .u64 0] }),
  (15, { k := .ptr 78, size := 1, bytes := 8, zero := [.nilp] }),
  (16, { k := .ptr 81, size := 1, bytes := 8, zero := [.nilp] }),
  (17, { k := .ptr 89, size := 1, bytes := 8, zero := [.nilp] }),
  (18, { k := .strct [(0, 17)], size := 1, bytes := 8, zero := [.nilp] }),
  (19, { k := .strct [(0, 17)], size := 1, bytes := 8, zero := [.nilp] }),
  (21, { k := .int .i32, size := 1, bytes := 4, zero := [.int .i32 0] }),
  (22, { k := .slice 26, size := 1, bytes := 24, zero := [.sl true 1 []] }),
  (23, { k := .slice 3, size := 1, bytes := 24, zero := [.sl true 1 []] }),
  (24, { k := .strct [(0, 22), (1, 23), (2, 3), (3, 4)], size := 4, bytes := 64, zero := [.sl true 1 [], .sl true 1 [], .int .i64 0, .bool false] }),
  (25, { k := .strct [(0, 22), (1, 23), (2, 3), (3, 4)], size := 4, bytes := 64, zero := [.sl true 1 [], .sl true 1 [], .int .i64 0, .bool false] }),
  (26, { k := .slice 5, size := 1, bytes := 24, zero := [.sl true 1 []] }),
  (27, { k := .int .u16, size := 1, bytes := 2, zero := [.int .u16 0] }),
  (28, { k := .func, size := 1, bytes := 8, zero := [.nilf] }),
  (29, { k := .func, size := 1, bytes := 8, zero := [.nilf] }),
  (30, { k := .func, size := 1, bytes := 8, zero := [.nilf] }),
  (31, { k := .int .i64, size := 1, bytes := 8, zero := [.int .i64 0] }),
  (33, { k := .func, size := 1, bytes := 8, zero := [.nilf] }),
  (34, { k := .func, size := 1, bytes := 8, zero := [.nilf] }),
  (36, { k := .func, size := 1, bytes := 8, zero := [.nilf] }),
  (37, { k := .func, size := 1, bytes := 8, zero := [.nilf] }),
  (38, { k := .func, size := 1, bytes := 8, zero := [.nilf] }),
  (39, { k := .func, size := 1, bytes := 8, zero := [.nilf] }),
  (40, { k := .func, size := 1, bytes := 8, zero := [.nilf] }),
  (41, { k := .func, size := 1, bytes := 8, zero := [.nilf] }),
  (42, { k := .func, size := 1, bytes := 8, zero := [.nilf] }),
  (43, { k := .func, size := 1, bytes := 8, zero := [.nilf] }),
  (44, { k := .func, size := 1, bytes := 8, zero := [.nilf] }),
  (45, { k := .func, size := 1, bytes := 8, zero := [.nilf] }),
  (46, { k := .func, size := 1, bytes := 8, zero := [.nilf] }),
  (47, { k := .func, size := 1, bytes := 8, zero := [.nilf] }),
  (48, { k := .func, size := 1, bytes := 8, zero := [.nilf] }),
  (49, { k := .func, size := 1, bytes := 8, zero := [.nilf] }),
  (50, { k := .func, size := 1, bytes := 8, zero := [.nilf] }),
  (51, { k := .func, size := 1, bytes := 8, zero := [.nilf] }),
  (52, { k := .func, size := 1, bytes := 8, zero := [.nilf] }),
  (53, { k := .func, size := 1, bytes := 8, zero := [.nilf] }),
  (54, { k := .strct [(0, 1), (1, 1)], size := 2, bytes := 16, zero := [.nilf, .nilf] }),
  (55, { k := .strct [(0, 1), (1, 1)], size := 2, bytes := 16, zero := [.nilf, .nilf] }),
  (56, { k := .func, size := 1, bytes := 8, zero := [.nilf] }),
  (57, { k := .ptr 25, size := 1, bytes := 8, zero := [.nilp] }),
  (59, { k := .func, size := 1, bytes := 8, zero := [.nilf] }),
  (60, { k := .func, size := 1, bytes := 8, zero := [.nilf] }),
  (61, { k := .func, size := 1, bytes := 8, zero := [.nilf] }),
  (62, { k := .ptr 5, size := 1, bytes := 8, zero := [.nilp] }),
  (63, { k := .func, size := 1, bytes := 8, zero := [.nilf] }),
  (64, { k := .func, size := 1, bytes := 8, zero := [.nilf] }),
  (65, { k := .func, size := 1, bytes := 8, zero := [.nilf] }),
  (66, { k := .int .u64, size := 1, bytes := 8, zero := [.int .u64 0] }),
  (68, { k := .func, size := 1, bytes := 8, zero := [.nilf] }),
  (69, { k := .func, size := 1, bytes := 8, zero := [.nilf] }),
  (70, { k := .int .u32, size := 1, bytes := 4, zero := [.int .u32 0] }),
  (72, { k := .func, size := 1, bytes := 8, zero := [.nilf] }),
  (73, { k := .int .u64, size := 1, bytes := 8, zero := [.int .u64 0] }),
  (75, { k := .func, size := 1, bytes := 8, zero := [.nilf] }),
  (76, { k := .func, size := 1, bytes := 8, zero := [.nilf] }),
  (77, { k := .strct [(0, 17), (1, 17), (2, 17), (3, 9)], size := 4, bytes := 40, zero := [.nilp, .nilp, .nilp, .str ⟨#[]⟩] }),
  (78, { k := .strct [(0, 17), (1, 17), (2, 17), (3, 9)], size := 4, bytes := 40, zero := [.nilp, .nilp, .nilp, .str ⟨#[]⟩] }),
  (79, { k := .arr 0 16, size := 0, bytes := 0, zero := [] }),
  (80, { k := .strct [(0, 79)], size := 0, bytes := 0, zero := [] }),
  (81, { k := .strct [(0, 79)], size := 0, bytes := 0, zero := [] }),
  (82, { k := .func, size := 1, bytes := 8, zero := [.nilf] }),
  (83, { k := .int .u8, size := 1, bytes := 1, zero := [.int .u8 0] }),
  (84, { k := .int .u8, size := 1, bytes := 1, zero := [.int .u8 0] }),
  (85, { k := .func, size := 1, bytes := 8, zero := [.nilf] }),
  (86, { k := .int .i32, size := 1, bytes := 4, zero := [.int .i32 0] }),
  (87, { k := .int .i32, size := 1, bytes := 4, zero := [.int .i32 0] }),
  (88, { k := .strct [(0, 12), (1, 12), (2, 70), (3, 83), (4, 5), (5, 5), (6, 84), (7, 85), (8, 62), (9, 86), (10, 87)], size := 11, bytes := 48, zero := [.int .u64 0, .int .u64 0, .int .u32 0, .int .u8 0, .int .u8 0, .int .u8 0, .int .u8 0, .nilf, .nilp, .int .i32 0, .int .i32 0] }),
  (89, { k := .strct [(0, 12), (1, 12), (2, 70), (3, 83), (4, 5), (5, 5), (6, 84), (7, 85), (8, 62), (9, 86), (10, 87)], size := 11, bytes := 48, zero := [.int .u64 0, .int .u64 0, .int .u32 0, .int .u8 0, .int .u8 0, .int .u8 0, .int .u8 0, .nilf, .nilp, .int .i32 0, .int .i32 0] })]
def T : Tab := tabOf tabL
theorem tabOk : TabOk Try.prog T := tabOk_of Try.prog tabL (by kernel_rfl)
theorem T_1 : T 1 = { k := .func, size := 1, bytes := 8, zero := [.nilf] } := by kernel_rfl
theorem T_2 : T 2 = { k := .int .i64, size := 1, bytes := 8, zero := [.int .i64 0] } := by kernel_rfl
theorem T_3 : T 3 = { k := .int .i64, size := 1, bytes := 8, zero := [.int .i64 0] } := by kernel_rfl
theorem T_4 : T 4 = { k := .bool, size := 1, bytes := 1, zero := [.bool false] } := by kernel_rfl
theorem T_5 : T 5 = { k := .int .u8, size := 1, bytes := 1, zero := [.int .u8 0] } := by kernel_rfl
theorem T_6 : T 6 = { k := .int .u8, size := 1, bytes := 1, zero := [.int .u8 0] } := by kernel_rfl
theorem T_7 : T 7 = { k := .strct [(0, 2), (1, 3), (2, 4), (3, 6)], size := 4, bytes := 24, zero := [.int .i64 0, .int .i64 0, .bool false, .int .u8 0] } := by kernel_rfl
theorem T_8 : T 8 = { k := .strct [(0, 2), (1, 3), (2, 4), (3, 6)], size := 4, bytes := 24, zero := [.int .i64 0, .int .i64 0, .bool false, .int .u8 0] } := by kernel_rfl
theorem T_9 : T 9 = { k := .str, size := 1, bytes := 16, zero := [.str ⟨#[]⟩] } := by kernel_rfl
theorem T_10 : T 10 = { k := .str, size := 1, bytes := 16, zero := [.str ⟨#[]⟩] } := by kernel_rfl
theorem T_11 : T 11 = { k := .str, size := 1, bytes := 16, zero := [.str ⟨#[]⟩] } := by kernel_rfl
theorem T_12 : T 12 = { k := .int .u64, size := 1, bytes := 8, zero := [.int .u64 0] } := by kernel_rfl
theorem T_13 : T 13 = { k := .strct [(0, 9), (1, 12)], size := 2, bytes := 24, zero := [.str ⟨#[]⟩, .int .u64 0] } := by kernel_rfl
theorem T_14 : T 14 = { k := .strct [(0, 9), (1, 12)], size := 2, bytes := 24, zero := [.str ⟨#[]⟩, .int .u64 0] } := by kernel_rfl
theorem T_15 : T 15 = { k := .ptr 78, size := 1, bytes := 8, zero := [.nilp] } := by kernel_rfl
theorem T_16 : T 16 = { k := .ptr 81, size := 1, bytes := 8, zero := [.nilp] } := by kernel_rfl
theorem T_17 : T 17 = { k := .ptr 89, size := 1, bytes := 8, zero := [.nilp] } := by kernel_rfl
theorem T_18 : T 18 = { k := .strct [(0, 17)], size := 1, bytes := 8, zero := [.nilp] } := by kernel_rfl
theorem T_19 : T 19 = { k := .strct [(0, 17)], size := 1, bytes := 8, zero := [.nilp] } := by kernel_rfl
theorem T_21 : T 21 = { k := .int .i32, size := 1, bytes := 4, zero := [.int .i32 0] } := by kernel_rfl
theorem T_22 : T 22 = { k := .slice 26, size := 1, bytes := 24, zero := [.sl true 1 []] } := by kernel_rfl
theorem T_23 : T 23 = { k := .slice 3, size := 1, bytes := 24, zero := [.sl true 1 []] } := by kernel_rfl
theorem T_24 : T 24 = { k := .strct [(0, 22), (1, 23), (2, 3), (3, 4)], size := 4, bytes := 64, zero := [.sl true 1 [], .sl true 1 [], .int .i64 0, .bool false] } := by kernel_rfl
theorem T_25 : T 25 = { k := .strct [(0, 22), (1, 23), (2, 3), (3, 4)], size := 4, bytes := 64, zero := [.sl true 1 [], .sl true 1 [], .int .i64 0, .bool false] } := by kernel_rfl
theorem T_26 : T 26 = { k := .slice 5, size := 1, bytes := 24, zero := [.sl true 1 []] } := by kernel_rfl
theorem T_27 : T 27 = { k := .int .u16, size := 1, bytes := 2, zero := [.int .u16 0] } := by kernel_rfl
theorem T_28 : T 28 = { k := .func, size := 1, bytes := 8, zero := [.nilf] } := by kernel_rfl
theorem T_29 : T 29 = { k := .func, size := 1, bytes := 8, zero := [.nilf] } := by kernel_rfl
theorem T_30 : T 30 = { k := .func, size := 1, bytes := 8, zero := [.nilf] } := by kernel_rfl
theorem T_31 : T 31 = { k := .int .i64, size := 1, bytes := 8, zero := [.int .i64 0] } := by kernel_rfl
theorem T_33 : T 33 = { k := .func, size := 1, bytes := 8, zero := [.nilf] } := by kernel_rfl
theorem T_34 : T 34 = { k := .func, size := 1, bytes := 8, zero := [.nilf] } := by kernel_rfl
theorem T_36 : T 36 = { k := .func, size := 1, bytes := 8, zero := [.nilf] } := by kernel_rfl
theorem T_37 : T 37 = { k := .func, size := 1, bytes := 8, zero := [.nilf] } := by kernel_rfl
theorem T_38 : T 38 = { k := .func, size := 1, bytes := 8, zero := [.nilf] } := by kernel_rfl
theorem T_39 : T 39 = { k := .func, size := 1, bytes := 8, zero := [.nilf] } := by kernel_rfl
theorem T_40 : T 40 = { k := .func, size := 1, bytes := 8, zero := [.nilf] } := by kernel_rfl
theorem T_41 : T 41 = { k := .func, size := 1, bytes := 8, zero := [.nilf] } := by kernel_rfl
theorem T_42 : T 42 = { k := .func, size := 1, bytes := 8, zero := [.nilf] } := by kernel_rfl
theorem T_43 : T 43 = { k := .func, size := 1, bytes := 8, zero := [.nilf] } := by kernel_rfl
theorem T_44 : T 44 = { k := .func, size := 1, bytes := 8, zero := [.nilf] } := by kernel_rfl
theorem T_45 : T 45 = { k := .func, size := 1, bytes := 8, zero := [.nilf] } := by kernel_rfl
theorem T_46 : T 46 = { k := .func, size := 1, bytes := 8, zero := [.nilf] } := by kernel_rfl
theorem T_47 : T 47 = { k := .func, size := 1, bytes := 8, zero := [.nilf] } := by kernel_rfl
theorem T_48 : T 48 = { k := .func, size := 1, bytes := 8, zero := [.nilf] } := by kernel_rfl
theorem T_49 : T 49 = { k := .func, size := 1, bytes := 8, zero := [.nilf] } := by kernel_rfl
theorem T_50 : T 50 = { k := .func, size := 1, bytes := 8, zero := [.nilf] } := by kernel_rfl
theorem T_51 : T 51 = { k := .func, size := 1, bytes := 8, zero := [.nilf] } := by kernel_rfl
theorem T_52 : T 52 = { k := .func, size := 1, bytes := 8, zero := [.nilf] } := by kernel_rfl
theorem T_53 : T 53 = { k := .func, size := 1, bytes := 8, zero := [.nilf] } := by kernel_rfl
theorem T_54 : T 54 = { k := .strct [(0, 1), (1, 1)], size := 2, bytes := 16, zero := [.nilf, .nilf] } := by kernel_rfl
theorem T_55 : T 55 = { k := .strct [(0, 1), (1, 1)], size := 2, bytes := 16, zero := [.nilf, .nilf] } := by kernel_rfl
theorem T_56 : T 56 = { k := .func, size := 1, bytes := 8, zero := [.nilf] } := by kernel_rfl
theorem T_57 : T 57 = { k := .ptr 25, size := 1, bytes := 8, zero := [.nilp] } := by kernel_rfl
theorem T_59 : T 59 = { k := .func, size := 1, bytes := 8, zero := [.nilf] } := by kernel_rfl
theorem T_60 : T 60 = { k := .func, size := 1, bytes := 8, zero := [.nilf] } := by kernel_rfl
theorem T_61 : T 61 = { k := .func, size := 1, bytes := 8, zero := [.nilf] } := by kernel_rfl
theorem T_62 : T 62 = { k := .ptr 5, size := 1, bytes := 8, zero := [.nilp] } := by kernel_rfl
theorem T_63 : T 63 = { k := .func, size := 1, bytes := 8, zero := [.nilf] } := by kernel_rfl
theorem T_64 : T 64 = { k := .func, size := 1, bytes := 8, zero := [.nilf] } := by kernel_rfl
theorem T_65 : T 65 = { k := .func, size := 1, bytes := 8, zero := [.nilf] } := by kernel_rfl
theorem T_66 : T 66 = { k := .int .u64, size := 1, bytes := 8, zero := [.int .u64 0] } := by kernel_rfl
theorem T_68 : T 68 = { k := .func, size := 1, bytes := 8, zero := [.nilf] } := by kernel_rfl
theorem T_69 : T 69 = { k := .func, size := 1, bytes := 8, zero := [.nilf] } := by kernel_rfl
theorem T_70 : T 70 = { k := .int .u32, size := 1, bytes := 4, zero := [.int .u32 0] } := by kernel_rfl
theorem T_72 : T 72 = { k := .func, size := 1, bytes := 8, zero := [.nilf] } := by kernel_rfl
theorem T_73 : T 73 = { k := .int .u64, size := 1, bytes := 8, zero := [.int .u64 0] } := by kernel_rfl
theorem T_75 : T 75 = { k := .func, size := 1, bytes := 8, zero := [.nilf] } := by kernel_rfl
theorem T_76 : T 76 = { k := .func, size := 1, bytes := 8, zero := [.nilf] } := by kernel_rfl
theorem T_77 : T 77 = { k := .strct [(0, 17), (1, 17), (2, 17), (3, 9)], size := 4, bytes := 40, zero := [.nilp, .nilp, .nilp, .str ⟨#[]⟩] } := by kernel_rfl
theorem T_78 : T 78 = { k := .strct [(0, 17), (1, 17), (2, 17), (3, 9)], size := 4, bytes := 40, zero := [.nilp, .nilp, .nilp, .str ⟨#[]⟩] } := by kernel_rfl
theorem T_79 : T 79 = { k := .arr 0 16, size := 0, bytes := 0, zero := [] } := by kernel_rfl
theorem T_80 : T 80 = { k := .strct [(0, 79)], size := 0, bytes := 0, zero := [] } := by kernel_rfl
theorem T_81 : T 81 = { k := .strct [(0, 79)], size := 0, bytes := 0, zero := [] } := by kernel_rfl
theorem T_82 : T 82 = { k := .func, size := 1, bytes := 8, zero := [.nilf] } := by kernel_rfl
theorem T_83 : T 83 = { k := .int .u8, size := 1, bytes := 1, zero := [.int .u8 0] } := by kernel_rfl
theorem T_84 : T 84 = { k := .int .u8, size := 1, bytes := 1, zero := [.int .u8 0] } := by kernel_rfl
theorem T_85 : T 85 = { k := .func, size := 1, bytes := 8, zero := [.nilf] } := by kernel_rfl
theorem T_86 : T 86 = { k := .int .i32, size := 1, bytes := 4, zero := [.int .i32 0] } := by kernel_rfl
theorem T_87 : T 87 = { k := .int .i32, size := 1, bytes := 4, zero := [.int .i32 0] } := by kernel_rfl
theorem T_88 : T 88 = { k := .strct [(0, 12), (1, 12), (2, 70), (3, 83), (4, 5), (5, 5), (6, 84), (7, 85), (8, 62), (9, 86), (10, 87)], size := 11, bytes := 48, zero := [.int .u64 0, .int .u64 0, .int .u32 0, .int .u8 0, .int .u8 0, .int .u8 0, .int .u8 0, .nilf, .nilp, .int .i32 0, .int .i32 0] } := by kernel_rfl
theorem T_89 : T 89 = { k := .strct [(0, 12), (1, 12), (2, 70), (3, 83), (4, 5), (5, 5), (6, 84), (7, 85), (8, 62), (9, 86), (10, 87)], size := 11, bytes := 48, zero := [.int .u64 0, .int .u64 0, .int .u32 0, .int .u8 0, .int .u8 0, .int .u8 0, .int .u8 0, .nilf, .nilp, .int .i32 0, .int .i32 0] } := by kernel_rfl
end Go.Proofs.YtihippjbbcpggaaFw
