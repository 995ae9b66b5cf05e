/-
  The types of the seat's program, as a table for the abstract walk; that the table is right.
-/
import Derived.Test.YtoifmpiikopelaaDoorFwT
import Derived.Test.YtoifmpiikopelaaDoorProg
import Derived.KernelRfl
namespace Go.Proofs.YtoifmpiikopelaaDoorFw
open Go Go.Proofs
set_option linter.unusedVariables false
set_option linter.unusedSimpArgs false
def tabL : List (TypeId × TI) := [
  (1, { k := .func, size := 1, bytes := 8, zero := [.nilf] }),
  (2, { k := .int .i64, size := 1, bytes := 8, zero := [.int .i64 0] }),
  (3, { k := .int .i64, size := 1, bytes := 8, zero := [.int .i64 0] }),
  (4, { k := .bool, size := 1, bytes := 1, zero := [.bool false] }),
  (5, { k := .int .u8, size := 1, bytes := 1, zero := [.int .u8 0] }),
  (6, { k := .int .u8, size := 1, bytes := 1, zero := [.int .u8 0] }),
  (7, { k := .strct [(0, 2), (1, 3), (2, 4), (3, 6)], size := 4, bytes := 24, zero := [.int .i64 0, .int .i64 0, .bool false, .int .u8 0] }),
  (8, { k := .strct [(0, 2), (1, 3), (2, 4), (3, 6)], size := 4, bytes := 24, zero := [.int .i64 0, .int .i64 0, .bool false, .int .u8 0] }),
  (9, { k := .str, size := 1, bytes := 16, zero := [.str ⟨#[]⟩] }),
  (10, { k := .str, size := 1, bytes := 16, zero := [.str ⟨#[]⟩] }),
  (11, { k := .str, size := 1, bytes := 16, zero := [.str ⟨#[]⟩] }),
  (12, { k := .int .u64, size := 1, bytes := 8, zero := [.int .u64 0] }),
  (13, { k := .strct [(0, 9), (1, 12)], size := 2, bytes := 24, zero := [.str ⟨#[]⟩, .int .u64 0] }),
  (14, { k := .strct [(0, 9), (1, 12)], size := 2, bytes := 24, zero := [.str ⟨#[]⟩, .int .u64 0] }),
  (15, { k := .ptr 165, size := 1, bytes := 8, zero := [.nilp] }),
  (16, { k := .ptr 168, size := 1, bytes := 8, zero := [.nilp] }),
  (17, { k := .ptr 175, size := 1, bytes := 8, zero := [.nilp] }),
  (18, { k := .strct [(0, 17)], size := 1, bytes := 8, zero := [.nilp] }),
  (19, { k := .strct [(0, 17)], size := 1, bytes := 8, zero := [.nilp] }),
  (21, { k := .int .i32, size := 1, bytes := 4, zero := [.int .i32 0] }),
  (22, { k := .slice 5, size := 1, bytes := 24, zero := [.sl true 1 []] }),
  (23, { k := .strct [(0, 3), (1, 22)], size := 2, bytes := 32, zero := [.int .i64 0, .sl true 1 []] }),
  (24, { k := .strct [(0, 3), (1, 22)], size := 2, bytes := 32, zero := [.int .i64 0, .sl true 1 []] }),
  (25, { k := .int .u32, size := 1, bytes := 4, zero := [.int .u32 0] }),
  (26, { k := .func, size := 1, bytes := 8, zero := [.nilf] }),
  (27, { k := .func, size := 1, bytes := 8, zero := [.nilf] }),
  (28, { k := .slice 22, size := 1, bytes := 24, zero := [.sl true 1 []] }),
  (29, { k := .slice 3, size := 1, bytes := 24, zero := [.sl true 1 []] }),
  (30, { k := .strct [(0, 28), (1, 29), (2, 3), (3, 4)], size := 4, bytes := 64, zero := [.sl true 1 [], .sl true 1 [], .int .i64 0, .bool false] }),
  (31, { k := .strct [(0, 28), (1, 29), (2, 3), (3, 4)], size := 4, bytes := 64, zero := [.sl true 1 [], .sl true 1 [], .int .i64 0, .bool false] }),
  (33, { k := .func, size := 1, bytes := 8, zero := [.nilf] }),
  (34, { k := .func, size := 1, bytes := 8, zero := [.nilf] }),
  (35, { k := .int .i64, size := 1, bytes := 8, zero := [.int .i64 0] }),
  (37, { k := .func, size := 1, bytes := 8, zero := [.nilf] }),
  (38, { k := .arr 2 3, size := 2, bytes := 16, zero := [.int .i64 0, .int .i64 0], kinds := [.int .i64, .int .i64] }),
  (39, { k := .strct [(0, 3), (1, 38), (3, 38), (5, 3)], size := 6, bytes := 48, zero := [.int .i64 0, .int .i64 0, .int .i64 0, .int .i64 0, .int .i64 0, .int .i64 0] }),
  (40, { k := .strct [(0, 3), (1, 38), (3, 38), (5, 3)], size := 6, bytes := 48, zero := [.int .i64 0, .int .i64 0, .int .i64 0, .int .i64 0, .int .i64 0, .int .i64 0], kinds := [.int .i64, .int .i64, .int .i64, .int .i64, .int .i64, .int .i64] }),
  (42, { k := .func, size := 1, bytes := 8, zero := [.nilf] }),
  (43, { k := .func, size := 1, bytes := 8, zero := [.nilf] }),
  (44, { k := .func, size := 1, bytes := 8, zero := [.nilf] }),
  (45, { k := .func, size := 1, bytes := 8, zero := [.nilf] }),
  (46, { k := .slice 40, size := 1, bytes := 24, zero := [.sl true 6 []] }),
  (47, { k := .func, size := 1, bytes := 8, zero := [.nilf] }),
  (49, { k := .func, size := 1, bytes := 8, zero := [.nilf] }),
  (51, { k := .func, size := 1, bytes := 8, zero := [.nilf] }),
  (52, { k := .func, size := 1, bytes := 8, zero := [.nilf] }),
  (53, { k := .func, size := 1, bytes := 8, zero := [.nilf] }),
  (54, { k := .int .u64, size := 1, bytes := 8, zero := [.int .u64 0] }),
  (55, { k := .func, size := 1, bytes := 8, zero := [.nilf] }),
  (56, { k := .int .u16, size := 1, bytes := 2, zero := [.int .u16 0] }),
  (58, { k := .func, size := 1, bytes := 8, zero := [.nilf] }),
  (59, { k := .func, size := 1, bytes := 8, zero := [.nilf] }),
  (60, { k := .strct [(0, 4), (1, 3), (2, 3), (3, 3), (4, 3)], size := 5, bytes := 40, zero := [.bool false, .int .i64 0, .int .i64 0, .int .i64 0, .int .i64 0] }),
  (61, { k := .strct [(0, 4), (1, 3), (2, 3), (3, 3), (4, 3)], size := 5, bytes := 40, zero := [.bool false, .int .i64 0, .int .i64 0, .int .i64 0, .int .i64 0], kinds := [.bool, .int .i64, .int .i64, .int .i64, .int .i64] }),
  (63, { k := .func, size := 1, bytes := 8, zero := [.nilf] }),
  (64, { k := .func, size := 1, bytes := 8, zero := [.nilf] }),
  (65, { k := .func, size := 1, bytes := 8, zero := [.nilf] }),
  (66, { k := .func, size := 1, bytes := 8, zero := [.nilf] }),
  (67, { k := .func, size := 1, bytes := 8, zero := [.nilf] }),
  (68, { k := .func, size := 1, bytes := 8, zero := [.nilf] }),
  (69, { k := .func, size := 1, bytes := 8, zero := [.nilf] }),
  (70, { k := .func, size := 1, bytes := 8, zero := [.nilf] }),
  (72, { k := .func, size := 1, bytes := 8, zero := [.nilf] }),
  (73, { k := .func, size := 1, bytes := 8, zero := [.nilf] }),
  (74, { k := .slice 56, size := 1, bytes := 24, zero := [.sl true 1 []] }),
  (75, { k := .func, size := 1, bytes := 8, zero := [.nilf] }),
  (76, { k := .func, size := 1, bytes := 8, zero := [.nilf] }),
  (77, { k := .func, size := 1, bytes := 8, zero := [.nilf] }),
  (78, { k := .func, size := 1, bytes := 8, zero := [.nilf] }),
  (79, { k := .func, size := 1, bytes := 8, zero := [.nilf] }),
  (80, { k := .func, size := 1, bytes := 8, zero := [.nilf] }),
  (81, { k := .func, size := 1, bytes := 8, zero := [.nilf] }),
  (82, { k := .func, size := 1, bytes := 8, zero := [.nilf] }),
  (83, { k := .func, size := 1, bytes := 8, zero := [.nilf] }),
  (84, { k := .func, size := 1, bytes := 8, zero := [.nilf] }),
  (85, { k := .strct [(0, 31), (4, 40), (10, 3)], size := 11, bytes := 120, zero := [.sl true 1 [], .sl true 1 [], .int .i64 0, .bool false, .int .i64 0, .int .i64 0, .int .i64 0, .int .i64 0, .int .i64 0, .int .i64 0, .int .i64 0] }),
  (86, { k := .strct [(0, 31), (4, 40), (10, 3)], size := 11, bytes := 120, zero := [.sl true 1 [], .sl true 1 [], .int .i64 0, .bool false, .int .i64 0, .int .i64 0, .int .i64 0, .int .i64 0, .int .i64 0, .int .i64 0, .int .i64 0] }),
  (87, { k := .func, size := 1, bytes := 8, zero := [.nilf] }),
  (88, { k := .func, size := 1, bytes := 8, zero := [.nilf] }),
  (89, { k := .func, size := 1, bytes := 8, zero := [.nilf] }),
  (90, { k := .func, size := 1, bytes := 8, zero := [.nilf] }),
  (92, { k := .func, size := 1, bytes := 8, zero := [.nilf] }),
  (94, { k := .func, size := 1, bytes := 8, zero := [.nilf] }),
  (95, { k := .func, size := 1, bytes := 8, zero := [.nilf] }),
  (96, { k := .func, size := 1, bytes := 8, zero := [.nilf] }),
  (97, { k := .func, size := 1, bytes := 8, zero := [.nilf] }),
  (98, { k := .func, size := 1, bytes := 8, zero := [.nilf] }),
  (99, { k := .func, size := 1, bytes := 8, zero := [.nilf] }),
  (100, { k := .func, size := 1, bytes := 8, zero := [.nilf] }),
  (101, { k := .func, size := 1, bytes := 8, zero := [.nilf] }),
  (102, { k := .func, size := 1, bytes := 8, zero := [.nilf] }),
  (103, { k := .func, size := 1, bytes := 8, zero := [.nilf] }),
  (104, { k := .func, size := 1, bytes := 8, zero := [.nilf] }),
  (105, { k := .func, size := 1, bytes := 8, zero := [.nilf] }),
  (106, { k := .func, size := 1, bytes := 8, zero := [.nilf] }),
  (107, { k := .strct [(0, 1), (1, 1)], size := 2, bytes := 16, zero := [.nilf, .nilf] }),
  (108, { k := .strct [(0, 1), (1, 1)], size := 2, bytes := 16, zero := [.nilf, .nilf] }),
  (109, { k := .func, size := 1, bytes := 8, zero := [.nilf] }),
  (110, { k := .ptr 31, size := 1, bytes := 8, zero := [.nilp] }),
  (111, { k := .ptr 5, size := 1, bytes := 8, zero := [.nilp] }),
  (112, { k := .int .i8, size := 1, bytes := 1, zero := [.int .i8 0] }),
  (113, { k := .int .i8, size := 1, bytes := 1, zero := [.int .i8 0] }),
  (114, { k := .strct [(0, 22), (1, 3), (2, 113)], size := 3, bytes := 40, zero := [.sl true 1 [], .int .i64 0, .int .i8 0] }),
  (115, { k := .strct [(0, 22), (1, 3), (2, 113)], size := 3, bytes := 40, zero := [.val .nils, .int .i64 0, .int .i8 0] }),
  (116, { k := .strct [(0, 115)], size := 3, bytes := 40, zero := [.val .nils, .int .i64 0, .int .i8 0] }),
  (117, { k := .strct [(0, 115)], size := 3, bytes := 40, zero := [.val .nils, .int .i64 0, .int .i8 0] }),
  (118, { k := .func, size := 1, bytes := 8, zero := [.nilf] }),
  (121, { k := .func, size := 1, bytes := 8, zero := [.nilf] }),
  (122, { k := .func, size := 1, bytes := 8, zero := [.nilf] }),
  (123, { k := .func, size := 1, bytes := 8, zero := [.nilf] }),
  (124, { k := .func, size := 1, bytes := 8, zero := [.nilf] }),
  (125, { k := .func, size := 1, bytes := 8, zero := [.nilf] }),
  (126, { k := .func, size := 1, bytes := 8, zero := [.nilf] }),
  (127, { k := .func, size := 1, bytes := 8, zero := [.nilf] }),
  (128, { k := .func, size := 1, bytes := 8, zero := [.nilf] }),
  (129, { k := .func, size := 1, bytes := 8, zero := [.nilf] }),
  (130, { k := .func, size := 1, bytes := 8, zero := [.nilf] }),
  (131, { k := .ptr 117, size := 1, bytes := 8, zero := [.nilp] }),
  (132, { k := .func, size := 1, bytes := 8, zero := [.nilf] }),
  (133, { k := .ptr 115, size := 1, bytes := 8, zero := [.nilp] }),
  (136, { k := .func, size := 1, bytes := 8, zero := [.nilf] }),
  (137, { k := .func, size := 1, bytes := 8, zero := [.nilf] }),
  (138, { k := .func, size := 1, bytes := 8, zero := [.nilf] }),
  (139, { k := .strct [(0, 138)], size := 1, bytes := 8, zero := [.nilf] }),
  (140, { k := .strct [(0, 138)], size := 1, bytes := 8, zero := [.nilf] }),
  (142, { k := .func, size := 1, bytes := 8, zero := [.nilf] }),
  (143, { k := .func, size := 1, bytes := 8, zero := [.nilf] }),
  (145, { k := .func, size := 1, bytes := 8, zero := [.nilf] }),
  (146, { k := .strct [(0, 17)], size := 1, bytes := 8, zero := [.nilp] }),
  (147, { k := .strct [(0, 17)], size := 1, bytes := 8, zero := [.nilp] }),
  (148, { k := .ptr 183, size := 1, bytes := 8, zero := [.nilp] }),
  (152, { k := .func, size := 1, bytes := 8, zero := [.nilf] }),
  (154, { k := .slice 120, size := 1, bytes := 24, zero := [.sl true 1 []] }),
  (155, { k := .func, size := 1, bytes := 8, zero := [.nilf] }),
  (157, { k := .func, size := 1, bytes := 8, zero := [.nilf] }),
  (158, { k := .int .u64, size := 1, bytes := 8, zero := [.int .u64 0] }),
  (160, { k := .func, size := 1, bytes := 8, zero := [.nilf] }),
  (161, { k := .func, size := 1, bytes := 8, zero := [.nilf] }),
  (162, { k := .ptr 185, size := 1, bytes := 8, zero := [.nilp] }),
  (163, { k := .func, size := 1, bytes := 8, zero := [.nilf] }),
  (164, { k := .strct [(0, 17), (1, 17), (2, 17), (3, 9)], size := 4, bytes := 40, zero := [.nilp, .nilp, .nilp, .str ⟨#[]⟩] }),
  (165, { k := .strct [(0, 17), (1, 17), (2, 17), (3, 9)], size := 4, bytes := 40, zero := [.nilp, .nilp, .nilp, .str ⟨#[]⟩] }),
  (166, { k := .arr 0 16, size := 0, bytes := 0, zero := [] }),
  (167, { k := .strct [(0, 166)], size := 0, bytes := 0, zero := [] }),
  (168, { k := .strct [(0, 166)], size := 0, bytes := 0, zero := [] }),
  (169, { k := .int .u8, size := 1, bytes := 1, zero := [.int .u8 0] }),
  (170, { k := .int .u8, size := 1, bytes := 1, zero := [.int .u8 0] }),
  (171, { k := .func, size := 1, bytes := 8, zero := [.nilf] }),
  (172, { k := .int .i32, size := 1, bytes := 4, zero := [.int .i32 0] }),
  (173, { k := .int .i32, size := 1, bytes := 4, zero := [.int .i32 0] }),
  (174, { k := .strct [(0, 12), (1, 12), (2, 25), (3, 169), (4, 5), (5, 5), (6, 170), (7, 171), (8, 111), (9, 172), (10, 173)], size := 11, bytes := 48, zero := [.int .u64 0, .int .u64 0, .int .u32 0, .int .u8 0, .int .u8 0, .int .u8 0, .int .u8 0, .nilf, .nilp, .int .i32 0, .int .i32 0] }),
  (175, { k := .strct [(0, 12), (1, 12), (2, 25), (3, 169), (4, 5), (5, 5), (6, 170), (7, 171), (8, 111), (9, 172), (10, 173)], size := 11, bytes := 48, zero := [.int .u64 0, .int .u64 0, .int .u32 0, .int .u8 0, .int .u8 0, .int .u8 0, .int .u8 0, .nilf, .nilp, .int .i32 0, .int .i32 0] }),
  (176, { k := .func, size := 1, bytes := 8, zero := [.nilf] }),
  (177, { k := .func, size := 1, bytes := 8, zero := [.nilf] }),
  (178, { k := .func, size := 1, bytes := 8, zero := [.nilf] }),
  (179, { k := .func, size := 1, bytes := 8, zero := [.nilf] }),
  (180, { k := .func, size := 1, bytes := 8, zero := [.nilf] }),
  (181, { k := .func, size := 1, bytes := 8, zero := [.nilf] }),
  (182, { k := .strct [(0, 9), (1, 170)], size := 2, bytes := 24, zero := [.str ⟨#[]⟩, .int .u8 0] }),
  (183, { k := .strct [(0, 9), (1, 170)], size := 2, bytes := 24, zero := [.str ⟨#[]⟩, .int .u8 0] }),
  (184, { k := .strct [(0, 9)], size := 1, bytes := 16, zero := [.str ⟨#[]⟩] }),
  (185, { k := .strct [(0, 9)], size := 1, bytes := 16, zero := [.str ⟨#[]⟩] }),
  (187, { k := .ptr 190, size := 1, bytes := 8, zero := [.nilp] }),
  (188, { k := .func, size := 1, bytes := 8, zero := [.nilf] }),
  (189, { k := .strct [(0, 172), (1, 56), (2, 56), (3, 25), (4, 25)], size := 5, bytes := 16, zero := [.int .i32 0, .int .u16 0, .int .u16 0, .int .u32 0, .int .u32 0] }),
  (190, { k := .strct [(0, 172), (1, 56), (2, 56), (3, 25), (4, 25)], size := 5, bytes := 16, zero := [.int .i32 0, .int .u16 0, .int .u16 0, .int .u32 0, .int .u32 0] }),
  (191, { k := .slice 194, size := 1, bytes := 24, zero := [.sl true 4 []] }),
  (192, { k := .int .i32, size := 1, bytes := 4, zero := [.int .i32 0] }),
  (193, { k := .strct [(0, 172), (1, 173), (2, 192), (3, 192)], size := 4, bytes := 16, zero := [.int .i32 0, .int .i32 0, .int .i32 0, .int .i32 0] }),
  (194, { k := .strct [(0, 172), (1, 173), (2, 192), (3, 192)], size := 4, bytes := 16, zero := [.int .i32 0, .int .i32 0, .int .i32 0, .int .i32 0] }),
  (195, { k := .func, size := 1, bytes := 8, zero := [.nilf] })]
def T : Tab := tabOf tabL
theorem tabOk : TabOk Tryd.prog T := tabOk_of Tryd.prog tabL (by kernel_rfl)
theorem T_1 : T 1 = { k := .func, size := 1, bytes := 8, zero := [.nilf] } := by kernel_rfl
theorem T_2 : T 2 = { k := .int .i64, size := 1, bytes := 8, zero := [.int .i64 0] } := by kernel_rfl
theorem T_3 : T 3 = { k := .int .i64, size := 1, bytes := 8, zero := [.int .i64 0] } := by kernel_rfl
theorem T_4 : T 4 = { k := .bool, size := 1, bytes := 1, zero := [.bool false] } := by kernel_rfl
theorem T_5 : T 5 = { k := .int .u8, size := 1, bytes := 1, zero := [.int .u8 0] } := by kernel_rfl
theorem T_6 : T 6 = { k := .int .u8, size := 1, bytes := 1, zero := [.int .u8 0] } := by kernel_rfl
theorem T_7 : T 7 = { k := .strct [(0, 2), (1, 3), (2, 4), (3, 6)], size := 4, bytes := 24, zero := [.int .i64 0, .int .i64 0, .bool false, .int .u8 0] } := by kernel_rfl
theorem T_8 : T 8 = { k := .strct [(0, 2), (1, 3), (2, 4), (3, 6)], size := 4, bytes := 24, zero := [.int .i64 0, .int .i64 0, .bool false, .int .u8 0] } := by kernel_rfl
theorem T_9 : T 9 = { k := .str, size := 1, bytes := 16, zero := [.str ⟨#[]⟩] } := by kernel_rfl
theorem T_10 : T 10 = { k := .str, size := 1, bytes := 16, zero := [.str ⟨#[]⟩] } := by kernel_rfl
theorem T_11 : T 11 = { k := .str, size := 1, bytes := 16, zero := [.str ⟨#[]⟩] } := by kernel_rfl
theorem T_12 : T 12 = { k := .int .u64, size := 1, bytes := 8, zero := [.int .u64 0] } := by kernel_rfl
theorem T_13 : T 13 = { k := .strct [(0, 9), (1, 12)], size := 2, bytes := 24, zero := [.str ⟨#[]⟩, .int .u64 0] } := by kernel_rfl
theorem T_14 : T 14 = { k := .strct [(0, 9), (1, 12)], size := 2, bytes := 24, zero := [.str ⟨#[]⟩, .int .u64 0] } := by kernel_rfl
theorem T_15 : T 15 = { k := .ptr 165, size := 1, bytes := 8, zero := [.nilp] } := by kernel_rfl
theorem T_16 : T 16 = { k := .ptr 168, size := 1, bytes := 8, zero := [.nilp] } := by kernel_rfl
theorem T_17 : T 17 = { k := .ptr 175, size := 1, bytes := 8, zero := [.nilp] } := by kernel_rfl
theorem T_18 : T 18 = { k := .strct [(0, 17)], size := 1, bytes := 8, zero := [.nilp] } := by kernel_rfl
theorem T_19 : T 19 = { k := .strct [(0, 17)], size := 1, bytes := 8, zero := [.nilp] } := by kernel_rfl
theorem T_21 : T 21 = { k := .int .i32, size := 1, bytes := 4, zero := [.int .i32 0] } := by kernel_rfl
theorem T_22 : T 22 = { k := .slice 5, size := 1, bytes := 24, zero := [.sl true 1 []] } := by kernel_rfl
theorem T_23 : T 23 = { k := .strct [(0, 3), (1, 22)], size := 2, bytes := 32, zero := [.int .i64 0, .sl true 1 []] } := by kernel_rfl
theorem T_24 : T 24 = { k := .strct [(0, 3), (1, 22)], size := 2, bytes := 32, zero := [.int .i64 0, .sl true 1 []] } := by kernel_rfl
theorem T_25 : T 25 = { k := .int .u32, size := 1, bytes := 4, zero := [.int .u32 0] } := by kernel_rfl
theorem T_26 : T 26 = { k := .func, size := 1, bytes := 8, zero := [.nilf] } := by kernel_rfl
theorem T_27 : T 27 = { k := .func, size := 1, bytes := 8, zero := [.nilf] } := by kernel_rfl
theorem T_28 : T 28 = { k := .slice 22, size := 1, bytes := 24, zero := [.sl true 1 []] } := by kernel_rfl
theorem T_29 : T 29 = { k := .slice 3, size := 1, bytes := 24, zero := [.sl true 1 []] } := by kernel_rfl
theorem T_30 : T 30 = { k := .strct [(0, 28), (1, 29), (2, 3), (3, 4)], size := 4, bytes := 64, zero := [.sl true 1 [], .sl true 1 [], .int .i64 0, .bool false] } := by kernel_rfl
theorem T_31 : T 31 = { k := .strct [(0, 28), (1, 29), (2, 3), (3, 4)], size := 4, bytes := 64, zero := [.sl true 1 [], .sl true 1 [], .int .i64 0, .bool false] } := by kernel_rfl
theorem T_33 : T 33 = { k := .func, size := 1, bytes := 8, zero := [.nilf] } := by kernel_rfl
theorem T_34 : T 34 = { k := .func, size := 1, bytes := 8, zero := [.nilf] } := by kernel_rfl
theorem T_35 : T 35 = { k := .int .i64, size := 1, bytes := 8, zero := [.int .i64 0] } := by kernel_rfl
theorem T_37 : T 37 = { k := .func, size := 1, bytes := 8, zero := [.nilf] } := by kernel_rfl
theorem T_38 : T 38 = { k := .arr 2 3, size := 2, bytes := 16, zero := [.int .i64 0, .int .i64 0], kinds := [.int .i64, .int .i64] } := by kernel_rfl
theorem T_39 : T 39 = { k := .strct [(0, 3), (1, 38), (3, 38), (5, 3)], size := 6, bytes := 48, zero := [.int .i64 0, .int .i64 0, .int .i64 0, .int .i64 0, .int .i64 0, .int .i64 0] } := by kernel_rfl
theorem T_40 : T 40 = { k := .strct [(0, 3), (1, 38), (3, 38), (5, 3)], size := 6, bytes := 48, zero := [.int .i64 0, .int .i64 0, .int .i64 0, .int .i64 0, .int .i64 0, .int .i64 0], kinds := [.int .i64, .int .i64, .int .i64, .int .i64, .int .i64, .int .i64] } := by kernel_rfl
theorem T_42 : T 42 = { k := .func, size := 1, bytes := 8, zero := [.nilf] } := by kernel_rfl
theorem T_43 : T 43 = { k := .func, size := 1, bytes := 8, zero := [.nilf] } := by kernel_rfl
theorem T_44 : T 44 = { k := .func, size := 1, bytes := 8, zero := [.nilf] } := by kernel_rfl
theorem T_45 : T 45 = { k := .func, size := 1, bytes := 8, zero := [.nilf] } := by kernel_rfl
theorem T_46 : T 46 = { k := .slice 40, size := 1, bytes := 24, zero := [.sl true 6 []] } := by kernel_rfl
theorem T_47 : T 47 = { k := .func, size := 1, bytes := 8, zero := [.nilf] } := by kernel_rfl
theorem T_49 : T 49 = { k := .func, size := 1, bytes := 8, zero := [.nilf] } := by kernel_rfl
theorem T_51 : T 51 = { k := .func, size := 1, bytes := 8, zero := [.nilf] } := by kernel_rfl
theorem T_52 : T 52 = { k := .func, size := 1, bytes := 8, zero := [.nilf] } := by kernel_rfl
theorem T_53 : T 53 = { k := .func, size := 1, bytes := 8, zero := [.nilf] } := by kernel_rfl
theorem T_54 : T 54 = { k := .int .u64, size := 1, bytes := 8, zero := [.int .u64 0] } := by kernel_rfl
theorem T_55 : T 55 = { k := .func, size := 1, bytes := 8, zero := [.nilf] } := by kernel_rfl
theorem T_56 : T 56 = { k := .int .u16, size := 1, bytes := 2, zero := [.int .u16 0] } := by kernel_rfl
theorem T_58 : T 58 = { k := .func, size := 1, bytes := 8, zero := [.nilf] } := by kernel_rfl
theorem T_59 : T 59 = { k := .func, size := 1, bytes := 8, zero := [.nilf] } := by kernel_rfl
theorem T_60 : T 60 = { k := .strct [(0, 4), (1, 3), (2, 3), (3, 3), (4, 3)], size := 5, bytes := 40, zero := [.bool false, .int .i64 0, .int .i64 0, .int .i64 0, .int .i64 0] } := by kernel_rfl
theorem T_61 : T 61 = { k := .strct [(0, 4), (1, 3), (2, 3), (3, 3), (4, 3)], size := 5, bytes := 40, zero := [.bool false, .int .i64 0, .int .i64 0, .int .i64 0, .int .i64 0], kinds := [.bool, .int .i64, .int .i64, .int .i64, .int .i64] } := by kernel_rfl
theorem T_63 : T 63 = { k := .func, size := 1, bytes := 8, zero := [.nilf] } := by kernel_rfl
theorem T_64 : T 64 = { k := .func, size := 1, bytes := 8, zero := [.nilf] } := by kernel_rfl
theorem T_65 : T 65 = { k := .func, size := 1, bytes := 8, zero := [.nilf] } := by kernel_rfl
theorem T_66 : T 66 = { k := .func, size := 1, bytes := 8, zero := [.nilf] } := by kernel_rfl
theorem T_67 : T 67 = { k := .func, size := 1, bytes := 8, zero := [.nilf] } := by kernel_rfl
theorem T_68 : T 68 = { k := .func, size := 1, bytes := 8, zero := [.nilf] } := by kernel_rfl
theorem T_69 : T 69 = { k := .func, size := 1, bytes := 8, zero := [.nilf] } := by kernel_rfl
theorem T_70 : T 70 = { k := .func, size := 1, bytes := 8, zero := [.nilf] } := by kernel_rfl
theorem T_72 : T 72 = { k := .func, size := 1, bytes := 8, zero := [.nilf] } := by kernel_rfl
theorem T_73 : T 73 = { k := .func, size := 1, bytes := 8, zero := [.nilf] } := by kernel_rfl
theorem T_74 : T 74 = { k := .slice 56, size := 1, bytes := 24, zero := [.sl true 1 []] } := by kernel_rfl
theorem T_75 : T 75 = { k := .func, size := 1, bytes := 8, zero := [.nilf] } := by kernel_rfl
theorem T_76 : T 76 = { k := .func, size := 1, bytes := 8, zero := [.nilf] } := by kernel_rfl
theorem T_77 : T 77 = { k := .func, size := 1, bytes := 8, zero := [.nilf] } := by kernel_rfl
theorem T_78 : T 78 = { k := .func, size := 1, bytes := 8, zero := [.nilf] } := by kernel_rfl
theorem T_79 : T 79 = { k := .func, size := 1, bytes := 8, zero := [.nilf] } := by kernel_rfl
theorem T_80 : T 80 = { k := .func, size := 1, bytes := 8, zero := [.nilf] } := by kernel_rfl
theorem T_81 : T 81 = { k := .func, size := 1, bytes := 8, zero := [.nilf] } := by kernel_rfl
theorem T_82 : T 82 = { k := .func, size := 1, bytes := 8, zero := [.nilf] } := by kernel_rfl
theorem T_83 : T 83 = { k := .func, size := 1, bytes := 8, zero := [.nilf] } := by kernel_rfl
theorem T_84 : T 84 = { k := .func, size := 1, bytes := 8, zero := [.nilf] } := by kernel_rfl
theorem T_85 : T 85 = { k := .strct [(0, 31), (4, 40), (10, 3)], size := 11, bytes := 120, zero := [.sl true 1 [], .sl true 1 [], .int .i64 0, .bool false, .int .i64 0, .int .i64 0, .int .i64 0, .int .i64 0, .int .i64 0, .int .i64 0, .int .i64 0] } := by kernel_rfl
theorem T_86 : T 86 = { k := .strct [(0, 31), (4, 40), (10, 3)], size := 11, bytes := 120, zero := [.sl true 1 [], .sl true 1 [], .int .i64 0, .bool false, .int .i64 0, .int .i64 0, .int .i64 0, .int .i64 0, .int .i64 0, .int .i64 0, .int .i64 0] } := by kernel_rfl
theorem T_87 : T 87 = { k := .func, size := 1, bytes := 8, zero := [.nilf] } := by kernel_rfl
theorem T_88 : T 88 = { k := .func, size := 1, bytes := 8, zero := [.nilf] } := by kernel_rfl
theorem T_89 : T 89 = { k := .func, size := 1, bytes := 8, zero := [.nilf] } := by kernel_rfl
theorem T_90 : T 90 = { k := .func, size := 1, bytes := 8, zero := [.nilf] } := by kernel_rfl
theorem T_92 : T 92 = { k := .func, size := 1, bytes := 8, zero := [.nilf] } := by kernel_rfl
theorem T_94 : T 94 = { k := .func, size := 1, bytes := 8, zero := [.nilf] } := by kernel_rfl
theorem T_95 : T 95 = { k := .func, size := 1, bytes := 8, zero := [.nilf] } := by kernel_rfl
theorem T_96 : T 96 = { k := .func, size := 1, bytes := 8, zero := [.nilf] } := by kernel_rfl
theorem T_97 : T 97 = { k := .func, size := 1, bytes := 8, zero := [.nilf] } := by kernel_rfl
theorem T_98 : T 98 = { k := .func, size := 1, bytes := 8, zero := [.nilf] } := by kernel_rfl
theorem T_99 : T 99 = { k := .func, size := 1, bytes := 8, zero := [.nilf] } := by kernel_rfl
theorem T_100 : T 100 = { k := .func, size := 1, bytes := 8, zero := [.nilf] } := by kernel_rfl
theorem T_101 : T 101 = { k := .func, size := 1, bytes := 8, zero := [.nilf] } := by kernel_rfl
theorem T_102 : T 102 = { k := .func, size := 1, bytes := 8, zero := [.nilf] } := by kernel_rfl
theorem T_103 : T 103 = { k := .func, size := 1, bytes := 8, zero := [.nilf] } := by kernel_rfl
theorem T_104 : T 104 = { k := .func, size := 1, bytes := 8, zero := [.nilf] } := by kernel_rfl
theorem T_105 : T 105 = { k := .func, size := 1, bytes := 8, zero := [.nilf] } := by kernel_rfl
theorem T_106 : T 106 = { k := .func, size := 1, bytes := 8, zero := [.nilf] } := by kernel_rfl
theorem T_107 : T 107 = { k := .strct [(0, 1), (1, 1)], size := 2, bytes := 16, zero := [.nilf, .nilf] } := by kernel_rfl
theorem T_108 : T 108 = { k := .strct [(0, 1), (1, 1)], size := 2, bytes := 16, zero := [.nilf, .nilf] } := by kernel_rfl
theorem T_109 : T 109 = { k := .func, size := 1, bytes := 8, zero := [.nilf] } := by kernel_rfl
theorem T_110 : T 110 = { k := .ptr 31, size := 1, bytes := 8, zero := [.nilp] } := by kernel_rfl
theorem T_111 : T 111 = { k := .ptr 5, size := 1, bytes := 8, zero := [.nilp] } := by kernel_rfl
theorem T_112 : T 112 = { k := .int .i8, size := 1, bytes := 1, zero := [.int .i8 0] } := by kernel_rfl
theorem T_113 : T 113 = { k := .int .i8, size := 1, bytes := 1, zero := [.int .i8 0] } := by kernel_rfl
theorem T_114 : T 114 = { k := .strct [(0, 22), (1, 3), (2, 113)], size := 3, bytes := 40, zero := [.sl true 1 [], .int .i64 0, .int .i8 0] } := by kernel_rfl
theorem T_115 : T 115 = { k := .strct [(0, 22), (1, 3), (2, 113)], size := 3, bytes := 40, zero := [.val .nils, .int .i64 0, .int .i8 0] } := by kernel_rfl
theorem T_116 : T 116 = { k := .strct [(0, 115)], size := 3, bytes := 40, zero := [.val .nils, .int .i64 0, .int .i8 0] } := by kernel_rfl
theorem T_117 : T 117 = { k := .strct [(0, 115)], size := 3, bytes := 40, zero := [.val .nils, .int .i64 0, .int .i8 0] } := by kernel_rfl
theorem T_118 : T 118 = { k := .func, size := 1, bytes := 8, zero := [.nilf] } := by kernel_rfl
theorem T_121 : T 121 = { k := .func, size := 1, bytes := 8, zero := [.nilf] } := by kernel_rfl
theorem T_122 : T 122 = { k := .func, size := 1, bytes := 8, zero := [.nilf] } := by kernel_rfl
theorem T_123 : T 123 = { k := .func, size := 1, bytes := 8, zero := [.nilf] } := by kernel_rfl
theorem T_124 : T 124 = { k := .func, size := 1, bytes := 8, zero := [.nilf] } := by kernel_rfl
theorem T_125 : T 125 = { k := .func, size := 1, bytes := 8, zero := [.nilf] } := by kernel_rfl
theorem T_126 : T 126 = { k := .func, size := 1, bytes := 8, zero := [.nilf] } := by kernel_rfl
theorem T_127 : T 127 = { k := .func, size := 1, bytes := 8, zero := [.nilf] } := by kernel_rfl
theorem T_128 : T 128 = { k := .func, size := 1, bytes := 8, zero := [.nilf] } := by kernel_rfl
theorem T_129 : T 129 = { k := .func, size := 1, bytes := 8, zero := [.nilf] } := by kernel_rfl
theorem T_130 : T 130 = { k := .func, size := 1, bytes := 8, zero := [.nilf] } := by kernel_rfl
theorem T_131 : T 131 = { k := .ptr 117, size := 1, bytes := 8, zero := [.nilp] } := by kernel_rfl
theorem T_132 : T 132 = { k := .func, size := 1, bytes := 8, zero := [.nilf] } := by kernel_rfl
theorem T_133 : T 133 = { k := .ptr 115, size := 1, bytes := 8, zero := [.nilp] } := by kernel_rfl
theorem T_136 : T 136 = { k := .func, size := 1, bytes := 8, zero := [.nilf] } := by kernel_rfl
theorem T_137 : T 137 = { k := .func, size := 1, bytes := 8, zero := [.nilf] } := by kernel_rfl
theorem T_138 : T 138 = { k := .func, size := 1, bytes := 8, zero := [.nilf] } := by kernel_rfl
theorem T_139 : T 139 = { k := .strct [(0, 138)], size := 1, bytes := 8, zero := [.nilf] } := by kernel_rfl
theorem T_140 : T 140 = { k := .strct [(0, 138)], size := 1, bytes := 8, zero := [.nilf] } := by kernel_rfl
theorem T_142 : T 142 = { k := .func, size := 1, bytes := 8, zero := [.nilf] } := by kernel_rfl
theorem T_143 : T 143 = { k := .func, size := 1, bytes := 8, zero := [.nilf] } := by kernel_rfl
theorem T_145 : T 145 = { k := .func, size := 1, bytes := 8, zero := [.nilf] } := by kernel_rfl
theorem T_146 : T 146 = { k := .strct [(0, 17)], size := 1, bytes := 8, zero := [.nilp] } := by kernel_rfl
theorem T_147 : T 147 = { k := .strct [(0, 17)], size := 1, bytes := 8, zero := [.nilp] } := by kernel_rfl
theorem T_148 : T 148 = { k := .ptr 183, size := 1, bytes := 8, zero := [.nilp] } := by kernel_rfl
theorem T_152 : T 152 = { k := .func, size := 1, bytes := 8, zero := [.nilf] } := by kernel_rfl
theorem T_154 : T 154 = { k := .slice 120, size := 1, bytes := 24, zero := [.sl true 1 []] } := by kernel_rfl
theorem T_155 : T 155 = { k := .func, size := 1, bytes := 8, zero := [.nilf] } := by kernel_rfl
theorem T_157 : T 157 = { k := .func, size := 1, bytes := 8, zero := [.nilf] } := by kernel_rfl
theorem T_158 : T 158 = { k := .int .u64, size := 1, bytes := 8, zero := [.int .u64 0] } := by kernel_rfl
theorem T_160 : T 160 = { k := .func, size := 1, bytes := 8, zero := [.nilf] } := by kernel_rfl
theorem T_161 : T 161 = { k := .func, size := 1, bytes := 8, zero := [.nilf] } := by kernel_rfl
theorem T_162 : T 162 = { k := .ptr 185, size := 1, bytes := 8, zero := [.nilp] } := by kernel_rfl
theorem T_163 : T 163 = { k := .func, size := 1, bytes := 8, zero := [.nilf] } := by kernel_rfl
theorem T_164 : T 164 = { k := .strct [(0, 17), (1, 17), (2, 17), (3, 9)], size := 4, bytes := 40, zero := [.nilp, .nilp, .nilp, .str ⟨#[]⟩] } := by kernel_rfl
theorem T_165 : T 165 = { k := .strct [(0, 17), (1, 17), (2, 17), (3, 9)], size := 4, bytes := 40, zero := [.nilp, .nilp, .nilp, .str ⟨#[]⟩] } := by kernel_rfl
theorem T_166 : T 166 = { k := .arr 0 16, size := 0, bytes := 0, zero := [] } := by kernel_rfl
theorem T_167 : T 167 = { k := .strct [(0, 166)], size := 0, bytes := 0, zero := [] } := by kernel_rfl
theorem T_168 : T 168 = { k := .strct [(0, 166)], size := 0, bytes := 0, zero := [] } := by kernel_rfl
theorem T_169 : T 169 = { k := .int .u8, size := 1, bytes := 1, zero := [.int .u8 0] } := by kernel_rfl
theorem T_170 : T 170 = { k := .int .u8, size := 1, bytes := 1, zero := [.int .u8 0] } := by kernel_rfl
theorem T_171 : T 171 = { k := .func, size := 1, bytes := 8, zero := [.nilf] } := by kernel_rfl
theorem T_172 : T 172 = { k := .int .i32, size := 1, bytes := 4, zero := [.int .i32 0] } := by kernel_rfl
theorem T_173 : T 173 = { k := .int .i32, size := 1, bytes := 4, zero := [.int .i32 0] } := by kernel_rfl
theorem T_174 : T 174 = { k := .strct [(0, 12), (1, 12), (2, 25), (3, 169), (4, 5), (5, 5), (6, 170), (7, 171), (8, 111), (9, 172), (10, 173)], size := 11, bytes := 48, zero := [.int .u64 0, .int .u64 0, .int .u32 0, .int .u8 0, .int .u8 0, .int .u8 0, .int .u8 0, .nilf, .nilp, .int .i32 0, .int .i32 0] } := by kernel_rfl
theorem T_175 : T 175 = { k := .strct [(0, 12), (1, 12), (2, 25), (3, 169), (4, 5), (5, 5), (6, 170), (7, 171), (8, 111), (9, 172), (10, 173)], size := 11, bytes := 48, zero := [.int .u64 0, .int .u64 0, .int .u32 0, .int .u8 0, .int .u8 0, .int .u8 0, .int .u8 0, .nilf, .nilp, .int .i32 0, .int .i32 0] } := by kernel_rfl
theorem T_176 : T 176 = { k := .func, size := 1, bytes := 8, zero := [.nilf] } := by kernel_rfl
theorem T_177 : T 177 = { k := .func, size := 1, bytes := 8, zero := [.nilf] } := by kernel_rfl
theorem T_178 : T 178 = { k := .func, size := 1, bytes := 8, zero := [.nilf] } := by kernel_rfl
theorem T_179 : T 179 = { k := .func, size := 1, bytes := 8, zero := [.nilf] } := by kernel_rfl
theorem T_180 : T 180 = { k := .func, size := 1, bytes := 8, zero := [.nilf] } := by kernel_rfl
theorem T_181 : T 181 = { k := .func, size := 1, bytes := 8, zero := [.nilf] } := by kernel_rfl
theorem T_182 : T 182 = { k := .strct [(0, 9), (1, 170)], size := 2, bytes := 24, zero := [.str ⟨#[]⟩, .int .u8 0] } := by kernel_rfl
theorem T_183 : T 183 = { k := .strct [(0, 9), (1, 170)], size := 2, bytes := 24, zero := [.str ⟨#[]⟩, .int .u8 0] } := by kernel_rfl
theorem T_184 : T 184 = { k := .strct [(0, 9)], size := 1, bytes := 16, zero := [.str ⟨#[]⟩] } := by kernel_rfl
theorem T_185 : T 185 = { k := .strct [(0, 9)], size := 1, bytes := 16, zero := [.str ⟨#[]⟩] } := by kernel_rfl
theorem T_187 : T 187 = { k := .ptr 190, size := 1, bytes := 8, zero := [.nilp] } := by kernel_rfl
theorem T_188 : T 188 = { k := .func, size := 1, bytes := 8, zero := [.nilf] } := by kernel_rfl
theorem T_189 : T 189 = { k := .strct [(0, 172), (1, 56), (2, 56), (3, 25), (4, 25)], size := 5, bytes := 16, zero := [.int .i32 0, .int .u16 0, .int .u16 0, .int .u32 0, .int .u32 0] } := by kernel_rfl
theorem T_190 : T 190 = { k := .strct [(0, 172), (1, 56), (2, 56), (3, 25), (4, 25)], size := 5, bytes := 16, zero := [.int .i32 0, .int .u16 0, .int .u16 0, .int .u32 0, .int .u32 0] } := by kernel_rfl
theorem T_191 : T 191 = { k := .slice 194, size := 1, bytes := 24, zero := [.sl true 4 []] } := by kernel_rfl
theorem T_192 : T 192 = { k := .int .i32, size := 1, bytes := 4, zero := [.int .i32 0] } := by kernel_rfl
theorem T_193 : T 193 = { k := .strct [(0, 172), (1, 173), (2, 192), (3, 192)], size := 4, bytes := 16, zero := [.int .i32 0, .int .i32 0, .int .i32 0, .int .i32 0] } := by kernel_rfl
theorem T_194 : T 194 = { k := .strct [(0, 172), (1, 173), (2, 192), (3, 192)], size := 4, bytes := 16, zero := [.int .i32 0, .int .i32 0, .int .i32 0, .int .i32 0] } := by kernel_rfl
theorem T_195 : T 195 = { k := .func, size := 1, bytes := 8, zero := [.nilf] } := by kernel_rfl
end Go.Proofs.YtoifmpiikopelaaDoorFw
