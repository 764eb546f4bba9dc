/- the types of the translation: shapes, cells, bytes, zero values -/
import Derived.Test.YticlihmbikcohaaVaK
namespace Go.Proofs.Yticlihmbikcohaa.Va
open Go
set_option linter.unusedVariables false
def rows : List (Nat × TRow) := [
  (1, ⟨.func, 1, 8, .nilf, false⟩),
  (2, ⟨(.int .i64), 1, 8, .int .i64 0, false⟩),
  (3, ⟨(.int .i64), 1, 8, .int .i64 0, false⟩),
  (4, ⟨.bool, 1, 1, .bool false, false⟩),
  (5, ⟨(.int .u8), 1, 1, .int .u8 0, false⟩),
  (6, ⟨(.int .u8), 1, 1, .int .u8 0, false⟩),
  (7, ⟨(.struct [2, 3, 4, 6]), 4, 24, .agg 7 [.int .i64 0, .int .i64 0, .bool false, .int .u8 0], false⟩),
  (8, ⟨(.struct [2, 3, 4, 6]), 4, 24, .agg 8 [.int .i64 0, .int .i64 0, .bool false, .int .u8 0], false⟩),
  (9, ⟨.str, 1, 16, .str ByteArray.empty, false⟩),
  (10, ⟨.str, 1, 16, .str ByteArray.empty, false⟩),
  (11, ⟨.str, 1, 16, .str ByteArray.empty, false⟩),
  (12, ⟨(.int .u64), 1, 8, .int .u64 0, false⟩),
  (13, ⟨(.struct [9, 12]), 2, 24, .agg 13 [.str ByteArray.empty, .int .u64 0], false⟩),
  (14, ⟨(.struct [9, 12]), 2, 24, .agg 14 [.str ByteArray.empty, .int .u64 0], false⟩),
  (15, ⟨.ptr, 1, 8, .nilp, false⟩),
  (16, ⟨.ptr, 1, 8, .nilp, false⟩),
  (17, ⟨.ptr, 1, 8, .nilp, false⟩),
  (18, ⟨(.struct [17]), 1, 8, .agg 18 [.nilp], false⟩),
  (19, ⟨(.struct [17]), 1, 8, .agg 19 [.nilp], false⟩),
  (20, ⟨.iface, 1, 16, .nili, false⟩),
  (21, ⟨(.int .i32), 1, 4, .int .i32 0, false⟩),
  (22, ⟨(.slice 5), 1, 24, .mt true, false⟩),
  (23, ⟨(.slice 26), 1, 24, .mt true, false⟩),
  (24, ⟨(.int .u64), 1, 8, .int .u64 0, false⟩),
  (25, ⟨.func, 1, 8, .nilf, false⟩),
  (26, ⟨(.int .u32), 1, 4, .int .u32 0, false⟩),
  (27, ⟨(.struct [5, 5, 5, 5, 26]), 5, 8, .agg 27 [.int .u8 0, .int .u8 0, .int .u8 0, .int .u8 0, .int .u32 0], false⟩),
  (28, ⟨(.struct [5, 5, 5, 5, 26]), 5, 8, .agg 28 [.int .u8 0, .int .u8 0, .int .u8 0, .int .u8 0, .int .u32 0], true⟩),
  (29, ⟨(.slice 28), 1, 24, .mt true, false⟩),
  (30, ⟨(.int .i64), 1, 8, .int .i64 0, false⟩),
  (32, ⟨.func, 1, 8, .nilf, false⟩),
  (34, ⟨.func, 1, 8, .nilf, false⟩),
  (35, ⟨(.struct [24, 24]), 2, 16, .agg 35 [.int .u64 0, .int .u64 0], false⟩),
  (36, ⟨(.struct [24, 24]), 2, 16, .agg 36 [.int .u64 0, .int .u64 0], true⟩),
  (37, ⟨(.struct [3, 3, 3, 3, 4, 36]), 7, 56, .agg 37 [.int .i64 0, .int .i64 0, .int .i64 0, .int .i64 0, .bool false, .agg 36 [.int .u64 0, .int .u64 0]], false⟩),
  (38, ⟨(.struct [3, 3, 3, 3, 4, 36]), 7, 56, .agg 38 [.int .i64 0, .int .i64 0, .int .i64 0, .int .i64 0, .bool false, .agg 36 [.int .u64 0, .int .u64 0]], true⟩),
  (39, ⟨(.array 10 38), 70, 560, .agg 39 (List.replicate 10 (.agg 38 [.int .i64 0, .int .i64 0, .int .i64 0, .int .i64 0, .bool false, .agg 36 [.int .u64 0, .int .u64 0]])), false⟩),
  (40, ⟨(.array 8 38), 56, 448, .agg 40 (List.replicate 8 (.agg 38 [.int .i64 0, .int .i64 0, .int .i64 0, .int .i64 0, .bool false, .agg 36 [.int .u64 0, .int .u64 0]])), false⟩),
  (41, ⟨(.slice 3), 1, 24, .mt true, false⟩),
  (42, ⟨(.struct [39, 40, 41, 3, 4, 3]), 130, 1056, .agg 42 [.agg 39 (List.replicate 10 (.agg 38 [.int .i64 0, .int .i64 0, .int .i64 0, .int .i64 0, .bool false, .agg 36 [.int .u64 0, .int .u64 0]])), .agg 40 (List.replicate 8 (.agg 38 [.int .i64 0, .int .i64 0, .int .i64 0, .int .i64 0, .bool false, .agg 36 [.int .u64 0, .int .u64 0]])), .mt true, .int .i64 0, .bool false, .int .i64 0], false⟩),
  (43, ⟨(.struct [39, 40, 41, 3, 4, 3]), 130, 1056, .agg 43 [.agg 39 (List.replicate 10 (.agg 38 [.int .i64 0, .int .i64 0, .int .i64 0, .int .i64 0, .bool false, .agg 36 [.int .u64 0, .int .u64 0]])), .agg 40 (List.replicate 8 (.agg 38 [.int .i64 0, .int .i64 0, .int .i64 0, .int .i64 0, .bool false, .agg 36 [.int .u64 0, .int .u64 0]])), .mt true, .int .i64 0, .bool false, .int .i64 0], false⟩),
  (45, ⟨.func, 1, 8, .nilf, false⟩),
  (46, ⟨.func, 1, 8, .nilf, false⟩),
  (47, ⟨.func, 1, 8, .nilf, false⟩),
  (48, ⟨(.slice 52), 1, 24, .mt true, false⟩),
  (49, ⟨.func, 1, 8, .nilf, false⟩),
  (50, ⟨(.slice 61), 1, 24, .mt true, false⟩),
  (51, ⟨(.struct [9, 4, 4, 50]), 4, 48, .agg 51 [.str ByteArray.empty, .bool false, .bool false, .mt true], false⟩),
  (52, ⟨(.struct [9, 4, 4, 50]), 4, 48, .agg 52 [.str ByteArray.empty, .bool false, .bool false, .mt true], false⟩),
  (53, ⟨.func, 1, 8, .nilf, false⟩),
  (54, ⟨(.slice 71), 1, 24, .mt true, false⟩),
  (55, ⟨.func, 1, 8, .nilf, false⟩),
  (56, ⟨.func, 1, 8, .nilf, false⟩),
  (57, ⟨.func, 1, 8, .nilf, false⟩),
  (58, ⟨.func, 1, 8, .nilf, false⟩),
  (59, ⟨.func, 1, 8, .nilf, false⟩),
  (60, ⟨(.struct [3, 3, 3, 3, 3]), 5, 40, .agg 60 [.int .i64 0, .int .i64 0, .int .i64 0, .int .i64 0, .int .i64 0], false⟩),
  (61, ⟨(.struct [3, 3, 3, 3, 3]), 5, 40, .agg 61 [.int .i64 0, .int .i64 0, .int .i64 0, .int .i64 0, .int .i64 0], true⟩),
  (62, ⟨.ptr, 1, 8, .nilp, false⟩),
  (63, ⟨(.map 3 82), 1, 8, .nilm, false⟩),
  (64, ⟨(.struct [48, 54, 29, 63]), 4, 80, .agg 64 [.mt true, .mt true, .mt true, .nilm], false⟩),
  (65, ⟨(.struct [48, 54, 29, 63]), 4, 80, .agg 65 [.mt true, .mt true, .mt true, .nilm], false⟩),
  (66, ⟨.func, 1, 8, .nilf, false⟩),
  (68, ⟨.func, 1, 8, .nilf, false⟩),
  (69, ⟨.func, 1, 8, .nilf, false⟩),
  (70, ⟨(.struct [4, 3, 3]), 3, 24, .agg 70 [.bool false, .int .i64 0, .int .i64 0], false⟩),
  (71, ⟨(.struct [4, 3, 3]), 3, 24, .agg 71 [.bool false, .int .i64 0, .int .i64 0], true⟩),
  (72, ⟨.func, 1, 8, .nilf, false⟩),
  (73, ⟨(.array 128 4), 128, 128, .agg 73 (List.replicate 128 (.bool false)), false⟩),
  (74, ⟨.func, 1, 8, .nilf, false⟩),
  (75, ⟨.func, 1, 8, .nilf, false⟩),
  (76, ⟨.func, 1, 8, .nilf, false⟩),
  (77, ⟨.func, 1, 8, .nilf, false⟩),
  (78, ⟨.func, 1, 8, .nilf, false⟩),
  (79, ⟨.func, 1, 8, .nilf, false⟩),
  (80, ⟨.func, 1, 8, .nilf, false⟩),
  (81, ⟨.func, 1, 8, .nilf, false⟩),
  (82, ⟨(.slice 43), 1, 24, .mt true, false⟩),
  (84, ⟨.func, 1, 8, .nilf, false⟩),
  (85, ⟨.func, 1, 8, .nilf, false⟩),
  (86, ⟨.func, 1, 8, .nilf, false⟩),
  (87, ⟨(.map 3 4), 1, 8, .nilm, false⟩),
  (88, ⟨.func, 1, 8, .nilf, false⟩),
  (89, ⟨.func, 1, 8, .nilf, false⟩),
  (90, ⟨(.struct [26, 26, 26, 26, 26]), 5, 20, .agg 90 [.int .u32 0, .int .u32 0, .int .u32 0, .int .u32 0, .int .u32 0], false⟩),
  (91, ⟨(.struct [26, 26, 26, 26, 26]), 5, 20, .agg 91 [.int .u32 0, .int .u32 0, .int .u32 0, .int .u32 0, .int .u32 0], true⟩),
  (93, ⟨.func, 1, 8, .nilf, false⟩),
  (94, ⟨.func, 1, 8, .nilf, false⟩),
  (95, ⟨(.slice 9), 1, 24, .mt true, false⟩),
  (96, ⟨.func, 1, 8, .nilf, false⟩),
  (97, ⟨.func, 1, 8, .nilf, false⟩),
  (98, ⟨.func, 1, 8, .nilf, false⟩),
  (99, ⟨.func, 1, 8, .nilf, false⟩),
  (100, ⟨.func, 1, 8, .nilf, false⟩),
  (102, ⟨.func, 1, 8, .nilf, false⟩),
  (103, ⟨.func, 1, 8, .nilf, false⟩),
  (104, ⟨.func, 1, 8, .nilf, false⟩),
  (105, ⟨.func, 1, 8, .nilf, false⟩),
  (106, ⟨.func, 1, 8, .nilf, false⟩),
  (108, ⟨.func, 1, 8, .nilf, false⟩),
  (109, ⟨.func, 1, 8, .nilf, false⟩),
  (110, ⟨.func, 1, 8, .nilf, false⟩),
  (111, ⟨(.array 16 91), 80, 320, .agg 111 (List.replicate 16 (.agg 91 [.int .u32 0, .int .u32 0, .int .u32 0, .int .u32 0, .int .u32 0])), false⟩),
  (112, ⟨(.slice 38), 1, 24, .mt true, false⟩),
  (113, ⟨.func, 1, 8, .nilf, false⟩),
  (114, ⟨.func, 1, 8, .nilf, false⟩),
  (115, ⟨.func, 1, 8, .nilf, false⟩),
  (116, ⟨(.array 2 4), 2, 2, .agg 116 (List.replicate 2 (.bool false)), false⟩),
  (118, ⟨.func, 1, 8, .nilf, false⟩),
  (119, ⟨.func, 1, 8, .nilf, false⟩),
  (120, ⟨.func, 1, 8, .nilf, false⟩),
  (121, ⟨.ptr, 1, 8, .nilp, false⟩),
  (122, ⟨(.struct [48, 54, 43, 38, 38, 3, 38, 30]), 155, 1288, .agg 122 [.mt true, .mt true, .agg 43 [.agg 39 (List.replicate 10 (.agg 38 [.int .i64 0, .int .i64 0, .int .i64 0, .int .i64 0, .bool false, .agg 36 [.int .u64 0, .int .u64 0]])), .agg 40 (List.replicate 8 (.agg 38 [.int .i64 0, .int .i64 0, .int .i64 0, .int .i64 0, .bool false, .agg 36 [.int .u64 0, .int .u64 0]])), .mt true, .int .i64 0, .bool false, .int .i64 0], .agg 38 [.int .i64 0, .int .i64 0, .int .i64 0, .int .i64 0, .bool false, .agg 36 [.int .u64 0, .int .u64 0]], .agg 38 [.int .i64 0, .int .i64 0, .int .i64 0, .int .i64 0, .bool false, .agg 36 [.int .u64 0, .int .u64 0]], .int .i64 0, .agg 38 [.int .i64 0, .int .i64 0, .int .i64 0, .int .i64 0, .bool false, .agg 36 [.int .u64 0, .int .u64 0]], .int .i64 0], false⟩),
  (123, ⟨(.struct [48, 54, 43, 38, 38, 3, 38, 30]), 155, 1288, .agg 123 [.mt true, .mt true, .agg 43 [.agg 39 (List.replicate 10 (.agg 38 [.int .i64 0, .int .i64 0, .int .i64 0, .int .i64 0, .bool false, .agg 36 [.int .u64 0, .int .u64 0]])), .agg 40 (List.replicate 8 (.agg 38 [.int .i64 0, .int .i64 0, .int .i64 0, .int .i64 0, .bool false, .agg 36 [.int .u64 0, .int .u64 0]])), .mt true, .int .i64 0, .bool false, .int .i64 0], .agg 38 [.int .i64 0, .int .i64 0, .int .i64 0, .int .i64 0, .bool false, .agg 36 [.int .u64 0, .int .u64 0]], .agg 38 [.int .i64 0, .int .i64 0, .int .i64 0, .int .i64 0, .bool false, .agg 36 [.int .u64 0, .int .u64 0]], .int .i64 0, .agg 38 [.int .i64 0, .int .i64 0, .int .i64 0, .int .i64 0, .bool false, .agg 36 [.int .u64 0, .int .u64 0]], .int .i64 0], false⟩),
  (124, ⟨.func, 1, 8, .nilf, false⟩),
  (125, ⟨.func, 1, 8, .nilf, false⟩),
  (126, ⟨.func, 1, 8, .nilf, false⟩),
  (127, ⟨.func, 1, 8, .nilf, false⟩),
  (128, ⟨.func, 1, 8, .nilf, false⟩),
  (129, ⟨.func, 1, 8, .nilf, false⟩),
  (130, ⟨.func, 1, 8, .nilf, false⟩),
  (132, ⟨.func, 1, 8, .nilf, false⟩),
  (133, ⟨.func, 1, 8, .nilf, false⟩),
  (135, ⟨.func, 1, 8, .nilf, false⟩),
  (136, ⟨.func, 1, 8, .nilf, false⟩),
  (137, ⟨.func, 1, 8, .nilf, false⟩),
  (138, ⟨.func, 1, 8, .nilf, false⟩),
  (140, ⟨.func, 1, 8, .nilf, false⟩),
  (141, ⟨.func, 1, 8, .nilf, false⟩),
  (142, ⟨.func, 1, 8, .nilf, false⟩),
  (143, ⟨.func, 1, 8, .nilf, false⟩),
  (145, ⟨.func, 1, 8, .nilf, false⟩),
  (147, ⟨.func, 1, 8, .nilf, false⟩),
  (148, ⟨.func, 1, 8, .nilf, false⟩),
  (150, ⟨.func, 1, 8, .nilf, false⟩),
  (151, ⟨.func, 1, 8, .nilf, false⟩),
  (152, ⟨.func, 1, 8, .nilf, false⟩),
  (153, ⟨.func, 1, 8, .nilf, false⟩),
  (154, ⟨.func, 1, 8, .nilf, false⟩),
  (155, ⟨.func, 1, 8, .nilf, false⟩),
  (156, ⟨.func, 1, 8, .nilf, false⟩),
  (157, ⟨.func, 1, 8, .nilf, false⟩),
  (158, ⟨.func, 1, 8, .nilf, false⟩),
  (159, ⟨(.int .u64), 1, 8, .int .u64 0, false⟩),
  (160, ⟨.func, 1, 8, .nilf, false⟩),
  (161, ⟨.func, 1, 8, .nilf, false⟩),
  (162, ⟨(.array 9 3), 9, 72, .agg 162 (List.replicate 9 (.int .i64 0)), false⟩),
  (163, ⟨(.map 3 3), 1, 8, .nilm, false⟩),
  (164, ⟨.func, 1, 8, .nilf, false⟩),
  (165, ⟨.func, 1, 8, .nilf, false⟩),
  (166, ⟨.func, 1, 8, .nilf, false⟩),
  (167, ⟨(.struct [17, 17, 17, 9]), 4, 40, .agg 167 [.nilp, .nilp, .nilp, .str ByteArray.empty], false⟩),
  (168, ⟨(.struct [17, 17, 17, 9]), 4, 40, .agg 168 [.nilp, .nilp, .nilp, .str ByteArray.empty], false⟩),
  (169, ⟨(.array 0 16), 0, 0, .agg 169 (List.replicate 0 (.nilp)), false⟩),
  (170, ⟨(.struct [169]), 0, 0, .agg 170 [.agg 169 (List.replicate 0 (.nilp))], false⟩),
  (171, ⟨(.struct [169]), 0, 0, .agg 171 [.agg 169 (List.replicate 0 (.nilp))], false⟩),
  (172, ⟨.func, 1, 8, .nilf, false⟩),
  (173, ⟨(.int .u8), 1, 1, .int .u8 0, false⟩),
  (174, ⟨(.int .u8), 1, 1, .int .u8 0, false⟩),
  (175, ⟨.func, 1, 8, .nilf, false⟩),
  (176, ⟨.ptr, 1, 8, .nilp, false⟩),
  (177, ⟨(.int .i32), 1, 4, .int .i32 0, false⟩),
  (178, ⟨(.int .i32), 1, 4, .int .i32 0, false⟩),
  (179, ⟨(.struct [12, 12, 26, 173, 5, 5, 174, 175, 176, 177, 178]), 11, 48, .agg 179 [.int .u64 0, .int .u64 0, .int .u32 0, .int .u8 0, .int .u8 0, .int .u8 0, .int .u8 0, .nilf, .nilp, .int .i32 0, .int .i32 0], false⟩),
  (180, ⟨(.struct [12, 12, 26, 173, 5, 5, 174, 175, 176, 177, 178]), 11, 48, .agg 180 [.int .u64 0, .int .u64 0, .int .u32 0, .int .u8 0, .int .u8 0, .int .u8 0, .int .u8 0, .nilf, .nilp, .int .i32 0, .int .i32 0], false⟩)]
def T : Tab := rowsTab rows
theorem tabOk : TabOk Try.prog T := tabOk_of (by kernel_rfl)
@[go_sem] theorem ty_1 : T.ty 1 = some .func := nr rfl
@[go_sem] theorem size_1 : T.size 1 = 1 := nr rfl
@[go_sem] theorem bytes_1 : T.bytes 1 = 8 := nr rfl
@[go_sem] theorem zero_1 : T.zero 1 = .nilf := nr rfl
@[go_sem] theorem ty_2 : T.ty 2 = some (.int .i64) := nr rfl
@[go_sem] theorem size_2 : T.size 2 = 1 := nr rfl
@[go_sem] theorem bytes_2 : T.bytes 2 = 8 := nr rfl
@[go_sem] theorem zero_2 : T.zero 2 = .int .i64 0 := nr rfl
@[go_sem] theorem ty_3 : T.ty 3 = some (.int .i64) := nr rfl
@[go_sem] theorem size_3 : T.size 3 = 1 := nr rfl
@[go_sem] theorem bytes_3 : T.bytes 3 = 8 := nr rfl
@[go_sem] theorem zero_3 : T.zero 3 = .int .i64 0 := nr rfl
@[go_sem] theorem ty_4 : T.ty 4 = some .bool := nr rfl
@[go_sem] theorem size_4 : T.size 4 = 1 := nr rfl
@[go_sem] theorem bytes_4 : T.bytes 4 = 1 := nr rfl
@[go_sem] theorem zero_4 : T.zero 4 = .bool false := nr rfl
@[go_sem] theorem ty_5 : T.ty 5 = some (.int .u8) := nr rfl
@[go_sem] theorem size_5 : T.size 5 = 1 := nr rfl
@[go_sem] theorem bytes_5 : T.bytes 5 = 1 := nr rfl
@[go_sem] theorem zero_5 : T.zero 5 = .int .u8 0 := nr rfl
@[go_sem] theorem ty_6 : T.ty 6 = some (.int .u8) := nr rfl
@[go_sem] theorem size_6 : T.size 6 = 1 := nr rfl
@[go_sem] theorem bytes_6 : T.bytes 6 = 1 := nr rfl
@[go_sem] theorem zero_6 : T.zero 6 = .int .u8 0 := nr rfl
@[go_sem] theorem ty_7 : T.ty 7 = some (.struct [2, 3, 4, 6]) := nr rfl
@[go_sem] theorem eqT_7 : T.eqT 7 = false := nr rfl
@[go_sem] theorem size_7 : T.size 7 = 4 := nr rfl
@[go_sem] theorem bytes_7 : T.bytes 7 = 24 := nr rfl
@[go_sem] theorem zero_7 : T.zero 7 = .agg 7 [.int .i64 0, .int .i64 0, .bool false, .int .u8 0] := nr rfl
@[go_sem] theorem ty_8 : T.ty 8 = some (.struct [2, 3, 4, 6]) := nr rfl
@[go_sem] theorem eqT_8 : T.eqT 8 = false := nr rfl
@[go_sem] theorem size_8 : T.size 8 = 4 := nr rfl
@[go_sem] theorem bytes_8 : T.bytes 8 = 24 := nr rfl
@[go_sem] theorem zero_8 : T.zero 8 = .agg 8 [.int .i64 0, .int .i64 0, .bool false, .int .u8 0] := nr rfl
@[go_sem] theorem ty_9 : T.ty 9 = some .str := nr rfl
@[go_sem] theorem size_9 : T.size 9 = 1 := nr rfl
@[go_sem] theorem bytes_9 : T.bytes 9 = 16 := nr rfl
@[go_sem] theorem zero_9 : T.zero 9 = .str ByteArray.empty := nr rfl
@[go_sem] theorem ty_10 : T.ty 10 = some .str := nr rfl
@[go_sem] theorem size_10 : T.size 10 = 1 := nr rfl
@[go_sem] theorem bytes_10 : T.bytes 10 = 16 := nr rfl
@[go_sem] theorem zero_10 : T.zero 10 = .str ByteArray.empty := nr rfl
@[go_sem] theorem ty_11 : T.ty 11 = some .str := nr rfl
@[go_sem] theorem size_11 : T.size 11 = 1 := nr rfl
@[go_sem] theorem bytes_11 : T.bytes 11 = 16 := nr rfl
@[go_sem] theorem zero_11 : T.zero 11 = .str ByteArray.empty := nr rfl
@[go_sem] theorem ty_12 : T.ty 12 = some (.int .u64) := nr rfl
@[go_sem] theorem size_12 : T.size 12 = 1 := nr rfl
@[go_sem] theorem bytes_12 : T.bytes 12 = 8 := nr rfl
@[go_sem] theorem zero_12 : T.zero 12 = .int .u64 0 := nr rfl
@[go_sem] theorem ty_13 : T.ty 13 = some (.struct [9, 12]) := nr rfl
@[go_sem] theorem eqT_13 : T.eqT 13 = false := nr rfl
@[go_sem] theorem size_13 : T.size 13 = 2 := nr rfl
@[go_sem] theorem bytes_13 : T.bytes 13 = 24 := nr rfl
@[go_sem] theorem zero_13 : T.zero 13 = .agg 13 [.str ByteArray.empty, .int .u64 0] := nr rfl
@[go_sem] theorem ty_14 : T.ty 14 = some (.struct [9, 12]) := nr rfl
@[go_sem] theorem eqT_14 : T.eqT 14 = false := nr rfl
@[go_sem] theorem size_14 : T.size 14 = 2 := nr rfl
@[go_sem] theorem bytes_14 : T.bytes 14 = 24 := nr rfl
@[go_sem] theorem zero_14 : T.zero 14 = .agg 14 [.str ByteArray.empty, .int .u64 0] := nr rfl
@[go_sem] theorem ty_15 : T.ty 15 = some .ptr := nr rfl
@[go_sem] theorem size_15 : T.size 15 = 1 := nr rfl
@[go_sem] theorem bytes_15 : T.bytes 15 = 8 := nr rfl
@[go_sem] theorem zero_15 : T.zero 15 = .nilp := nr rfl
@[go_sem] theorem ty_16 : T.ty 16 = some .ptr := nr rfl
@[go_sem] theorem size_16 : T.size 16 = 1 := nr rfl
@[go_sem] theorem bytes_16 : T.bytes 16 = 8 := nr rfl
@[go_sem] theorem zero_16 : T.zero 16 = .nilp := nr rfl
@[go_sem] theorem ty_17 : T.ty 17 = some .ptr := nr rfl
@[go_sem] theorem size_17 : T.size 17 = 1 := nr rfl
@[go_sem] theorem bytes_17 : T.bytes 17 = 8 := nr rfl
@[go_sem] theorem zero_17 : T.zero 17 = .nilp := nr rfl
@[go_sem] theorem ty_18 : T.ty 18 = some (.struct [17]) := nr rfl
@[go_sem] theorem eqT_18 : T.eqT 18 = false := nr rfl
@[go_sem] theorem size_18 : T.size 18 = 1 := nr rfl
@[go_sem] theorem bytes_18 : T.bytes 18 = 8 := nr rfl
@[go_sem] theorem zero_18 : T.zero 18 = .agg 18 [.nilp] := nr rfl
@[go_sem] theorem ty_19 : T.ty 19 = some (.struct [17]) := nr rfl
@[go_sem] theorem eqT_19 : T.eqT 19 = false := nr rfl
@[go_sem] theorem size_19 : T.size 19 = 1 := nr rfl
@[go_sem] theorem bytes_19 : T.bytes 19 = 8 := nr rfl
@[go_sem] theorem zero_19 : T.zero 19 = .agg 19 [.nilp] := nr rfl
@[go_sem] theorem ty_20 : T.ty 20 = some .iface := nr rfl
@[go_sem] theorem size_20 : T.size 20 = 1 := nr rfl
@[go_sem] theorem bytes_20 : T.bytes 20 = 16 := nr rfl
@[go_sem] theorem zero_20 : T.zero 20 = .nili := nr rfl
@[go_sem] theorem ty_21 : T.ty 21 = some (.int .i32) := nr rfl
@[go_sem] theorem size_21 : T.size 21 = 1 := nr rfl
@[go_sem] theorem bytes_21 : T.bytes 21 = 4 := nr rfl
@[go_sem] theorem zero_21 : T.zero 21 = .int .i32 0 := nr rfl
@[go_sem] theorem ty_22 : T.ty 22 = some (.slice 5) := nr rfl
@[go_sem] theorem size_22 : T.size 22 = 1 := nr rfl
@[go_sem] theorem bytes_22 : T.bytes 22 = 24 := nr rfl
@[go_sem] theorem zero_22 : T.zero 22 = .mt true := nr rfl
@[go_sem] theorem ty_23 : T.ty 23 = some (.slice 26) := nr rfl
@[go_sem] theorem size_23 : T.size 23 = 1 := nr rfl
@[go_sem] theorem bytes_23 : T.bytes 23 = 24 := nr rfl
@[go_sem] theorem zero_23 : T.zero 23 = .mt true := nr rfl
@[go_sem] theorem ty_24 : T.ty 24 = some (.int .u64) := nr rfl
@[go_sem] theorem size_24 : T.size 24 = 1 := nr rfl
@[go_sem] theorem bytes_24 : T.bytes 24 = 8 := nr rfl
@[go_sem] theorem zero_24 : T.zero 24 = .int .u64 0 := nr rfl
@[go_sem] theorem ty_25 : T.ty 25 = some .func := nr rfl
@[go_sem] theorem size_25 : T.size 25 = 1 := nr rfl
@[go_sem] theorem bytes_25 : T.bytes 25 = 8 := nr rfl
@[go_sem] theorem zero_25 : T.zero 25 = .nilf := nr rfl
@[go_sem] theorem ty_26 : T.ty 26 = some (.int .u32) := nr rfl
@[go_sem] theorem size_26 : T.size 26 = 1 := nr rfl
@[go_sem] theorem bytes_26 : T.bytes 26 = 4 := nr rfl
@[go_sem] theorem zero_26 : T.zero 26 = .int .u32 0 := nr rfl
@[go_sem] theorem ty_27 : T.ty 27 = some (.struct [5, 5, 5, 5, 26]) := nr rfl
@[go_sem] theorem eqT_27 : T.eqT 27 = false := nr rfl
@[go_sem] theorem size_27 : T.size 27 = 5 := nr rfl
@[go_sem] theorem bytes_27 : T.bytes 27 = 8 := nr rfl
@[go_sem] theorem zero_27 : T.zero 27 = .agg 27 [.int .u8 0, .int .u8 0, .int .u8 0, .int .u8 0, .int .u32 0] := nr rfl
@[go_sem] theorem ty_28 : T.ty 28 = some (.struct [5, 5, 5, 5, 26]) := nr rfl
@[go_sem] theorem eqT_28 : T.eqT 28 = true := nr rfl
@[go_sem] theorem size_28 : T.size 28 = 5 := nr rfl
@[go_sem] theorem bytes_28 : T.bytes 28 = 8 := nr rfl
@[go_sem] theorem zero_28 : T.zero 28 = .agg 28 [.int .u8 0, .int .u8 0, .int .u8 0, .int .u8 0, .int .u32 0] := nr rfl
@[go_sem] theorem ty_29 : T.ty 29 = some (.slice 28) := nr rfl
@[go_sem] theorem size_29 : T.size 29 = 1 := nr rfl
@[go_sem] theorem bytes_29 : T.bytes 29 = 24 := nr rfl
@[go_sem] theorem zero_29 : T.zero 29 = .mt true := nr rfl
@[go_sem] theorem ty_30 : T.ty 30 = some (.int .i64) := nr rfl
@[go_sem] theorem size_30 : T.size 30 = 1 := nr rfl
@[go_sem] theorem bytes_30 : T.bytes 30 = 8 := nr rfl
@[go_sem] theorem zero_30 : T.zero 30 = .int .i64 0 := nr rfl
@[go_sem] theorem ty_32 : T.ty 32 = some .func := nr rfl
@[go_sem] theorem size_32 : T.size 32 = 1 := nr rfl
@[go_sem] theorem bytes_32 : T.bytes 32 = 8 := nr rfl
@[go_sem] theorem zero_32 : T.zero 32 = .nilf := nr rfl
@[go_sem] theorem ty_34 : T.ty 34 = some .func := nr rfl
@[go_sem] theorem size_34 : T.size 34 = 1 := nr rfl
@[go_sem] theorem bytes_34 : T.bytes 34 = 8 := nr rfl
@[go_sem] theorem zero_34 : T.zero 34 = .nilf := nr rfl
@[go_sem] theorem ty_35 : T.ty 35 = some (.struct [24, 24]) := nr rfl
@[go_sem] theorem eqT_35 : T.eqT 35 = false := nr rfl
@[go_sem] theorem size_35 : T.size 35 = 2 := nr rfl
@[go_sem] theorem bytes_35 : T.bytes 35 = 16 := nr rfl
@[go_sem] theorem zero_35 : T.zero 35 = .agg 35 [.int .u64 0, .int .u64 0] := nr rfl
@[go_sem] theorem ty_36 : T.ty 36 = some (.struct [24, 24]) := nr rfl
@[go_sem] theorem eqT_36 : T.eqT 36 = true := nr rfl
@[go_sem] theorem size_36 : T.size 36 = 2 := nr rfl
@[go_sem] theorem bytes_36 : T.bytes 36 = 16 := nr rfl
@[go_sem] theorem zero_36 : T.zero 36 = .agg 36 [.int .u64 0, .int .u64 0] := nr rfl
@[go_sem] theorem ty_37 : T.ty 37 = some (.struct [3, 3, 3, 3, 4, 36]) := nr rfl
@[go_sem] theorem eqT_37 : T.eqT 37 = false := nr rfl
@[go_sem] theorem size_37 : T.size 37 = 7 := nr rfl
@[go_sem] theorem bytes_37 : T.bytes 37 = 56 := nr rfl
@[go_sem] theorem zero_37 : T.zero 37 = .agg 37 [.int .i64 0, .int .i64 0, .int .i64 0, .int .i64 0, .bool false, .agg 36 [.int .u64 0, .int .u64 0]] := nr rfl
@[go_sem] theorem ty_38 : T.ty 38 = some (.struct [3, 3, 3, 3, 4, 36]) := nr rfl
@[go_sem] theorem eqT_38 : T.eqT 38 = true := nr rfl
@[go_sem] theorem size_38 : T.size 38 = 7 := nr rfl
@[go_sem] theorem bytes_38 : T.bytes 38 = 56 := nr rfl
@[go_sem] theorem zero_38 : T.zero 38 = .agg 38 [.int .i64 0, .int .i64 0, .int .i64 0, .int .i64 0, .bool false, .agg 36 [.int .u64 0, .int .u64 0]] := nr rfl
@[go_sem] theorem ty_39 : T.ty 39 = some (.array 10 38) := nr rfl
@[go_sem] theorem size_39 : T.size 39 = 70 := nr rfl
@[go_sem] theorem bytes_39 : T.bytes 39 = 560 := nr rfl
@[go_sem] theorem zero_39 : T.zero 39 = .agg 39 (List.replicate 10 (.agg 38 [.int .i64 0, .int .i64 0, .int .i64 0, .int .i64 0, .bool false, .agg 36 [.int .u64 0, .int .u64 0]])) := nr rfl
@[go_sem] theorem ty_40 : T.ty 40 = some (.array 8 38) := nr rfl
@[go_sem] theorem size_40 : T.size 40 = 56 := nr rfl
@[go_sem] theorem bytes_40 : T.bytes 40 = 448 := nr rfl
@[go_sem] theorem zero_40 : T.zero 40 = .agg 40 (List.replicate 8 (.agg 38 [.int .i64 0, .int .i64 0, .int .i64 0, .int .i64 0, .bool false, .agg 36 [.int .u64 0, .int .u64 0]])) := nr rfl
@[go_sem] theorem ty_41 : T.ty 41 = some (.slice 3) := nr rfl
@[go_sem] theorem size_41 : T.size 41 = 1 := nr rfl
@[go_sem] theorem bytes_41 : T.bytes 41 = 24 := nr rfl
@[go_sem] theorem zero_41 : T.zero 41 = .mt true := nr rfl
@[go_sem] theorem ty_42 : T.ty 42 = some (.struct [39, 40, 41, 3, 4, 3]) := nr rfl
@[go_sem] theorem eqT_42 : T.eqT 42 = false := nr rfl
@[go_sem] theorem size_42 : T.size 42 = 130 := nr rfl
@[go_sem] theorem bytes_42 : T.bytes 42 = 1056 := nr rfl
@[go_sem] theorem zero_42 : T.zero 42 = .agg 42 [.agg 39 (List.replicate 10 (.agg 38 [.int .i64 0, .int .i64 0, .int .i64 0, .int .i64 0, .bool false, .agg 36 [.int .u64 0, .int .u64 0]])), .agg 40 (List.replicate 8 (.agg 38 [.int .i64 0, .int .i64 0, .int .i64 0, .int .i64 0, .bool false, .agg 36 [.int .u64 0, .int .u64 0]])), .mt true, .int .i64 0, .bool false, .int .i64 0] := nr rfl
@[go_sem] theorem ty_43 : T.ty 43 = some (.struct [39, 40, 41, 3, 4, 3]) := nr rfl
@[go_sem] theorem eqT_43 : T.eqT 43 = false := nr rfl
@[go_sem] theorem size_43 : T.size 43 = 130 := nr rfl
@[go_sem] theorem bytes_43 : T.bytes 43 = 1056 := nr rfl
@[go_sem] theorem zero_43 : T.zero 43 = .agg 43 [.agg 39 (List.replicate 10 (.agg 38 [.int .i64 0, .int .i64 0, .int .i64 0, .int .i64 0, .bool false, .agg 36 [.int .u64 0, .int .u64 0]])), .agg 40 (List.replicate 8 (.agg 38 [.int .i64 0, .int .i64 0, .int .i64 0, .int .i64 0, .bool false, .agg 36 [.int .u64 0, .int .u64 0]])), .mt true, .int .i64 0, .bool false, .int .i64 0] := nr rfl
@[go_sem] theorem ty_45 : T.ty 45 = some .func := nr rfl
@[go_sem] theorem size_45 : T.size 45 = 1 := nr rfl
@[go_sem] theorem bytes_45 : T.bytes 45 = 8 := nr rfl
@[go_sem] theorem zero_45 : T.zero 45 = .nilf := nr rfl
@[go_sem] theorem ty_46 : T.ty 46 = some .func := nr rfl
@[go_sem] theorem size_46 : T.size 46 = 1 := nr rfl
@[go_sem] theorem bytes_46 : T.bytes 46 = 8 := nr rfl
@[go_sem] theorem zero_46 : T.zero 46 = .nilf := nr rfl
@[go_sem] theorem ty_47 : T.ty 47 = some .func := nr rfl
@[go_sem] theorem size_47 : T.size 47 = 1 := nr rfl
@[go_sem] theorem bytes_47 : T.bytes 47 = 8 := nr rfl
@[go_sem] theorem zero_47 : T.zero 47 = .nilf := nr rfl
@[go_sem] theorem ty_48 : T.ty 48 = some (.slice 52) := nr rfl
@[go_sem] theorem size_48 : T.size 48 = 1 := nr rfl
@[go_sem] theorem bytes_48 : T.bytes 48 = 24 := nr rfl
@[go_sem] theorem zero_48 : T.zero 48 = .mt true := nr rfl
@[go_sem] theorem ty_49 : T.ty 49 = some .func := nr rfl
@[go_sem] theorem size_49 : T.size 49 = 1 := nr rfl
@[go_sem] theorem bytes_49 : T.bytes 49 = 8 := nr rfl
@[go_sem] theorem zero_49 : T.zero 49 = .nilf := nr rfl
@[go_sem] theorem ty_50 : T.ty 50 = some (.slice 61) := nr rfl
@[go_sem] theorem size_50 : T.size 50 = 1 := nr rfl
@[go_sem] theorem bytes_50 : T.bytes 50 = 24 := nr rfl
@[go_sem] theorem zero_50 : T.zero 50 = .mt true := nr rfl
@[go_sem] theorem ty_51 : T.ty 51 = some (.struct [9, 4, 4, 50]) := nr rfl
@[go_sem] theorem eqT_51 : T.eqT 51 = false := nr rfl
@[go_sem] theorem size_51 : T.size 51 = 4 := nr rfl
@[go_sem] theorem bytes_51 : T.bytes 51 = 48 := nr rfl
@[go_sem] theorem zero_51 : T.zero 51 = .agg 51 [.str ByteArray.empty, .bool false, .bool false, .mt true] := nr rfl
@[go_sem] theorem ty_52 : T.ty 52 = some (.struct [9, 4, 4, 50]) := nr rfl
@[go_sem] theorem eqT_52 : T.eqT 52 = false := nr rfl
@[go_sem] theorem size_52 : T.size 52 = 4 := nr rfl
@[go_sem] theorem bytes_52 : T.bytes 52 = 48 := nr rfl
@[go_sem] theorem zero_52 : T.zero 52 = .agg 52 [.str ByteArray.empty, .bool false, .bool false, .mt true] := nr rfl
@[go_sem] theorem ty_53 : T.ty 53 = some .func := nr rfl
@[go_sem] theorem size_53 : T.size 53 = 1 := nr rfl
@[go_sem] theorem bytes_53 : T.bytes 53 = 8 := nr rfl
@[go_sem] theorem zero_53 : T.zero 53 = .nilf := nr rfl
@[go_sem] theorem ty_54 : T.ty 54 = some (.slice 71) := nr rfl
@[go_sem] theorem size_54 : T.size 54 = 1 := nr rfl
@[go_sem] theorem bytes_54 : T.bytes 54 = 24 := nr rfl
@[go_sem] theorem zero_54 : T.zero 54 = .mt true := nr rfl
@[go_sem] theorem ty_55 : T.ty 55 = some .func := nr rfl
@[go_sem] theorem size_55 : T.size 55 = 1 := nr rfl
@[go_sem] theorem bytes_55 : T.bytes 55 = 8 := nr rfl
@[go_sem] theorem zero_55 : T.zero 55 = .nilf := nr rfl
@[go_sem] theorem ty_56 : T.ty 56 = some .func := nr rfl
@[go_sem] theorem size_56 : T.size 56 = 1 := nr rfl
@[go_sem] theorem bytes_56 : T.bytes 56 = 8 := nr rfl
@[go_sem] theorem zero_56 : T.zero 56 = .nilf := nr rfl
@[go_sem] theorem ty_57 : T.ty 57 = some .func := nr rfl
@[go_sem] theorem size_57 : T.size 57 = 1 := nr rfl
@[go_sem] theorem bytes_57 : T.bytes 57 = 8 := nr rfl
@[go_sem] theorem zero_57 : T.zero 57 = .nilf := nr rfl
@[go_sem] theorem ty_58 : T.ty 58 = some .func := nr rfl
@[go_sem] theorem size_58 : T.size 58 = 1 := nr rfl
@[go_sem] theorem bytes_58 : T.bytes 58 = 8 := nr rfl
@[go_sem] theorem zero_58 : T.zero 58 = .nilf := nr rfl
@[go_sem] theorem ty_59 : T.ty 59 = some .func := nr rfl
@[go_sem] theorem size_59 : T.size 59 = 1 := nr rfl
@[go_sem] theorem bytes_59 : T.bytes 59 = 8 := nr rfl
@[go_sem] theorem zero_59 : T.zero 59 = .nilf := nr rfl
@[go_sem] theorem ty_60 : T.ty 60 = some (.struct [3, 3, 3, 3, 3]) := nr rfl
@[go_sem] theorem eqT_60 : T.eqT 60 = false := nr rfl
@[go_sem] theorem size_60 : T.size 60 = 5 := nr rfl
@[go_sem] theorem bytes_60 : T.bytes 60 = 40 := nr rfl
@[go_sem] theorem zero_60 : T.zero 60 = .agg 60 [.int .i64 0, .int .i64 0, .int .i64 0, .int .i64 0, .int .i64 0] := nr rfl
@[go_sem] theorem ty_61 : T.ty 61 = some (.struct [3, 3, 3, 3, 3]) := nr rfl
@[go_sem] theorem eqT_61 : T.eqT 61 = true := nr rfl
@[go_sem] theorem size_61 : T.size 61 = 5 := nr rfl
@[go_sem] theorem bytes_61 : T.bytes 61 = 40 := nr rfl
@[go_sem] theorem zero_61 : T.zero 61 = .agg 61 [.int .i64 0, .int .i64 0, .int .i64 0, .int .i64 0, .int .i64 0] := nr rfl
@[go_sem] theorem ty_62 : T.ty 62 = some .ptr := nr rfl
@[go_sem] theorem size_62 : T.size 62 = 1 := nr rfl
@[go_sem] theorem bytes_62 : T.bytes 62 = 8 := nr rfl
@[go_sem] theorem zero_62 : T.zero 62 = .nilp := nr rfl
@[go_sem] theorem ty_63 : T.ty 63 = some (.map 3 82) := nr rfl
@[go_sem] theorem size_63 : T.size 63 = 1 := nr rfl
@[go_sem] theorem bytes_63 : T.bytes 63 = 8 := nr rfl
@[go_sem] theorem zero_63 : T.zero 63 = .nilm := nr rfl
@[go_sem] theorem ty_64 : T.ty 64 = some (.struct [48, 54, 29, 63]) := nr rfl
@[go_sem] theorem eqT_64 : T.eqT 64 = false := nr rfl
@[go_sem] theorem size_64 : T.size 64 = 4 := nr rfl
@[go_sem] theorem bytes_64 : T.bytes 64 = 80 := nr rfl
@[go_sem] theorem zero_64 : T.zero 64 = .agg 64 [.mt true, .mt true, .mt true, .nilm] := nr rfl
@[go_sem] theorem ty_65 : T.ty 65 = some (.struct [48, 54, 29, 63]) := nr rfl
@[go_sem] theorem eqT_65 : T.eqT 65 = false := nr rfl
@[go_sem] theorem size_65 : T.size 65 = 4 := nr rfl
@[go_sem] theorem bytes_65 : T.bytes 65 = 80 := nr rfl
@[go_sem] theorem zero_65 : T.zero 65 = .agg 65 [.mt true, .mt true, .mt true, .nilm] := nr rfl
@[go_sem] theorem ty_66 : T.ty 66 = some .func := nr rfl
@[go_sem] theorem size_66 : T.size 66 = 1 := nr rfl
@[go_sem] theorem bytes_66 : T.bytes 66 = 8 := nr rfl
@[go_sem] theorem zero_66 : T.zero 66 = .nilf := nr rfl
@[go_sem] theorem ty_68 : T.ty 68 = some .func := nr rfl
@[go_sem] theorem size_68 : T.size 68 = 1 := nr rfl
@[go_sem] theorem bytes_68 : T.bytes 68 = 8 := nr rfl
@[go_sem] theorem zero_68 : T.zero 68 = .nilf := nr rfl
@[go_sem] theorem ty_69 : T.ty 69 = some .func := nr rfl
@[go_sem] theorem size_69 : T.size 69 = 1 := nr rfl
@[go_sem] theorem bytes_69 : T.bytes 69 = 8 := nr rfl
@[go_sem] theorem zero_69 : T.zero 69 = .nilf := nr rfl
@[go_sem] theorem ty_70 : T.ty 70 = some (.struct [4, 3, 3]) := nr rfl
@[go_sem] theorem eqT_70 : T.eqT 70 = false := nr rfl
@[go_sem] theorem size_70 : T.size 70 = 3 := nr rfl
@[go_sem] theorem bytes_70 : T.bytes 70 = 24 := nr rfl
@[go_sem] theorem zero_70 : T.zero 70 = .agg 70 [.bool false, .int .i64 0, .int .i64 0] := nr rfl
@[go_sem] theorem ty_71 : T.ty 71 = some (.struct [4, 3, 3]) := nr rfl
@[go_sem] theorem eqT_71 : T.eqT 71 = true := nr rfl
@[go_sem] theorem size_71 : T.size 71 = 3 := nr rfl
@[go_sem] theorem bytes_71 : T.bytes 71 = 24 := nr rfl
@[go_sem] theorem zero_71 : T.zero 71 = .agg 71 [.bool false, .int .i64 0, .int .i64 0] := nr rfl
@[go_sem] theorem ty_72 : T.ty 72 = some .func := nr rfl
@[go_sem] theorem size_72 : T.size 72 = 1 := nr rfl
@[go_sem] theorem bytes_72 : T.bytes 72 = 8 := nr rfl
@[go_sem] theorem zero_72 : T.zero 72 = .nilf := nr rfl
@[go_sem] theorem ty_73 : T.ty 73 = some (.array 128 4) := nr rfl
@[go_sem] theorem size_73 : T.size 73 = 128 := nr rfl
@[go_sem] theorem bytes_73 : T.bytes 73 = 128 := nr rfl
@[go_sem] theorem zero_73 : T.zero 73 = .agg 73 (List.replicate 128 (.bool false)) := nr rfl
@[go_sem] theorem ty_74 : T.ty 74 = some .func := nr rfl
@[go_sem] theorem size_74 : T.size 74 = 1 := nr rfl
@[go_sem] theorem bytes_74 : T.bytes 74 = 8 := nr rfl
@[go_sem] theorem zero_74 : T.zero 74 = .nilf := nr rfl
@[go_sem] theorem ty_75 : T.ty 75 = some .func := nr rfl
@[go_sem] theorem size_75 : T.size 75 = 1 := nr rfl
@[go_sem] theorem bytes_75 : T.bytes 75 = 8 := nr rfl
@[go_sem] theorem zero_75 : T.zero 75 = .nilf := nr rfl
@[go_sem] theorem ty_76 : T.ty 76 = some .func := nr rfl
@[go_sem] theorem size_76 : T.size 76 = 1 := nr rfl
@[go_sem] theorem bytes_76 : T.bytes 76 = 8 := nr rfl
@[go_sem] theorem zero_76 : T.zero 76 = .nilf := nr rfl
@[go_sem] theorem ty_77 : T.ty 77 = some .func := nr rfl
@[go_sem] theorem size_77 : T.size 77 = 1 := nr rfl
@[go_sem] theorem bytes_77 : T.bytes 77 = 8 := nr rfl
@[go_sem] theorem zero_77 : T.zero 77 = .nilf := nr rfl
@[go_sem] theorem ty_78 : T.ty 78 = some .func := nr rfl
@[go_sem] theorem size_78 : T.size 78 = 1 := nr rfl
@[go_sem] theorem bytes_78 : T.bytes 78 = 8 := nr rfl
@[go_sem] theorem zero_78 : T.zero 78 = .nilf := nr rfl
@[go_sem] theorem ty_79 : T.ty 79 = some .func := nr rfl
@[go_sem] theorem size_79 : T.size 79 = 1 := nr rfl
@[go_sem] theorem bytes_79 : T.bytes 79 = 8 := nr rfl
@[go_sem] theorem zero_79 : T.zero 79 = .nilf := nr rfl
@[go_sem] theorem ty_80 : T.ty 80 = some .func := nr rfl
@[go_sem] theorem size_80 : T.size 80 = 1 := nr rfl
@[go_sem] theorem bytes_80 : T.bytes 80 = 8 := nr rfl
@[go_sem] theorem zero_80 : T.zero 80 = .nilf := nr rfl
@[go_sem] theorem ty_81 : T.ty 81 = some .func := nr rfl
@[go_sem] theorem size_81 : T.size 81 = 1 := nr rfl
@[go_sem] theorem bytes_81 : T.bytes 81 = 8 := nr rfl
@[go_sem] theorem zero_81 : T.zero 81 = .nilf := nr rfl
@[go_sem] theorem ty_82 : T.ty 82 = some (.slice 43) := nr rfl
@[go_sem] theorem size_82 : T.size 82 = 1 := nr rfl
@[go_sem] theorem bytes_82 : T.bytes 82 = 24 := nr rfl
@[go_sem] theorem zero_82 : T.zero 82 = .mt true := nr rfl
@[go_sem] theorem ty_84 : T.ty 84 = some .func := nr rfl
@[go_sem] theorem size_84 : T.size 84 = 1 := nr rfl
@[go_sem] theorem bytes_84 : T.bytes 84 = 8 := nr rfl
@[go_sem] theorem zero_84 : T.zero 84 = .nilf := nr rfl
@[go_sem] theorem ty_85 : T.ty 85 = some .func := nr rfl
@[go_sem] theorem size_85 : T.size 85 = 1 := nr rfl
@[go_sem] theorem bytes_85 : T.bytes 85 = 8 := nr rfl
@[go_sem] theorem zero_85 : T.zero 85 = .nilf := nr rfl
@[go_sem] theorem ty_86 : T.ty 86 = some .func := nr rfl
@[go_sem] theorem size_86 : T.size 86 = 1 := nr rfl
@[go_sem] theorem bytes_86 : T.bytes 86 = 8 := nr rfl
@[go_sem] theorem zero_86 : T.zero 86 = .nilf := nr rfl
@[go_sem] theorem ty_87 : T.ty 87 = some (.map 3 4) := nr rfl
@[go_sem] theorem size_87 : T.size 87 = 1 := nr rfl
@[go_sem] theorem bytes_87 : T.bytes 87 = 8 := nr rfl
@[go_sem] theorem zero_87 : T.zero 87 = .nilm := nr rfl
@[go_sem] theorem ty_88 : T.ty 88 = some .func := nr rfl
@[go_sem] theorem size_88 : T.size 88 = 1 := nr rfl
@[go_sem] theorem bytes_88 : T.bytes 88 = 8 := nr rfl
@[go_sem] theorem zero_88 : T.zero 88 = .nilf := nr rfl
@[go_sem] theorem ty_89 : T.ty 89 = some .func := nr rfl
@[go_sem] theorem size_89 : T.size 89 = 1 := nr rfl
@[go_sem] theorem bytes_89 : T.bytes 89 = 8 := nr rfl
@[go_sem] theorem zero_89 : T.zero 89 = .nilf := nr rfl
@[go_sem] theorem ty_90 : T.ty 90 = some (.struct [26, 26, 26, 26, 26]) := nr rfl
@[go_sem] theorem eqT_90 : T.eqT 90 = false := nr rfl
@[go_sem] theorem size_90 : T.size 90 = 5 := nr rfl
@[go_sem] theorem bytes_90 : T.bytes 90 = 20 := nr rfl
@[go_sem] theorem zero_90 : T.zero 90 = .agg 90 [.int .u32 0, .int .u32 0, .int .u32 0, .int .u32 0, .int .u32 0] := nr rfl
@[go_sem] theorem ty_91 : T.ty 91 = some (.struct [26, 26, 26, 26, 26]) := nr rfl
@[go_sem] theorem eqT_91 : T.eqT 91 = true := nr rfl
@[go_sem] theorem size_91 : T.size 91 = 5 := nr rfl
@[go_sem] theorem bytes_91 : T.bytes 91 = 20 := nr rfl
@[go_sem] theorem zero_91 : T.zero 91 = .agg 91 [.int .u32 0, .int .u32 0, .int .u32 0, .int .u32 0, .int .u32 0] := nr rfl
@[go_sem] theorem ty_93 : T.ty 93 = some .func := nr rfl
@[go_sem] theorem size_93 : T.size 93 = 1 := nr rfl
@[go_sem] theorem bytes_93 : T.bytes 93 = 8 := nr rfl
@[go_sem] theorem zero_93 : T.zero 93 = .nilf := nr rfl
@[go_sem] theorem ty_94 : T.ty 94 = some .func := nr rfl
@[go_sem] theorem size_94 : T.size 94 = 1 := nr rfl
@[go_sem] theorem bytes_94 : T.bytes 94 = 8 := nr rfl
@[go_sem] theorem zero_94 : T.zero 94 = .nilf := nr rfl
@[go_sem] theorem ty_95 : T.ty 95 = some (.slice 9) := nr rfl
@[go_sem] theorem size_95 : T.size 95 = 1 := nr rfl
@[go_sem] theorem bytes_95 : T.bytes 95 = 24 := nr rfl
@[go_sem] theorem zero_95 : T.zero 95 = .mt true := nr rfl
@[go_sem] theorem ty_96 : T.ty 96 = some .func := nr rfl
@[go_sem] theorem size_96 : T.size 96 = 1 := nr rfl
@[go_sem] theorem bytes_96 : T.bytes 96 = 8 := nr rfl
@[go_sem] theorem zero_96 : T.zero 96 = .nilf := nr rfl
@[go_sem] theorem ty_97 : T.ty 97 = some .func := nr rfl
@[go_sem] theorem size_97 : T.size 97 = 1 := nr rfl
@[go_sem] theorem bytes_97 : T.bytes 97 = 8 := nr rfl
@[go_sem] theorem zero_97 : T.zero 97 = .nilf := nr rfl
@[go_sem] theorem ty_98 : T.ty 98 = some .func := nr rfl
@[go_sem] theorem size_98 : T.size 98 = 1 := nr rfl
@[go_sem] theorem bytes_98 : T.bytes 98 = 8 := nr rfl
@[go_sem] theorem zero_98 : T.zero 98 = .nilf := nr rfl
@[go_sem] theorem ty_99 : T.ty 99 = some .func := nr rfl
@[go_sem] theorem size_99 : T.size 99 = 1 := nr rfl
@[go_sem] theorem bytes_99 : T.bytes 99 = 8 := nr rfl
@[go_sem] theorem zero_99 : T.zero 99 = .nilf := nr rfl
@[go_sem] theorem ty_100 : T.ty 100 = some .func := nr rfl
@[go_sem] theorem size_100 : T.size 100 = 1 := nr rfl
@[go_sem] theorem bytes_100 : T.bytes 100 = 8 := nr rfl
@[go_sem] theorem zero_100 : T.zero 100 = .nilf := nr rfl
@[go_sem] theorem ty_102 : T.ty 102 = some .func := nr rfl
@[go_sem] theorem size_102 : T.size 102 = 1 := nr rfl
@[go_sem] theorem bytes_102 : T.bytes 102 = 8 := nr rfl
@[go_sem] theorem zero_102 : T.zero 102 = .nilf := nr rfl
@[go_sem] theorem ty_103 : T.ty 103 = some .func := nr rfl
@[go_sem] theorem size_103 : T.size 103 = 1 := nr rfl
@[go_sem] theorem bytes_103 : T.bytes 103 = 8 := nr rfl
@[go_sem] theorem zero_103 : T.zero 103 = .nilf := nr rfl
@[go_sem] theorem ty_104 : T.ty 104 = some .func := nr rfl
@[go_sem] theorem size_104 : T.size 104 = 1 := nr rfl
@[go_sem] theorem bytes_104 : T.bytes 104 = 8 := nr rfl
@[go_sem] theorem zero_104 : T.zero 104 = .nilf := nr rfl
@[go_sem] theorem ty_105 : T.ty 105 = some .func := nr rfl
@[go_sem] theorem size_105 : T.size 105 = 1 := nr rfl
@[go_sem] theorem bytes_105 : T.bytes 105 = 8 := nr rfl
@[go_sem] theorem zero_105 : T.zero 105 = .nilf := nr rfl
@[go_sem] theorem ty_106 : T.ty 106 = some .func := nr rfl
@[go_sem] theorem size_106 : T.size 106 = 1 := nr rfl
@[go_sem] theorem bytes_106 : T.bytes 106 = 8 := nr rfl
@[go_sem] theorem zero_106 : T.zero 106 = .nilf := nr rfl
@[go_sem] theorem ty_108 : T.ty 108 = some .func := nr rfl
@[go_sem] theorem size_108 : T.size 108 = 1 := nr rfl
@[go_sem] theorem bytes_108 : T.bytes 108 = 8 := nr rfl
@[go_sem] theorem zero_108 : T.zero 108 = .nilf := nr rfl
@[go_sem] theorem ty_109 : T.ty 109 = some .func := nr rfl
@[go_sem] theorem size_109 : T.size 109 = 1 := nr rfl
@[go_sem] theorem bytes_109 : T.bytes 109 = 8 := nr rfl
@[go_sem] theorem zero_109 : T.zero 109 = .nilf := nr rfl
@[go_sem] theorem ty_110 : T.ty 110 = some .func := nr rfl
@[go_sem] theorem size_110 : T.size 110 = 1 := nr rfl
@[go_sem] theorem bytes_110 : T.bytes 110 = 8 := nr rfl
@[go_sem] theorem zero_110 : T.zero 110 = .nilf := nr rfl
@[go_sem] theorem ty_111 : T.ty 111 = some (.array 16 91) := nr rfl
@[go_sem] theorem size_111 : T.size 111 = 80 := nr rfl
@[go_sem] theorem bytes_111 : T.bytes 111 = 320 := nr rfl
@[go_sem] theorem zero_111 : T.zero 111 = .agg 111 (List.replicate 16 (.agg 91 [.int .u32 0, .int .u32 0, .int .u32 0, .int .u32 0, .int .u32 0])) := nr rfl
@[go_sem] theorem ty_112 : T.ty 112 = some (.slice 38) := nr rfl
@[go_sem] theorem size_112 : T.size 112 = 1 := nr rfl
@[go_sem] theorem bytes_112 : T.bytes 112 = 24 := nr rfl
@[go_sem] theorem zero_112 : T.zero 112 = .mt true := nr rfl
@[go_sem] theorem ty_113 : T.ty 113 = some .func := nr rfl
@[go_sem] theorem size_113 : T.size 113 = 1 := nr rfl
@[go_sem] theorem bytes_113 : T.bytes 113 = 8 := nr rfl
@[go_sem] theorem zero_113 : T.zero 113 = .nilf := nr rfl
@[go_sem] theorem ty_114 : T.ty 114 = some .func := nr rfl
@[go_sem] theorem size_114 : T.size 114 = 1 := nr rfl
@[go_sem] theorem bytes_114 : T.bytes 114 = 8 := nr rfl
@[go_sem] theorem zero_114 : T.zero 114 = .nilf := nr rfl
@[go_sem] theorem ty_115 : T.ty 115 = some .func := nr rfl
@[go_sem] theorem size_115 : T.size 115 = 1 := nr rfl
@[go_sem] theorem bytes_115 : T.bytes 115 = 8 := nr rfl
@[go_sem] theorem zero_115 : T.zero 115 = .nilf := nr rfl
@[go_sem] theorem ty_116 : T.ty 116 = some (.array 2 4) := nr rfl
@[go_sem] theorem size_116 : T.size 116 = 2 := nr rfl
@[go_sem] theorem bytes_116 : T.bytes 116 = 2 := nr rfl
@[go_sem] theorem zero_116 : T.zero 116 = .agg 116 (List.replicate 2 (.bool false)) := nr rfl
@[go_sem] theorem ty_118 : T.ty 118 = some .func := nr rfl
@[go_sem] theorem size_118 : T.size 118 = 1 := nr rfl
@[go_sem] theorem bytes_118 : T.bytes 118 = 8 := nr rfl
@[go_sem] theorem zero_118 : T.zero 118 = .nilf := nr rfl
@[go_sem] theorem ty_119 : T.ty 119 = some .func := nr rfl
@[go_sem] theorem size_119 : T.size 119 = 1 := nr rfl
@[go_sem] theorem bytes_119 : T.bytes 119 = 8 := nr rfl
@[go_sem] theorem zero_119 : T.zero 119 = .nilf := nr rfl
@[go_sem] theorem ty_120 : T.ty 120 = some .func := nr rfl
@[go_sem] theorem size_120 : T.size 120 = 1 := nr rfl
@[go_sem] theorem bytes_120 : T.bytes 120 = 8 := nr rfl
@[go_sem] theorem zero_120 : T.zero 120 = .nilf := nr rfl
@[go_sem] theorem ty_121 : T.ty 121 = some .ptr := nr rfl
@[go_sem] theorem size_121 : T.size 121 = 1 := nr rfl
@[go_sem] theorem bytes_121 : T.bytes 121 = 8 := nr rfl
@[go_sem] theorem zero_121 : T.zero 121 = .nilp := nr rfl
@[go_sem] theorem ty_122 : T.ty 122 = some (.struct [48, 54, 43, 38, 38, 3, 38, 30]) := nr rfl
@[go_sem] theorem eqT_122 : T.eqT 122 = false := nr rfl
@[go_sem] theorem size_122 : T.size 122 = 155 := nr rfl
@[go_sem] theorem bytes_122 : T.bytes 122 = 1288 := nr rfl
@[go_sem] theorem zero_122 : T.zero 122 = .agg 122 [.mt true, .mt true, .agg 43 [.agg 39 (List.replicate 10 (.agg 38 [.int .i64 0, .int .i64 0, .int .i64 0, .int .i64 0, .bool false, .agg 36 [.int .u64 0, .int .u64 0]])), .agg 40 (List.replicate 8 (.agg 38 [.int .i64 0, .int .i64 0, .int .i64 0, .int .i64 0, .bool false, .agg 36 [.int .u64 0, .int .u64 0]])), .mt true, .int .i64 0, .bool false, .int .i64 0], .agg 38 [.int .i64 0, .int .i64 0, .int .i64 0, .int .i64 0, .bool false, .agg 36 [.int .u64 0, .int .u64 0]], .agg 38 [.int .i64 0, .int .i64 0, .int .i64 0, .int .i64 0, .bool false, .agg 36 [.int .u64 0, .int .u64 0]], .int .i64 0, .agg 38 [.int .i64 0, .int .i64 0, .int .i64 0, .int .i64 0, .bool false, .agg 36 [.int .u64 0, .int .u64 0]], .int .i64 0] := nr rfl
@[go_sem] theorem ty_123 : T.ty 123 = some (.struct [48, 54, 43, 38, 38, 3, 38, 30]) := nr rfl
@[go_sem] theorem eqT_123 : T.eqT 123 = false := nr rfl
@[go_sem] theorem size_123 : T.size 123 = 155 := nr rfl
@[go_sem] theorem bytes_123 : T.bytes 123 = 1288 := nr rfl
@[go_sem] theorem zero_123 : T.zero 123 = .agg 123 [.mt true, .mt true, .agg 43 [.agg 39 (List.replicate 10 (.agg 38 [.int .i64 0, .int .i64 0, .int .i64 0, .int .i64 0, .bool false, .agg 36 [.int .u64 0, .int .u64 0]])), .agg 40 (List.replicate 8 (.agg 38 [.int .i64 0, .int .i64 0, .int .i64 0, .int .i64 0, .bool false, .agg 36 [.int .u64 0, .int .u64 0]])), .mt true, .int .i64 0, .bool false, .int .i64 0], .agg 38 [.int .i64 0, .int .i64 0, .int .i64 0, .int .i64 0, .bool false, .agg 36 [.int .u64 0, .int .u64 0]], .agg 38 [.int .i64 0, .int .i64 0, .int .i64 0, .int .i64 0, .bool false, .agg 36 [.int .u64 0, .int .u64 0]], .int .i64 0, .agg 38 [.int .i64 0, .int .i64 0, .int .i64 0, .int .i64 0, .bool false, .agg 36 [.int .u64 0, .int .u64 0]], .int .i64 0] := nr rfl
@[go_sem] theorem ty_124 : T.ty 124 = some .func := nr rfl
@[go_sem] theorem size_124 : T.size 124 = 1 := nr rfl
@[go_sem] theorem bytes_124 : T.bytes 124 = 8 := nr rfl
@[go_sem] theorem zero_124 : T.zero 124 = .nilf := nr rfl
@[go_sem] theorem ty_125 : T.ty 125 = some .func := nr rfl
@[go_sem] theorem size_125 : T.size 125 = 1 := nr rfl
@[go_sem] theorem bytes_125 : T.bytes 125 = 8 := nr rfl
@[go_sem] theorem zero_125 : T.zero 125 = .nilf := nr rfl
@[go_sem] theorem ty_126 : T.ty 126 = some .func := nr rfl
@[go_sem] theorem size_126 : T.size 126 = 1 := nr rfl
@[go_sem] theorem bytes_126 : T.bytes 126 = 8 := nr rfl
@[go_sem] theorem zero_126 : T.zero 126 = .nilf := nr rfl
@[go_sem] theorem ty_127 : T.ty 127 = some .func := nr rfl
@[go_sem] theorem size_127 : T.size 127 = 1 := nr rfl
@[go_sem] theorem bytes_127 : T.bytes 127 = 8 := nr rfl
@[go_sem] theorem zero_127 : T.zero 127 = .nilf := nr rfl
@[go_sem] theorem ty_128 : T.ty 128 = some .func := nr rfl
@[go_sem] theorem size_128 : T.size 128 = 1 := nr rfl
@[go_sem] theorem bytes_128 : T.bytes 128 = 8 := nr rfl
@[go_sem] theorem zero_128 : T.zero 128 = .nilf := nr rfl
@[go_sem] theorem ty_129 : T.ty 129 = some .func := nr rfl
@[go_sem] theorem size_129 : T.size 129 = 1 := nr rfl
@[go_sem] theorem bytes_129 : T.bytes 129 = 8 := nr rfl
@[go_sem] theorem zero_129 : T.zero 129 = .nilf := nr rfl
@[go_sem] theorem ty_130 : T.ty 130 = some .func := nr rfl
@[go_sem] theorem size_130 : T.size 130 = 1 := nr rfl
@[go_sem] theorem bytes_130 : T.bytes 130 = 8 := nr rfl
@[go_sem] theorem zero_130 : T.zero 130 = .nilf := nr rfl
@[go_sem] theorem ty_132 : T.ty 132 = some .func := nr rfl
@[go_sem] theorem size_132 : T.size 132 = 1 := nr rfl
@[go_sem] theorem bytes_132 : T.bytes 132 = 8 := nr rfl
@[go_sem] theorem zero_132 : T.zero 132 = .nilf := nr rfl
@[go_sem] theorem ty_133 : T.ty 133 = some .func := nr rfl
@[go_sem] theorem size_133 : T.size 133 = 1 := nr rfl
@[go_sem] theorem bytes_133 : T.bytes 133 = 8 := nr rfl
@[go_sem] theorem zero_133 : T.zero 133 = .nilf := nr rfl
@[go_sem] theorem ty_135 : T.ty 135 = some .func := nr rfl
@[go_sem] theorem size_135 : T.size 135 = 1 := nr rfl
@[go_sem] theorem bytes_135 : T.bytes 135 = 8 := nr rfl
@[go_sem] theorem zero_135 : T.zero 135 = .nilf := nr rfl
@[go_sem] theorem ty_136 : T.ty 136 = some .func := nr rfl
@[go_sem] theorem size_136 : T.size 136 = 1 := nr rfl
@[go_sem] theorem bytes_136 : T.bytes 136 = 8 := nr rfl
@[go_sem] theorem zero_136 : T.zero 136 = .nilf := nr rfl
@[go_sem] theorem ty_137 : T.ty 137 = some .func := nr rfl
@[go_sem] theorem size_137 : T.size 137 = 1 := nr rfl
@[go_sem] theorem bytes_137 : T.bytes 137 = 8 := nr rfl
@[go_sem] theorem zero_137 : T.zero 137 = .nilf := nr rfl
@[go_sem] theorem ty_138 : T.ty 138 = some .func := nr rfl
@[go_sem] theorem size_138 : T.size 138 = 1 := nr rfl
@[go_sem] theorem bytes_138 : T.bytes 138 = 8 := nr rfl
@[go_sem] theorem zero_138 : T.zero 138 = .nilf := nr rfl
@[go_sem] theorem ty_140 : T.ty 140 = some .func := nr rfl
@[go_sem] theorem size_140 : T.size 140 = 1 := nr rfl
@[go_sem] theorem bytes_140 : T.bytes 140 = 8 := nr rfl
@[go_sem] theorem zero_140 : T.zero 140 = .nilf := nr rfl
@[go_sem] theorem ty_141 : T.ty 141 = some .func := nr rfl
@[go_sem] theorem size_141 : T.size 141 = 1 := nr rfl
@[go_sem] theorem bytes_141 : T.bytes 141 = 8 := nr rfl
@[go_sem] theorem zero_141 : T.zero 141 = .nilf := nr rfl
@[go_sem] theorem ty_142 : T.ty 142 = some .func := nr rfl
@[go_sem] theorem size_142 : T.size 142 = 1 := nr rfl
@[go_sem] theorem bytes_142 : T.bytes 142 = 8 := nr rfl
@[go_sem] theorem zero_142 : T.zero 142 = .nilf := nr rfl
@[go_sem] theorem ty_143 : T.ty 143 = some .func := nr rfl
@[go_sem] theorem size_143 : T.size 143 = 1 := nr rfl
@[go_sem] theorem bytes_143 : T.bytes 143 = 8 := nr rfl
@[go_sem] theorem zero_143 : T.zero 143 = .nilf := nr rfl
@[go_sem] theorem ty_145 : T.ty 145 = some .func := nr rfl
@[go_sem] theorem size_145 : T.size 145 = 1 := nr rfl
@[go_sem] theorem bytes_145 : T.bytes 145 = 8 := nr rfl
@[go_sem] theorem zero_145 : T.zero 145 = .nilf := nr rfl
@[go_sem] theorem ty_147 : T.ty 147 = some .func := nr rfl
@[go_sem] theorem size_147 : T.size 147 = 1 := nr rfl
@[go_sem] theorem bytes_147 : T.bytes 147 = 8 := nr rfl
@[go_sem] theorem zero_147 : T.zero 147 = .nilf := nr rfl
@[go_sem] theorem ty_148 : T.ty 148 = some .func := nr rfl
@[go_sem] theorem size_148 : T.size 148 = 1 := nr rfl
@[go_sem] theorem bytes_148 : T.bytes 148 = 8 := nr rfl
@[go_sem] theorem zero_148 : T.zero 148 = .nilf := nr rfl
@[go_sem] theorem ty_150 : T.ty 150 = some .func := nr rfl
@[go_sem] theorem size_150 : T.size 150 = 1 := nr rfl
@[go_sem] theorem bytes_150 : T.bytes 150 = 8 := nr rfl
@[go_sem] theorem zero_150 : T.zero 150 = .nilf := nr rfl
@[go_sem] theorem ty_151 : T.ty 151 = some .func := nr rfl
@[go_sem] theorem size_151 : T.size 151 = 1 := nr rfl
@[go_sem] theorem bytes_151 : T.bytes 151 = 8 := nr rfl
@[go_sem] theorem zero_151 : T.zero 151 = .nilf := nr rfl
@[go_sem] theorem ty_152 : T.ty 152 = some .func := nr rfl
@[go_sem] theorem size_152 : T.size 152 = 1 := nr rfl
@[go_sem] theorem bytes_152 : T.bytes 152 = 8 := nr rfl
@[go_sem] theorem zero_152 : T.zero 152 = .nilf := nr rfl
@[go_sem] theorem ty_153 : T.ty 153 = some .func := nr rfl
@[go_sem] theorem size_153 : T.size 153 = 1 := nr rfl
@[go_sem] theorem bytes_153 : T.bytes 153 = 8 := nr rfl
@[go_sem] theorem zero_153 : T.zero 153 = .nilf := nr rfl
@[go_sem] theorem ty_154 : T.ty 154 = some .func := nr rfl
@[go_sem] theorem size_154 : T.size 154 = 1 := nr rfl
@[go_sem] theorem bytes_154 : T.bytes 154 = 8 := nr rfl
@[go_sem] theorem zero_154 : T.zero 154 = .nilf := nr rfl
@[go_sem] theorem ty_155 : T.ty 155 = some .func := nr rfl
@[go_sem] theorem size_155 : T.size 155 = 1 := nr rfl
@[go_sem] theorem bytes_155 : T.bytes 155 = 8 := nr rfl
@[go_sem] theorem zero_155 : T.zero 155 = .nilf := nr rfl
@[go_sem] theorem ty_156 : T.ty 156 = some .func := nr rfl
@[go_sem] theorem size_156 : T.size 156 = 1 := nr rfl
@[go_sem] theorem bytes_156 : T.bytes 156 = 8 := nr rfl
@[go_sem] theorem zero_156 : T.zero 156 = .nilf := nr rfl
@[go_sem] theorem ty_157 : T.ty 157 = some .func := nr rfl
@[go_sem] theorem size_157 : T.size 157 = 1 := nr rfl
@[go_sem] theorem bytes_157 : T.bytes 157 = 8 := nr rfl
@[go_sem] theorem zero_157 : T.zero 157 = .nilf := nr rfl
@[go_sem] theorem ty_158 : T.ty 158 = some .func := nr rfl
@[go_sem] theorem size_158 : T.size 158 = 1 := nr rfl
@[go_sem] theorem bytes_158 : T.bytes 158 = 8 := nr rfl
@[go_sem] theorem zero_158 : T.zero 158 = .nilf := nr rfl
@[go_sem] theorem ty_159 : T.ty 159 = some (.int .u64) := nr rfl
@[go_sem] theorem size_159 : T.size 159 = 1 := nr rfl
@[go_sem] theorem bytes_159 : T.bytes 159 = 8 := nr rfl
@[go_sem] theorem zero_159 : T.zero 159 = .int .u64 0 := nr rfl
@[go_sem] theorem ty_160 : T.ty 160 = some .func := nr rfl
@[go_sem] theorem size_160 : T.size 160 = 1 := nr rfl
@[go_sem] theorem bytes_160 : T.bytes 160 = 8 := nr rfl
@[go_sem] theorem zero_160 : T.zero 160 = .nilf := nr rfl
@[go_sem] theorem ty_161 : T.ty 161 = some .func := nr rfl
@[go_sem] theorem size_161 : T.size 161 = 1 := nr rfl
@[go_sem] theorem bytes_161 : T.bytes 161 = 8 := nr rfl
@[go_sem] theorem zero_161 : T.zero 161 = .nilf := nr rfl
@[go_sem] theorem ty_162 : T.ty 162 = some (.array 9 3) := nr rfl
@[go_sem] theorem size_162 : T.size 162 = 9 := nr rfl
@[go_sem] theorem bytes_162 : T.bytes 162 = 72 := nr rfl
@[go_sem] theorem zero_162 : T.zero 162 = .agg 162 (List.replicate 9 (.int .i64 0)) := nr rfl
@[go_sem] theorem ty_163 : T.ty 163 = some (.map 3 3) := nr rfl
@[go_sem] theorem size_163 : T.size 163 = 1 := nr rfl
@[go_sem] theorem bytes_163 : T.bytes 163 = 8 := nr rfl
@[go_sem] theorem zero_163 : T.zero 163 = .nilm := nr rfl
@[go_sem] theorem ty_164 : T.ty 164 = some .func := nr rfl
@[go_sem] theorem size_164 : T.size 164 = 1 := nr rfl
@[go_sem] theorem bytes_164 : T.bytes 164 = 8 := nr rfl
@[go_sem] theorem zero_164 : T.zero 164 = .nilf := nr rfl
@[go_sem] theorem ty_165 : T.ty 165 = some .func := nr rfl
@[go_sem] theorem size_165 : T.size 165 = 1 := nr rfl
@[go_sem] theorem bytes_165 : T.bytes 165 = 8 := nr rfl
@[go_sem] theorem zero_165 : T.zero 165 = .nilf := nr rfl
@[go_sem] theorem ty_166 : T.ty 166 = some .func := nr rfl
@[go_sem] theorem size_166 : T.size 166 = 1 := nr rfl
@[go_sem] theorem bytes_166 : T.bytes 166 = 8 := nr rfl
@[go_sem] theorem zero_166 : T.zero 166 = .nilf := nr rfl
@[go_sem] theorem ty_167 : T.ty 167 = some (.struct [17, 17, 17, 9]) := nr rfl
@[go_sem] theorem eqT_167 : T.eqT 167 = false := nr rfl
@[go_sem] theorem size_167 : T.size 167 = 4 := nr rfl
@[go_sem] theorem bytes_167 : T.bytes 167 = 40 := nr rfl
@[go_sem] theorem zero_167 : T.zero 167 = .agg 167 [.nilp, .nilp, .nilp, .str ByteArray.empty] := nr rfl
@[go_sem] theorem ty_168 : T.ty 168 = some (.struct [17, 17, 17, 9]) := nr rfl
@[go_sem] theorem eqT_168 : T.eqT 168 = false := nr rfl
@[go_sem] theorem size_168 : T.size 168 = 4 := nr rfl
@[go_sem] theorem bytes_168 : T.bytes 168 = 40 := nr rfl
@[go_sem] theorem zero_168 : T.zero 168 = .agg 168 [.nilp, .nilp, .nilp, .str ByteArray.empty] := nr rfl
@[go_sem] theorem ty_169 : T.ty 169 = some (.array 0 16) := nr rfl
@[go_sem] theorem size_169 : T.size 169 = 0 := nr rfl
@[go_sem] theorem bytes_169 : T.bytes 169 = 0 := nr rfl
@[go_sem] theorem zero_169 : T.zero 169 = .agg 169 (List.replicate 0 (.nilp)) := nr rfl
@[go_sem] theorem ty_170 : T.ty 170 = some (.struct [169]) := nr rfl
@[go_sem] theorem eqT_170 : T.eqT 170 = false := nr rfl
@[go_sem] theorem size_170 : T.size 170 = 0 := nr rfl
@[go_sem] theorem bytes_170 : T.bytes 170 = 0 := nr rfl
@[go_sem] theorem zero_170 : T.zero 170 = .agg 170 [.agg 169 (List.replicate 0 (.nilp))] := nr rfl
@[go_sem] theorem ty_171 : T.ty 171 = some (.struct [169]) := nr rfl
@[go_sem] theorem eqT_171 : T.eqT 171 = false := nr rfl
@[go_sem] theorem size_171 : T.size 171 = 0 := nr rfl
@[go_sem] theorem bytes_171 : T.bytes 171 = 0 := nr rfl
@[go_sem] theorem zero_171 : T.zero 171 = .agg 171 [.agg 169 (List.replicate 0 (.nilp))] := nr rfl
@[go_sem] theorem ty_172 : T.ty 172 = some .func := nr rfl
@[go_sem] theorem size_172 : T.size 172 = 1 := nr rfl
@[go_sem] theorem bytes_172 : T.bytes 172 = 8 := nr rfl
@[go_sem] theorem zero_172 : T.zero 172 = .nilf := nr rfl
@[go_sem] theorem ty_173 : T.ty 173 = some (.int .u8) := nr rfl
@[go_sem] theorem size_173 : T.size 173 = 1 := nr rfl
@[go_sem] theorem bytes_173 : T.bytes 173 = 1 := nr rfl
@[go_sem] theorem zero_173 : T.zero 173 = .int .u8 0 := nr rfl
@[go_sem] theorem ty_174 : T.ty 174 = some (.int .u8) := nr rfl
@[go_sem] theorem size_174 : T.size 174 = 1 := nr rfl
@[go_sem] theorem bytes_174 : T.bytes 174 = 1 := nr rfl
@[go_sem] theorem zero_174 : T.zero 174 = .int .u8 0 := nr rfl
@[go_sem] theorem ty_175 : T.ty 175 = some .func := nr rfl
@[go_sem] theorem size_175 : T.size 175 = 1 := nr rfl
@[go_sem] theorem bytes_175 : T.bytes 175 = 8 := nr rfl
@[go_sem] theorem zero_175 : T.zero 175 = .nilf := nr rfl
@[go_sem] theorem ty_176 : T.ty 176 = some .ptr := nr rfl
@[go_sem] theorem size_176 : T.size 176 = 1 := nr rfl
@[go_sem] theorem bytes_176 : T.bytes 176 = 8 := nr rfl
@[go_sem] theorem zero_176 : T.zero 176 = .nilp := nr rfl
@[go_sem] theorem ty_177 : T.ty 177 = some (.int .i32) := nr rfl
@[go_sem] theorem size_177 : T.size 177 = 1 := nr rfl
@[go_sem] theorem bytes_177 : T.bytes 177 = 4 := nr rfl
@[go_sem] theorem zero_177 : T.zero 177 = .int .i32 0 := nr rfl
@[go_sem] theorem ty_178 : T.ty 178 = some (.int .i32) := nr rfl
@[go_sem] theorem size_178 : T.size 178 = 1 := nr rfl
@[go_sem] theorem bytes_178 : T.bytes 178 = 4 := nr rfl
@[go_sem] theorem zero_178 : T.zero 178 = .int .i32 0 := nr rfl
@[go_sem] theorem ty_179 : T.ty 179 = some (.struct [12, 12, 26, 173, 5, 5, 174, 175, 176, 177, 178]) := nr rfl
@[go_sem] theorem eqT_179 : T.eqT 179 = false := nr rfl
@[go_sem] theorem size_179 : T.size 179 = 11 := nr rfl
@[go_sem] theorem bytes_179 : T.bytes 179 = 48 := nr rfl
@[go_sem] theorem zero_179 : T.zero 179 = .agg 179 [.int .u64 0, .int .u64 0, .int .u32 0, .int .u8 0, .int .u8 0, .int .u8 0, .int .u8 0, .nilf, .nilp, .int .i32 0, .int .i32 0] := nr rfl
@[go_sem] theorem ty_180 : T.ty 180 = some (.struct [12, 12, 26, 173, 5, 5, 174, 175, 176, 177, 178]) := nr rfl
@[go_sem] theorem eqT_180 : T.eqT 180 = false := nr rfl
@[go_sem] theorem size_180 : T.size 180 = 11 := nr rfl
@[go_sem] theorem bytes_180 : T.bytes 180 = 48 := nr rfl
@[go_sem] theorem zero_180 : T.zero 180 = .agg 180 [.int .u64 0, .int .u64 0, .int .u32 0, .int .u8 0, .int .u8 0, .int .u8 0, .int .u8 0, .nilf, .nilp, .int .i32 0, .int .i32 0] := nr rfl
end Go.Proofs.Yticlihmbikcohaa.Va
