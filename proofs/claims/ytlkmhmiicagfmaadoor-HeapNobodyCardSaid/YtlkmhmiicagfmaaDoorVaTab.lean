/- the types of the translation: shapes, cells, bytes, zero values -/
import Derived.Test.YtlkmhmiicagfmaaDoorVaK
namespace Go.Proofs.YtlkmhmiicagfmaaDoor.Va
open Go
set_option linter.unusedVariables false
def rows : List (Nat × TRow) := [
  (1, ⟨.func, 1, 8, .nilf, false⟩),
  (2, ⟨(.int .i64), 1, 8, .int .i64 0, false⟩),
  (3, ⟨(.int .i64), 1, 8, .int .i64 0, false⟩),
  (4, ⟨.bool, 1, 1, .bool false, false⟩),
  (5, ⟨(.int .u8), 1, 1, .int .u8 0, false⟩),
  (6, ⟨(.int .u8), 1, 1, .int .u8 0, false⟩),
  (7, ⟨(.struct [2, 3, 4, 6]), 4, 24, .agg 7 [.int .i64 0, .int .i64 0, .bool false, .int .u8 0], false⟩),
  (8, ⟨(.struct [2, 3, 4, 6]), 4, 24, .agg 8 [.int .i64 0, .int .i64 0, .bool false, .int .u8 0], false⟩),
  (9, ⟨.str, 1, 16, .str ByteArray.empty, false⟩),
  (10, ⟨.str, 1, 16, .str ByteArray.empty, false⟩),
  (11, ⟨.str, 1, 16, .str ByteArray.empty, false⟩),
  (12, ⟨(.int .u64), 1, 8, .int .u64 0, false⟩),
  (13, ⟨(.struct [9, 12]), 2, 24, .agg 13 [.str ByteArray.empty, .int .u64 0], false⟩),
  (14, ⟨(.struct [9, 12]), 2, 24, .agg 14 [.str ByteArray.empty, .int .u64 0], false⟩),
  (15, ⟨.ptr, 1, 8, .nilp, false⟩),
  (16, ⟨.ptr, 1, 8, .nilp, false⟩),
  (17, ⟨.ptr, 1, 8, .nilp, false⟩),
  (18, ⟨(.struct [17]), 1, 8, .agg 18 [.nilp], false⟩),
  (19, ⟨(.struct [17]), 1, 8, .agg 19 [.nilp], false⟩),
  (20, ⟨.iface, 1, 16, .nili, false⟩),
  (21, ⟨(.int .i32), 1, 4, .int .i32 0, false⟩),
  (22, ⟨.func, 1, 8, .nilf, false⟩),
  (23, ⟨.ptr, 1, 8, .nilp, false⟩),
  (24, ⟨(.int .i64), 1, 8, .int .i64 0, false⟩),
  (26, ⟨.func, 1, 8, .nilf, false⟩),
  (28, ⟨.func, 1, 8, .nilf, false⟩),
  (29, ⟨(.int .u64), 1, 8, .int .u64 0, false⟩),
  (31, ⟨.func, 1, 8, .nilf, false⟩),
  (32, ⟨.func, 1, 8, .nilf, false⟩),
  (34, ⟨.func, 1, 8, .nilf, false⟩),
  (35, ⟨.func, 1, 8, .nilf, false⟩),
  (36, ⟨.func, 1, 8, .nilf, false⟩),
  (37, ⟨.ptr, 1, 8, .nilp, false⟩),
  (38, ⟨.func, 1, 8, .nilf, false⟩),
  (39, ⟨.func, 1, 8, .nilf, false⟩),
  (41, ⟨.func, 1, 8, .nilf, false⟩),
  (42, ⟨(.slice 68), 1, 24, .mt true, false⟩),
  (43, ⟨.func, 1, 8, .nilf, false⟩),
  (44, ⟨.func, 1, 8, .nilf, false⟩),
  (45, ⟨.func, 1, 8, .nilf, false⟩),
  (46, ⟨.func, 1, 8, .nilf, false⟩),
  (47, ⟨(.slice 3), 1, 24, .mt true, false⟩),
  (49, ⟨.func, 1, 8, .nilf, false⟩),
  (50, ⟨.func, 1, 8, .nilf, false⟩),
  (51, ⟨.ptr, 1, 8, .nilp, false⟩),
  (52, ⟨(.struct [4, 3, 3]), 3, 24, .agg 52 [.bool false, .int .i64 0, .int .i64 0], false⟩),
  (53, ⟨(.struct [4, 3, 3]), 3, 24, .agg 53 [.bool false, .int .i64 0, .int .i64 0], true⟩),
  (54, ⟨(.map 29 3), 1, 8, .nilm, false⟩),
  (55, ⟨(.struct [23, 53, 54]), 5, 40, .agg 55 [.nilp, .agg 53 [.bool false, .int .i64 0, .int .i64 0], .nilm], false⟩),
  (56, ⟨(.struct [23, 53, 54]), 5, 40, .agg 56 [.nilp, .agg 53 [.bool false, .int .i64 0, .int .i64 0], .nilm], false⟩),
  (57, ⟨.func, 1, 8, .nilf, false⟩),
  (58, ⟨.func, 1, 8, .nilf, false⟩),
  (59, ⟨.func, 1, 8, .nilf, false⟩),
  (60, ⟨.func, 1, 8, .nilf, false⟩),
  (61, ⟨(.slice 29), 1, 24, .mt true, false⟩),
  (62, ⟨.func, 1, 8, .nilf, false⟩),
  (63, ⟨.func, 1, 8, .nilf, false⟩),
  (64, ⟨(.struct [3, 3, 3, 3, 3]), 5, 40, .agg 64 [.int .i64 0, .int .i64 0, .int .i64 0, .int .i64 0, .int .i64 0], false⟩),
  (65, ⟨(.struct [3, 3, 3, 3, 3]), 5, 40, .agg 65 [.int .i64 0, .int .i64 0, .int .i64 0, .int .i64 0, .int .i64 0], true⟩),
  (66, ⟨(.slice 65), 1, 24, .mt true, false⟩),
  (67, ⟨(.struct [9, 4, 4, 66]), 4, 48, .agg 67 [.str ByteArray.empty, .bool false, .bool false, .mt true], false⟩),
  (68, ⟨(.struct [9, 4, 4, 66]), 4, 48, .agg 68 [.str ByteArray.empty, .bool false, .bool false, .mt true], false⟩),
  (69, ⟨.func, 1, 8, .nilf, false⟩),
  (70, ⟨(.map 3 75), 1, 8, .nilm, false⟩),
  (71, ⟨.ptr, 1, 8, .nilp, false⟩),
  (72, ⟨(.struct [42, 70, 71, 3]), 4, 48, .agg 72 [.mt true, .nilm, .nilp, .int .i64 0], false⟩),
  (73, ⟨(.struct [42, 70, 71, 3]), 4, 48, .agg 73 [.mt true, .nilm, .nilp, .int .i64 0], false⟩),
  (74, ⟨(.struct [47, 3]), 2, 32, .agg 74 [.mt true, .int .i64 0], false⟩),
  (75, ⟨(.struct [47, 3]), 2, 32, .agg 75 [.mt true, .int .i64 0], false⟩),
  (76, ⟨.func, 1, 8, .nilf, false⟩),
  (77, ⟨.func, 1, 8, .nilf, false⟩),
  (79, ⟨.func, 1, 8, .nilf, false⟩),
  (80, ⟨.func, 1, 8, .nilf, false⟩),
  (81, ⟨.func, 1, 8, .nilf, false⟩),
  (82, ⟨.func, 1, 8, .nilf, false⟩),
  (84, ⟨.func, 1, 8, .nilf, false⟩),
  (86, ⟨.func, 1, 8, .nilf, false⟩),
  (87, ⟨(.struct [23, 3, 3, 3, 3]), 5, 40, .agg 87 [.nilp, .int .i64 0, .int .i64 0, .int .i64 0, .int .i64 0], false⟩),
  (88, ⟨(.struct [23, 3, 3, 3, 3]), 5, 40, .agg 88 [.nilp, .int .i64 0, .int .i64 0, .int .i64 0, .int .i64 0], false⟩),
  (90, ⟨.func, 1, 8, .nilf, false⟩),
  (91, ⟨.func, 1, 8, .nilf, false⟩),
  (92, ⟨.func, 1, 8, .nilf, false⟩),
  (93, ⟨.func, 1, 8, .nilf, false⟩),
  (94, ⟨.func, 1, 8, .nilf, false⟩),
  (95, ⟨.func, 1, 8, .nilf, false⟩),
  (96, ⟨.func, 1, 8, .nilf, false⟩),
  (97, ⟨.func, 1, 8, .nilf, false⟩),
  (98, ⟨.func, 1, 8, .nilf, false⟩),
  (100, ⟨.func, 1, 8, .nilf, false⟩),
  (101, ⟨.func, 1, 8, .nilf, false⟩),
  (102, ⟨.ptr, 1, 8, .nilp, false⟩),
  (103, ⟨(.int .u32), 1, 4, .int .u32 0, false⟩),
  (104, ⟨(.struct [3, 103, 3, 3]), 4, 32, .agg 104 [.int .i64 0, .int .u32 0, .int .i64 0, .int .i64 0], false⟩),
  (105, ⟨(.struct [3, 103, 3, 3]), 4, 32, .agg 105 [.int .i64 0, .int .u32 0, .int .i64 0, .int .i64 0], true⟩),
  (106, ⟨.ptr, 1, 8, .nilp, false⟩),
  (107, ⟨(.array 128 105), 512, 4096, .agg 107 (List.replicate 128 (.agg 105 [.int .i64 0, .int .u32 0, .int .i64 0, .int .i64 0])), false⟩),
  (108, ⟨(.struct [37, 106, 107, 3]), 515, 4120, .agg 108 [.nilp, .nilp, .agg 107 (List.replicate 128 (.agg 105 [.int .i64 0, .int .u32 0, .int .i64 0, .int .i64 0])), .int .i64 0], false⟩),
  (109, ⟨(.struct [37, 106, 107, 3]), 515, 4120, .agg 109 [.nilp, .nilp, .agg 107 (List.replicate 128 (.agg 105 [.int .i64 0, .int .u32 0, .int .i64 0, .int .i64 0])), .int .i64 0], false⟩),
  (110, ⟨.func, 1, 8, .nilf, false⟩),
  (111, ⟨.func, 1, 8, .nilf, false⟩),
  (112, ⟨(.slice 5), 1, 24, .mt true, false⟩),
  (114, ⟨.func, 1, 8, .nilf, false⟩),
  (116, ⟨(.slice 65), 1, 24, .mt true, false⟩),
  (117, ⟨.func, 1, 8, .nilf, false⟩),
  (118, ⟨.func, 1, 8, .nilf, false⟩),
  (119, ⟨.func, 1, 8, .nilf, false⟩),
  (120, ⟨.func, 1, 8, .nilf, false⟩),
  (121, ⟨(.map 3 4), 1, 8, .nilm, false⟩),
  (123, ⟨.func, 1, 8, .nilf, false⟩),
  (125, ⟨.func, 1, 8, .nilf, false⟩),
  (126, ⟨.func, 1, 8, .nilf, false⟩),
  (127, ⟨.func, 1, 8, .nilf, false⟩),
  (128, ⟨(.struct [37]), 1, 8, .agg 128 [.nilp], false⟩),
  (129, ⟨(.struct [37]), 1, 8, .agg 129 [.nilp], false⟩),
  (130, ⟨.func, 1, 8, .nilf, false⟩),
  (132, ⟨.func, 1, 8, .nilf, false⟩),
  (133, ⟨.func, 1, 8, .nilf, false⟩),
  (134, ⟨(.struct [37, 3]), 2, 16, .agg 134 [.nilp, .int .i64 0], false⟩),
  (135, ⟨(.struct [37, 3]), 2, 16, .agg 135 [.nilp, .int .i64 0], false⟩),
  (136, ⟨.func, 1, 8, .nilf, false⟩),
  (137, ⟨.func, 1, 8, .nilf, false⟩),
  (138, ⟨.func, 1, 8, .nilf, false⟩),
  (139, ⟨.func, 1, 8, .nilf, false⟩),
  (140, ⟨.func, 1, 8, .nilf, false⟩),
  (141, ⟨.func, 1, 8, .nilf, false⟩),
  (142, ⟨.func, 1, 8, .nilf, false⟩),
  (143, ⟨.func, 1, 8, .nilf, false⟩),
  (144, ⟨.func, 1, 8, .nilf, false⟩),
  (145, ⟨(.int .u64), 1, 8, .int .u64 0, false⟩),
  (146, ⟨.func, 1, 8, .nilf, false⟩),
  (147, ⟨.func, 1, 8, .nilf, false⟩),
  (148, ⟨.func, 1, 8, .nilf, false⟩),
  (149, ⟨(.array 4 3), 4, 32, .agg 149 (List.replicate 4 (.int .i64 0)), false⟩),
  (150, ⟨.func, 1, 8, .nilf, false⟩),
  (151, ⟨(.struct [112]), 1, 24, .agg 151 [.mt true], false⟩),
  (152, ⟨(.struct [112]), 1, 24, .agg 152 [.mt true], false⟩),
  (153, ⟨(.array 2 29), 2, 16, .agg 153 (List.replicate 2 (.int .u64 0)), false⟩),
  (154, ⟨(.struct [3, 153]), 3, 24, .agg 154 [.int .i64 0, .agg 153 (List.replicate 2 (.int .u64 0))], false⟩),
  (155, ⟨(.struct [3, 153]), 3, 24, .agg 155 [.int .i64 0, .agg 153 (List.replicate 2 (.int .u64 0))], false⟩),
  (156, ⟨.func, 1, 8, .nilf, false⟩),
  (157, ⟨.func, 1, 8, .nilf, false⟩),
  (158, ⟨.func, 1, 8, .nilf, false⟩),
  (159, ⟨.func, 1, 8, .nilf, false⟩),
  (160, ⟨(.int .i64), 1, 8, .int .i64 0, false⟩),
  (162, ⟨.func, 1, 8, .nilf, false⟩),
  (163, ⟨.func, 1, 8, .nilf, false⟩),
  (164, ⟨.func, 1, 8, .nilf, false⟩),
  (165, ⟨.func, 1, 8, .nilf, false⟩),
  (166, ⟨.func, 1, 8, .nilf, false⟩),
  (167, ⟨.func, 1, 8, .nilf, false⟩),
  (168, ⟨.func, 1, 8, .nilf, false⟩),
  (169, ⟨.func, 1, 8, .nilf, false⟩),
  (170, ⟨.func, 1, 8, .nilf, false⟩),
  (171, ⟨.func, 1, 8, .nilf, false⟩),
  (172, ⟨.func, 1, 8, .nilf, false⟩),
  (174, ⟨(.array 64 5), 64, 64, .agg 174 (List.replicate 64 (.int .u8 0)), false⟩),
  (175, ⟨(.int .u64), 1, 8, .int .u64 0, false⟩),
  (176, ⟨.func, 1, 8, .nilf, false⟩),
  (177, ⟨.func, 1, 8, .nilf, false⟩),
  (178, ⟨.func, 1, 8, .nilf, false⟩),
  (179, ⟨.ptr, 1, 8, .nilp, false⟩),
  (180, ⟨.func, 1, 8, .nilf, false⟩),
  (181, ⟨.func, 1, 8, .nilf, false⟩),
  (182, ⟨.ptr, 1, 8, .nilp, false⟩),
  (183, ⟨.func, 1, 8, .nilf, false⟩),
  (184, ⟨.func, 1, 8, .nilf, false⟩),
  (185, ⟨(.struct [17, 17, 17, 9]), 4, 40, .agg 185 [.nilp, .nilp, .nilp, .str ByteArray.empty], false⟩),
  (186, ⟨(.struct [17, 17, 17, 9]), 4, 40, .agg 186 [.nilp, .nilp, .nilp, .str ByteArray.empty], false⟩),
  (187, ⟨(.array 0 16), 0, 0, .agg 187 (List.replicate 0 (.nilp)), false⟩),
  (188, ⟨(.struct [187]), 0, 0, .agg 188 [.agg 187 (List.replicate 0 (.nilp))], false⟩),
  (189, ⟨(.struct [187]), 0, 0, .agg 189 [.agg 187 (List.replicate 0 (.nilp))], false⟩),
  (190, ⟨(.int .u8), 1, 1, .int .u8 0, false⟩),
  (191, ⟨(.int .u8), 1, 1, .int .u8 0, false⟩),
  (192, ⟨.func, 1, 8, .nilf, false⟩),
  (193, ⟨.ptr, 1, 8, .nilp, false⟩),
  (194, ⟨(.int .i32), 1, 4, .int .i32 0, false⟩),
  (195, ⟨(.int .i32), 1, 4, .int .i32 0, false⟩),
  (196, ⟨(.struct [12, 12, 103, 190, 5, 5, 191, 192, 193, 194, 195]), 11, 48, .agg 196 [.int .u64 0, .int .u64 0, .int .u32 0, .int .u8 0, .int .u8 0, .int .u8 0, .int .u8 0, .nilf, .nilp, .int .i32 0, .int .i32 0], false⟩),
  (197, ⟨(.struct [12, 12, 103, 190, 5, 5, 191, 192, 193, 194, 195]), 11, 48, .agg 197 [.int .u64 0, .int .u64 0, .int .u32 0, .int .u8 0, .int .u8 0, .int .u8 0, .int .u8 0, .nilf, .nilp, .int .i32 0, .int .i32 0], false⟩)]
def T : Tab := rowsTab rows
theorem tabOk : TabOk Tryd.prog T := tabOk_of (by kernel_rfl)
@[go_sem] theorem ty_1 : T.ty 1 = some .func := nr rfl
@[go_sem] theorem size_1 : T.size 1 = 1 := nr rfl
@[go_sem] theorem bytes_1 : T.bytes 1 = 8 := nr rfl
@[go_sem] theorem zero_1 : T.zero 1 = .nilf := nr rfl
@[go_sem] theorem ty_2 : T.ty 2 = some (.int .i64) := nr rfl
@[go_sem] theorem size_2 : T.size 2 = 1 := nr rfl
@[go_sem] theorem bytes_2 : T.bytes 2 = 8 := nr rfl
@[go_sem] theorem zero_2 : T.zero 2 = .int .i64 0 := nr rfl
@[go_sem] theorem ty_3 : T.ty 3 = some (.int .i64) := nr rfl
@[go_sem] theorem size_3 : T.size 3 = 1 := nr rfl
@[go_sem] theorem bytes_3 : T.bytes 3 = 8 := nr rfl
@[go_sem] theorem zero_3 : T.zero 3 = .int .i64 0 := nr rfl
@[go_sem] theorem ty_4 : T.ty 4 = some .bool := nr rfl
@[go_sem] theorem size_4 : T.size 4 = 1 := nr rfl
@[go_sem] theorem bytes_4 : T.bytes 4 = 1 := nr rfl
@[go_sem] theorem zero_4 : T.zero 4 = .bool false := nr rfl
@[go_sem] theorem ty_5 : T.ty 5 = some (.int .u8) := nr rfl
@[go_sem] theorem size_5 : T.size 5 = 1 := nr rfl
@[go_sem] theorem bytes_5 : T.bytes 5 = 1 := nr rfl
@[go_sem] theorem zero_5 : T.zero 5 = .int .u8 0 := nr rfl
@[go_sem] theorem ty_6 : T.ty 6 = some (.int .u8) := nr rfl
@[go_sem] theorem size_6 : T.size 6 = 1 := nr rfl
@[go_sem] theorem bytes_6 : T.bytes 6 = 1 := nr rfl
@[go_sem] theorem zero_6 : T.zero 6 = .int .u8 0 := nr rfl
@[go_sem] theorem ty_7 : T.ty 7 = some (.struct [2, 3, 4, 6]) := nr rfl
@[go_sem] theorem eqT_7 : T.eqT 7 = false := nr rfl
@[go_sem] theorem size_7 : T.size 7 = 4 := nr rfl
@[go_sem] theorem bytes_7 : T.bytes 7 = 24 := nr rfl
@[go_sem] theorem zero_7 : T.zero 7 = .agg 7 [.int .i64 0, .int .i64 0, .bool false, .int .u8 0] := nr rfl
@[go_sem] theorem ty_8 : T.ty 8 = some (.struct [2, 3, 4, 6]) := nr rfl
@[go_sem] theorem eqT_8 : T.eqT 8 = false := nr rfl
@[go_sem] theorem size_8 : T.size 8 = 4 := nr rfl
@[go_sem] theorem bytes_8 : T.bytes 8 = 24 := nr rfl
@[go_sem] theorem zero_8 : T.zero 8 = .agg 8 [.int .i64 0, .int .i64 0, .bool false, .int .u8 0] := nr rfl
@[go_sem] theorem ty_9 : T.ty 9 = some .str := nr rfl
@[go_sem] theorem size_9 : T.size 9 = 1 := nr rfl
@[go_sem] theorem bytes_9 : T.bytes 9 = 16 := nr rfl
@[go_sem] theorem zero_9 : T.zero 9 = .str ByteArray.empty := nr rfl
@[go_sem] theorem ty_10 : T.ty 10 = some .str := nr rfl
@[go_sem] theorem size_10 : T.size 10 = 1 := nr rfl
@[go_sem] theorem bytes_10 : T.bytes 10 = 16 := nr rfl
@[go_sem] theorem zero_10 : T.zero 10 = .str ByteArray.empty := nr rfl
@[go_sem] theorem ty_11 : T.ty 11 = some .str := nr rfl
@[go_sem] theorem size_11 : T.size 11 = 1 := nr rfl
@[go_sem] theorem bytes_11 : T.bytes 11 = 16 := nr rfl
@[go_sem] theorem zero_11 : T.zero 11 = .str ByteArray.empty := nr rfl
@[go_sem] theorem ty_12 : T.ty 12 = some (.int .u64) := nr rfl
@[go_sem] theorem size_12 : T.size 12 = 1 := nr rfl
@[go_sem] theorem bytes_12 : T.bytes 12 = 8 := nr rfl
@[go_sem] theorem zero_12 : T.zero 12 = .int .u64 0 := nr rfl
@[go_sem] theorem ty_13 : T.ty 13 = some (.struct [9, 12]) := nr rfl
@[go_sem] theorem eqT_13 : T.eqT 13 = false := nr rfl
@[go_sem] theorem size_13 : T.size 13 = 2 := nr rfl
@[go_sem] theorem bytes_13 : T.bytes 13 = 24 := nr rfl
@[go_sem] theorem zero_13 : T.zero 13 = .agg 13 [.str ByteArray.empty, .int .u64 0] := nr rfl
@[go_sem] theorem ty_14 : T.ty 14 = some (.struct [9, 12]) := nr rfl
@[go_sem] theorem eqT_14 : T.eqT 14 = false := nr rfl
@[go_sem] theorem size_14 : T.size 14 = 2 := nr rfl
@[go_sem] theorem bytes_14 : T.bytes 14 = 24 := nr rfl
@[go_sem] theorem zero_14 : T.zero 14 = .agg 14 [.str ByteArray.empty, .int .u64 0] := nr rfl
@[go_sem] theorem ty_15 : T.ty 15 = some .ptr := nr rfl
@[go_sem] theorem size_15 : T.size 15 = 1 := nr rfl
@[go_sem] theorem bytes_15 : T.bytes 15 = 8 := nr rfl
@[go_sem] theorem zero_15 : T.zero 15 = .nilp := nr rfl
@[go_sem] theorem ty_16 : T.ty 16 = some .ptr := nr rfl
@[go_sem] theorem size_16 : T.size 16 = 1 := nr rfl
@[go_sem] theorem bytes_16 : T.bytes 16 = 8 := nr rfl
@[go_sem] theorem zero_16 : T.zero 16 = .nilp := nr rfl
@[go_sem] theorem ty_17 : T.ty 17 = some .ptr := nr rfl
@[go_sem] theorem size_17 : T.size 17 = 1 := nr rfl
@[go_sem] theorem bytes_17 : T.bytes 17 = 8 := nr rfl
@[go_sem] theorem zero_17 : T.zero 17 = .nilp := nr rfl
@[go_sem] theorem ty_18 : T.ty 18 = some (.struct [17]) := nr rfl
@[go_sem] theorem eqT_18 : T.eqT 18 = false := nr rfl
@[go_sem] theorem size_18 : T.size 18 = 1 := nr rfl
@[go_sem] theorem bytes_18 : T.bytes 18 = 8 := nr rfl
@[go_sem] theorem zero_18 : T.zero 18 = .agg 18 [.nilp] := nr rfl
@[go_sem] theorem ty_19 : T.ty 19 = some (.struct [17]) := nr rfl
@[go_sem] theorem eqT_19 : T.eqT 19 = false := nr rfl
@[go_sem] theorem size_19 : T.size 19 = 1 := nr rfl
@[go_sem] theorem bytes_19 : T.bytes 19 = 8 := nr rfl
@[go_sem] theorem zero_19 : T.zero 19 = .agg 19 [.nilp] := nr rfl
@[go_sem] theorem ty_20 : T.ty 20 = some .iface := nr rfl
@[go_sem] theorem size_20 : T.size 20 = 1 := nr rfl
@[go_sem] theorem bytes_20 : T.bytes 20 = 16 := nr rfl
@[go_sem] theorem zero_20 : T.zero 20 = .nili := nr rfl
@[go_sem] theorem ty_21 : T.ty 21 = some (.int .i32) := nr rfl
@[go_sem] theorem size_21 : T.size 21 = 1 := nr rfl
@[go_sem] theorem bytes_21 : T.bytes 21 = 4 := nr rfl
@[go_sem] theorem zero_21 : T.zero 21 = .int .i32 0 := nr rfl
@[go_sem] theorem ty_22 : T.ty 22 = some .func := nr rfl
@[go_sem] theorem size_22 : T.size 22 = 1 := nr rfl
@[go_sem] theorem bytes_22 : T.bytes 22 = 8 := nr rfl
@[go_sem] theorem zero_22 : T.zero 22 = .nilf := nr rfl
@[go_sem] theorem ty_23 : T.ty 23 = some .ptr := nr rfl
@[go_sem] theorem size_23 : T.size 23 = 1 := nr rfl
@[go_sem] theorem bytes_23 : T.bytes 23 = 8 := nr rfl
@[go_sem] theorem zero_23 : T.zero 23 = .nilp := nr rfl
@[go_sem] theorem ty_24 : T.ty 24 = some (.int .i64) := nr rfl
@[go_sem] theorem size_24 : T.size 24 = 1 := nr rfl
@[go_sem] theorem bytes_24 : T.bytes 24 = 8 := nr rfl
@[go_sem] theorem zero_24 : T.zero 24 = .int .i64 0 := nr rfl
@[go_sem] theorem ty_26 : T.ty 26 = some .func := nr rfl
@[go_sem] theorem size_26 : T.size 26 = 1 := nr rfl
@[go_sem] theorem bytes_26 : T.bytes 26 = 8 := nr rfl
@[go_sem] theorem zero_26 : T.zero 26 = .nilf := nr rfl
@[go_sem] theorem ty_28 : T.ty 28 = some .func := nr rfl
@[go_sem] theorem size_28 : T.size 28 = 1 := nr rfl
@[go_sem] theorem bytes_28 : T.bytes 28 = 8 := nr rfl
@[go_sem] theorem zero_28 : T.zero 28 = .nilf := nr rfl
@[go_sem] theorem ty_29 : T.ty 29 = some (.int .u64) := nr rfl
@[go_sem] theorem size_29 : T.size 29 = 1 := nr rfl
@[go_sem] theorem bytes_29 : T.bytes 29 = 8 := nr rfl
@[go_sem] theorem zero_29 : T.zero 29 = .int .u64 0 := nr rfl
@[go_sem] theorem ty_31 : T.ty 31 = some .func := nr rfl
@[go_sem] theorem size_31 : T.size 31 = 1 := nr rfl
@[go_sem] theorem bytes_31 : T.bytes 31 = 8 := nr rfl
@[go_sem] theorem zero_31 : T.zero 31 = .nilf := nr rfl
@[go_sem] theorem ty_32 : T.ty 32 = some .func := nr rfl
@[go_sem] theorem size_32 : T.size 32 = 1 := nr rfl
@[go_sem] theorem bytes_32 : T.bytes 32 = 8 := nr rfl
@[go_sem] theorem zero_32 : T.zero 32 = .nilf := nr rfl
@[go_sem] theorem ty_34 : T.ty 34 = some .func := nr rfl
@[go_sem] theorem size_34 : T.size 34 = 1 := nr rfl
@[go_sem] theorem bytes_34 : T.bytes 34 = 8 := nr rfl
@[go_sem] theorem zero_34 : T.zero 34 = .nilf := nr rfl
@[go_sem] theorem ty_35 : T.ty 35 = some .func := nr rfl
@[go_sem] theorem size_35 : T.size 35 = 1 := nr rfl
@[go_sem] theorem bytes_35 : T.bytes 35 = 8 := nr rfl
@[go_sem] theorem zero_35 : T.zero 35 = .nilf := nr rfl
@[go_sem] theorem ty_36 : T.ty 36 = some .func := nr rfl
@[go_sem] theorem size_36 : T.size 36 = 1 := nr rfl
@[go_sem] theorem bytes_36 : T.bytes 36 = 8 := nr rfl
@[go_sem] theorem zero_36 : T.zero 36 = .nilf := nr rfl
@[go_sem] theorem ty_37 : T.ty 37 = some .ptr := nr rfl
@[go_sem] theorem size_37 : T.size 37 = 1 := nr rfl
@[go_sem] theorem bytes_37 : T.bytes 37 = 8 := nr rfl
@[go_sem] theorem zero_37 : T.zero 37 = .nilp := nr rfl
@[go_sem] theorem ty_38 : T.ty 38 = some .func := nr rfl
@[go_sem] theorem size_38 : T.size 38 = 1 := nr rfl
@[go_sem] theorem bytes_38 : T.bytes 38 = 8 := nr rfl
@[go_sem] theorem zero_38 : T.zero 38 = .nilf := nr rfl
@[go_sem] theorem ty_39 : T.ty 39 = some .func := nr rfl
@[go_sem] theorem size_39 : T.size 39 = 1 := nr rfl
@[go_sem] theorem bytes_39 : T.bytes 39 = 8 := nr rfl
@[go_sem] theorem zero_39 : T.zero 39 = .nilf := nr rfl
@[go_sem] theorem ty_41 : T.ty 41 = some .func := nr rfl
@[go_sem] theorem size_41 : T.size 41 = 1 := nr rfl
@[go_sem] theorem bytes_41 : T.bytes 41 = 8 := nr rfl
@[go_sem] theorem zero_41 : T.zero 41 = .nilf := nr rfl
@[go_sem] theorem ty_42 : T.ty 42 = some (.slice 68) := nr rfl
@[go_sem] theorem size_42 : T.size 42 = 1 := nr rfl
@[go_sem] theorem bytes_42 : T.bytes 42 = 24 := nr rfl
@[go_sem] theorem zero_42 : T.zero 42 = .mt true := nr rfl
@[go_sem] theorem ty_43 : T.ty 43 = some .func := nr rfl
@[go_sem] theorem size_43 : T.size 43 = 1 := nr rfl
@[go_sem] theorem bytes_43 : T.bytes 43 = 8 := nr rfl
@[go_sem] theorem zero_43 : T.zero 43 = .nilf := nr rfl
@[go_sem] theorem ty_44 : T.ty 44 = some .func := nr rfl
@[go_sem] theorem size_44 : T.size 44 = 1 := nr rfl
@[go_sem] theorem bytes_44 : T.bytes 44 = 8 := nr rfl
@[go_sem] theorem zero_44 : T.zero 44 = .nilf := nr rfl
@[go_sem] theorem ty_45 : T.ty 45 = some .func := nr rfl
@[go_sem] theorem size_45 : T.size 45 = 1 := nr rfl
@[go_sem] theorem bytes_45 : T.bytes 45 = 8 := nr rfl
@[go_sem] theorem zero_45 : T.zero 45 = .nilf := nr rfl
@[go_sem] theorem ty_46 : T.ty 46 = some .func := nr rfl
@[go_sem] theorem size_46 : T.size 46 = 1 := nr rfl
@[go_sem] theorem bytes_46 : T.bytes 46 = 8 := nr rfl
@[go_sem] theorem zero_46 : T.zero 46 = .nilf := nr rfl
@[go_sem] theorem ty_47 : T.ty 47 = some (.slice 3) := nr rfl
@[go_sem] theorem size_47 : T.size 47 = 1 := nr rfl
@[go_sem] theorem bytes_47 : T.bytes 47 = 24 := nr rfl
@[go_sem] theorem zero_47 : T.zero 47 = .mt true := nr rfl
@[go_sem] theorem ty_49 : T.ty 49 = some .func := nr rfl
@[go_sem] theorem size_49 : T.size 49 = 1 := nr rfl
@[go_sem] theorem bytes_49 : T.bytes 49 = 8 := nr rfl
@[go_sem] theorem zero_49 : T.zero 49 = .nilf := nr rfl
@[go_sem] theorem ty_50 : T.ty 50 = some .func := nr rfl
@[go_sem] theorem size_50 : T.size 50 = 1 := nr rfl
@[go_sem] theorem bytes_50 : T.bytes 50 = 8 := nr rfl
@[go_sem] theorem zero_50 : T.zero 50 = .nilf := nr rfl
@[go_sem] theorem ty_51 : T.ty 51 = some .ptr := nr rfl
@[go_sem] theorem size_51 : T.size 51 = 1 := nr rfl
@[go_sem] theorem bytes_51 : T.bytes 51 = 8 := nr rfl
@[go_sem] theorem zero_51 : T.zero 51 = .nilp := nr rfl
@[go_sem] theorem ty_52 : T.ty 52 = some (.struct [4, 3, 3]) := nr rfl
@[go_sem] theorem eqT_52 : T.eqT 52 = false := nr rfl
@[go_sem] theorem size_52 : T.size 52 = 3 := nr rfl
@[go_sem] theorem bytes_52 : T.bytes 52 = 24 := nr rfl
@[go_sem] theorem zero_52 : T.zero 52 = .agg 52 [.bool false, .int .i64 0, .int .i64 0] := nr rfl
@[go_sem] theorem ty_53 : T.ty 53 = some (.struct [4, 3, 3]) := nr rfl
@[go_sem] theorem eqT_53 : T.eqT 53 = true := nr rfl
@[go_sem] theorem size_53 : T.size 53 = 3 := nr rfl
@[go_sem] theorem bytes_53 : T.bytes 53 = 24 := nr rfl
@[go_sem] theorem zero_53 : T.zero 53 = .agg 53 [.bool false, .int .i64 0, .int .i64 0] := nr rfl
@[go_sem] theorem ty_54 : T.ty 54 = some (.map 29 3) := nr rfl
@[go_sem] theorem size_54 : T.size 54 = 1 := nr rfl
@[go_sem] theorem bytes_54 : T.bytes 54 = 8 := nr rfl
@[go_sem] theorem zero_54 : T.zero 54 = .nilm := nr rfl
@[go_sem] theorem ty_55 : T.ty 55 = some (.struct [23, 53, 54]) := nr rfl
@[go_sem] theorem eqT_55 : T.eqT 55 = false := nr rfl
@[go_sem] theorem size_55 : T.size 55 = 5 := nr rfl
@[go_sem] theorem bytes_55 : T.bytes 55 = 40 := nr rfl
@[go_sem] theorem zero_55 : T.zero 55 = .agg 55 [.nilp, .agg 53 [.bool false, .int .i64 0, .int .i64 0], .nilm] := nr rfl
@[go_sem] theorem ty_56 : T.ty 56 = some (.struct [23, 53, 54]) := nr rfl
@[go_sem] theorem eqT_56 : T.eqT 56 = false := nr rfl
@[go_sem] theorem size_56 : T.size 56 = 5 := nr rfl
@[go_sem] theorem bytes_56 : T.bytes 56 = 40 := nr rfl
@[go_sem] theorem zero_56 : T.zero 56 = .agg 56 [.nilp, .agg 53 [.bool false, .int .i64 0, .int .i64 0], .nilm] := nr rfl
@[go_sem] theorem ty_57 : T.ty 57 = some .func := nr rfl
@[go_sem] theorem size_57 : T.size 57 = 1 := nr rfl
@[go_sem] theorem bytes_57 : T.bytes 57 = 8 := nr rfl
@[go_sem] theorem zero_57 : T.zero 57 = .nilf := nr rfl
@[go_sem] theorem ty_58 : T.ty 58 = some .func := nr rfl
@[go_sem] theorem size_58 : T.size 58 = 1 := nr rfl
@[go_sem] theorem bytes_58 : T.bytes 58 = 8 := nr rfl
@[go_sem] theorem zero_58 : T.zero 58 = .nilf := nr rfl
@[go_sem] theorem ty_59 : T.ty 59 = some .func := nr rfl
@[go_sem] theorem size_59 : T.size 59 = 1 := nr rfl
@[go_sem] theorem bytes_59 : T.bytes 59 = 8 := nr rfl
@[go_sem] theorem zero_59 : T.zero 59 = .nilf := nr rfl
@[go_sem] theorem ty_60 : T.ty 60 = some .func := nr rfl
@[go_sem] theorem size_60 : T.size 60 = 1 := nr rfl
@[go_sem] theorem bytes_60 : T.bytes 60 = 8 := nr rfl
@[go_sem] theorem zero_60 : T.zero 60 = .nilf := nr rfl
@[go_sem] theorem ty_61 : T.ty 61 = some (.slice 29) := nr rfl
@[go_sem] theorem size_61 : T.size 61 = 1 := nr rfl
@[go_sem] theorem bytes_61 : T.bytes 61 = 24 := nr rfl
@[go_sem] theorem zero_61 : T.zero 61 = .mt true := nr rfl
@[go_sem] theorem ty_62 : T.ty 62 = some .func := nr rfl
@[go_sem] theorem size_62 : T.size 62 = 1 := nr rfl
@[go_sem] theorem bytes_62 : T.bytes 62 = 8 := nr rfl
@[go_sem] theorem zero_62 : T.zero 62 = .nilf := nr rfl
@[go_sem] theorem ty_63 : T.ty 63 = some .func := nr rfl
@[go_sem] theorem size_63 : T.size 63 = 1 := nr rfl
@[go_sem] theorem bytes_63 : T.bytes 63 = 8 := nr rfl
@[go_sem] theorem zero_63 : T.zero 63 = .nilf := nr rfl
@[go_sem] theorem ty_64 : T.ty 64 = some (.struct [3, 3, 3, 3, 3]) := nr rfl
@[go_sem] theorem eqT_64 : T.eqT 64 = false := nr rfl
@[go_sem] theorem size_64 : T.size 64 = 5 := nr rfl
@[go_sem] theorem bytes_64 : T.bytes 64 = 40 := nr rfl
@[go_sem] theorem zero_64 : T.zero 64 = .agg 64 [.int .i64 0, .int .i64 0, .int .i64 0, .int .i64 0, .int .i64 0] := nr rfl
@[go_sem] theorem ty_65 : T.ty 65 = some (.struct [3, 3, 3, 3, 3]) := nr rfl
@[go_sem] theorem eqT_65 : T.eqT 65 = true := nr rfl
@[go_sem] theorem size_65 : T.size 65 = 5 := nr rfl
@[go_sem] theorem bytes_65 : T.bytes 65 = 40 := nr rfl
@[go_sem] theorem zero_65 : T.zero 65 = .agg 65 [.int .i64 0, .int .i64 0, .int .i64 0, .int .i64 0, .int .i64 0] := nr rfl
@[go_sem] theorem ty_66 : T.ty 66 = some (.slice 65) := nr rfl
@[go_sem] theorem size_66 : T.size 66 = 1 := nr rfl
@[go_sem] theorem bytes_66 : T.bytes 66 = 24 := nr rfl
@[go_sem] theorem zero_66 : T.zero 66 = .mt true := nr rfl
@[go_sem] theorem ty_67 : T.ty 67 = some (.struct [9, 4, 4, 66]) := nr rfl
@[go_sem] theorem eqT_67 : T.eqT 67 = false := nr rfl
@[go_sem] theorem size_67 : T.size 67 = 4 := nr rfl
@[go_sem] theorem bytes_67 : T.bytes 67 = 48 := nr rfl
@[go_sem] theorem zero_67 : T.zero 67 = .agg 67 [.str ByteArray.empty, .bool false, .bool false, .mt true] := nr rfl
@[go_sem] theorem ty_68 : T.ty 68 = some (.struct [9, 4, 4, 66]) := nr rfl
@[go_sem] theorem eqT_68 : T.eqT 68 = false := nr rfl
@[go_sem] theorem size_68 : T.size 68 = 4 := nr rfl
@[go_sem] theorem bytes_68 : T.bytes 68 = 48 := nr rfl
@[go_sem] theorem zero_68 : T.zero 68 = .agg 68 [.str ByteArray.empty, .bool false, .bool false, .mt true] := nr rfl
@[go_sem] theorem ty_69 : T.ty 69 = some .func := nr rfl
@[go_sem] theorem size_69 : T.size 69 = 1 := nr rfl
@[go_sem] theorem bytes_69 : T.bytes 69 = 8 := nr rfl
@[go_sem] theorem zero_69 : T.zero 69 = .nilf := nr rfl
@[go_sem] theorem ty_70 : T.ty 70 = some (.map 3 75) := nr rfl
@[go_sem] theorem size_70 : T.size 70 = 1 := nr rfl
@[go_sem] theorem bytes_70 : T.bytes 70 = 8 := nr rfl
@[go_sem] theorem zero_70 : T.zero 70 = .nilm := nr rfl
@[go_sem] theorem ty_71 : T.ty 71 = some .ptr := nr rfl
@[go_sem] theorem size_71 : T.size 71 = 1 := nr rfl
@[go_sem] theorem bytes_71 : T.bytes 71 = 8 := nr rfl
@[go_sem] theorem zero_71 : T.zero 71 = .nilp := nr rfl
@[go_sem] theorem ty_72 : T.ty 72 = some (.struct [42, 70, 71, 3]) := nr rfl
@[go_sem] theorem eqT_72 : T.eqT 72 = false := nr rfl
@[go_sem] theorem size_72 : T.size 72 = 4 := nr rfl
@[go_sem] theorem bytes_72 : T.bytes 72 = 48 := nr rfl
@[go_sem] theorem zero_72 : T.zero 72 = .agg 72 [.mt true, .nilm, .nilp, .int .i64 0] := nr rfl
@[go_sem] theorem ty_73 : T.ty 73 = some (.struct [42, 70, 71, 3]) := nr rfl
@[go_sem] theorem eqT_73 : T.eqT 73 = false := nr rfl
@[go_sem] theorem size_73 : T.size 73 = 4 := nr rfl
@[go_sem] theorem bytes_73 : T.bytes 73 = 48 := nr rfl
@[go_sem] theorem zero_73 : T.zero 73 = .agg 73 [.mt true, .nilm, .nilp, .int .i64 0] := nr rfl
@[go_sem] theorem ty_74 : T.ty 74 = some (.struct [47, 3]) := nr rfl
@[go_sem] theorem eqT_74 : T.eqT 74 = false := nr rfl
@[go_sem] theorem size_74 : T.size 74 = 2 := nr rfl
@[go_sem] theorem bytes_74 : T.bytes 74 = 32 := nr rfl
@[go_sem] theorem zero_74 : T.zero 74 = .agg 74 [.mt true, .int .i64 0] := nr rfl
@[go_sem] theorem ty_75 : T.ty 75 = some (.struct [47, 3]) := nr rfl
@[go_sem] theorem eqT_75 : T.eqT 75 = false := nr rfl
@[go_sem] theorem size_75 : T.size 75 = 2 := nr rfl
@[go_sem] theorem bytes_75 : T.bytes 75 = 32 := nr rfl
@[go_sem] theorem zero_75 : T.zero 75 = .agg 75 [.mt true, .int .i64 0] := nr rfl
@[go_sem] theorem ty_76 : T.ty 76 = some .func := nr rfl
@[go_sem] theorem size_76 : T.size 76 = 1 := nr rfl
@[go_sem] theorem bytes_76 : T.bytes 76 = 8 := nr rfl
@[go_sem] theorem zero_76 : T.zero 76 = .nilf := nr rfl
@[go_sem] theorem ty_77 : T.ty 77 = some .func := nr rfl
@[go_sem] theorem size_77 : T.size 77 = 1 := nr rfl
@[go_sem] theorem bytes_77 : T.bytes 77 = 8 := nr rfl
@[go_sem] theorem zero_77 : T.zero 77 = .nilf := nr rfl
@[go_sem] theorem ty_79 : T.ty 79 = some .func := nr rfl
@[go_sem] theorem size_79 : T.size 79 = 1 := nr rfl
@[go_sem] theorem bytes_79 : T.bytes 79 = 8 := nr rfl
@[go_sem] theorem zero_79 : T.zero 79 = .nilf := nr rfl
@[go_sem] theorem ty_80 : T.ty 80 = some .func := nr rfl
@[go_sem] theorem size_80 : T.size 80 = 1 := nr rfl
@[go_sem] theorem bytes_80 : T.bytes 80 = 8 := nr rfl
@[go_sem] theorem zero_80 : T.zero 80 = .nilf := nr rfl
@[go_sem] theorem ty_81 : T.ty 81 = some .func := nr rfl
@[go_sem] theorem size_81 : T.size 81 = 1 := nr rfl
@[go_sem] theorem bytes_81 : T.bytes 81 = 8 := nr rfl
@[go_sem] theorem zero_81 : T.zero 81 = .nilf := nr rfl
@[go_sem] theorem ty_82 : T.ty 82 = some .func := nr rfl
@[go_sem] theorem size_82 : T.size 82 = 1 := nr rfl
@[go_sem] theorem bytes_82 : T.bytes 82 = 8 := nr rfl
@[go_sem] theorem zero_82 : T.zero 82 = .nilf := nr rfl
@[go_sem] theorem ty_84 : T.ty 84 = some .func := nr rfl
@[go_sem] theorem size_84 : T.size 84 = 1 := nr rfl
@[go_sem] theorem bytes_84 : T.bytes 84 = 8 := nr rfl
@[go_sem] theorem zero_84 : T.zero 84 = .nilf := nr rfl
@[go_sem] theorem ty_86 : T.ty 86 = some .func := nr rfl
@[go_sem] theorem size_86 : T.size 86 = 1 := nr rfl
@[go_sem] theorem bytes_86 : T.bytes 86 = 8 := nr rfl
@[go_sem] theorem zero_86 : T.zero 86 = .nilf := nr rfl
@[go_sem] theorem ty_87 : T.ty 87 = some (.struct [23, 3, 3, 3, 3]) := nr rfl
@[go_sem] theorem eqT_87 : T.eqT 87 = false := nr rfl
@[go_sem] theorem size_87 : T.size 87 = 5 := nr rfl
@[go_sem] theorem bytes_87 : T.bytes 87 = 40 := nr rfl
@[go_sem] theorem zero_87 : T.zero 87 = .agg 87 [.nilp, .int .i64 0, .int .i64 0, .int .i64 0, .int .i64 0] := nr rfl
@[go_sem] theorem ty_88 : T.ty 88 = some (.struct [23, 3, 3, 3, 3]) := nr rfl
@[go_sem] theorem eqT_88 : T.eqT 88 = false := nr rfl
@[go_sem] theorem size_88 : T.size 88 = 5 := nr rfl
@[go_sem] theorem bytes_88 : T.bytes 88 = 40 := nr rfl
@[go_sem] theorem zero_88 : T.zero 88 = .agg 88 [.nilp, .int .i64 0, .int .i64 0, .int .i64 0, .int .i64 0] := nr rfl
@[go_sem] theorem ty_90 : T.ty 90 = some .func := nr rfl
@[go_sem] theorem size_90 : T.size 90 = 1 := nr rfl
@[go_sem] theorem bytes_90 : T.bytes 90 = 8 := nr rfl
@[go_sem] theorem zero_90 : T.zero 90 = .nilf := nr rfl
@[go_sem] theorem ty_91 : T.ty 91 = some .func := nr rfl
@[go_sem] theorem size_91 : T.size 91 = 1 := nr rfl
@[go_sem] theorem bytes_91 : T.bytes 91 = 8 := nr rfl
@[go_sem] theorem zero_91 : T.zero 91 = .nilf := nr rfl
@[go_sem] theorem ty_92 : T.ty 92 = some .func := nr rfl
@[go_sem] theorem size_92 : T.size 92 = 1 := nr rfl
@[go_sem] theorem bytes_92 : T.bytes 92 = 8 := nr rfl
@[go_sem] theorem zero_92 : T.zero 92 = .nilf := nr rfl
@[go_sem] theorem ty_93 : T.ty 93 = some .func := nr rfl
@[go_sem] theorem size_93 : T.size 93 = 1 := nr rfl
@[go_sem] theorem bytes_93 : T.bytes 93 = 8 := nr rfl
@[go_sem] theorem zero_93 : T.zero 93 = .nilf := nr rfl
@[go_sem] theorem ty_94 : T.ty 94 = some .func := nr rfl
@[go_sem] theorem size_94 : T.size 94 = 1 := nr rfl
@[go_sem] theorem bytes_94 : T.bytes 94 = 8 := nr rfl
@[go_sem] theorem zero_94 : T.zero 94 = .nilf := nr rfl
@[go_sem] theorem ty_95 : T.ty 95 = some .func := nr rfl
@[go_sem] theorem size_95 : T.size 95 = 1 := nr rfl
@[go_sem] theorem bytes_95 : T.bytes 95 = 8 := nr rfl
@[go_sem] theorem zero_95 : T.zero 95 = .nilf := nr rfl
@[go_sem] theorem ty_96 : T.ty 96 = some .func := nr rfl
@[go_sem] theorem size_96 : T.size 96 = 1 := nr rfl
@[go_sem] theorem bytes_96 : T.bytes 96 = 8 := nr rfl
@[go_sem] theorem zero_96 : T.zero 96 = .nilf := nr rfl
@[go_sem] theorem ty_97 : T.ty 97 = some .func := nr rfl
@[go_sem] theorem size_97 : T.size 97 = 1 := nr rfl
@[go_sem] theorem bytes_97 : T.bytes 97 = 8 := nr rfl
@[go_sem] theorem zero_97 : T.zero 97 = .nilf := nr rfl
@[go_sem] theorem ty_98 : T.ty 98 = some .func := nr rfl
@[go_sem] theorem size_98 : T.size 98 = 1 := nr rfl
@[go_sem] theorem bytes_98 : T.bytes 98 = 8 := nr rfl
@[go_sem] theorem zero_98 : T.zero 98 = .nilf := nr rfl
@[go_sem] theorem ty_100 : T.ty 100 = some .func := nr rfl
@[go_sem] theorem size_100 : T.size 100 = 1 := nr rfl
@[go_sem] theorem bytes_100 : T.bytes 100 = 8 := nr rfl
@[go_sem] theorem zero_100 : T.zero 100 = .nilf := nr rfl
@[go_sem] theorem ty_101 : T.ty 101 = some .func := nr rfl
@[go_sem] theorem size_101 : T.size 101 = 1 := nr rfl
@[go_sem] theorem bytes_101 : T.bytes 101 = 8 := nr rfl
@[go_sem] theorem zero_101 : T.zero 101 = .nilf := nr rfl
@[go_sem] theorem ty_102 : T.ty 102 = some .ptr := nr rfl
@[go_sem] theorem size_102 : T.size 102 = 1 := nr rfl
@[go_sem] theorem bytes_102 : T.bytes 102 = 8 := nr rfl
@[go_sem] theorem zero_102 : T.zero 102 = .nilp := nr rfl
@[go_sem] theorem ty_103 : T.ty 103 = some (.int .u32) := nr rfl
@[go_sem] theorem size_103 : T.size 103 = 1 := nr rfl
@[go_sem] theorem bytes_103 : T.bytes 103 = 4 := nr rfl
@[go_sem] theorem zero_103 : T.zero 103 = .int .u32 0 := nr rfl
@[go_sem] theorem ty_104 : T.ty 104 = some (.struct [3, 103, 3, 3]) := nr rfl
@[go_sem] theorem eqT_104 : T.eqT 104 = false := nr rfl
@[go_sem] theorem size_104 : T.size 104 = 4 := nr rfl
@[go_sem] theorem bytes_104 : T.bytes 104 = 32 := nr rfl
@[go_sem] theorem zero_104 : T.zero 104 = .agg 104 [.int .i64 0, .int .u32 0, .int .i64 0, .int .i64 0] := nr rfl
@[go_sem] theorem ty_105 : T.ty 105 = some (.struct [3, 103, 3, 3]) := nr rfl
@[go_sem] theorem eqT_105 : T.eqT 105 = true := nr rfl
@[go_sem] theorem size_105 : T.size 105 = 4 := nr rfl
@[go_sem] theorem bytes_105 : T.bytes 105 = 32 := nr rfl
@[go_sem] theorem zero_105 : T.zero 105 = .agg 105 [.int .i64 0, .int .u32 0, .int .i64 0, .int .i64 0] := nr rfl
@[go_sem] theorem ty_106 : T.ty 106 = some .ptr := nr rfl
@[go_sem] theorem size_106 : T.size 106 = 1 := nr rfl
@[go_sem] theorem bytes_106 : T.bytes 106 = 8 := nr rfl
@[go_sem] theorem zero_106 : T.zero 106 = .nilp := nr rfl
@[go_sem] theorem ty_107 : T.ty 107 = some (.array 128 105) := nr rfl
@[go_sem] theorem size_107 : T.size 107 = 512 := nr rfl
@[go_sem] theorem bytes_107 : T.bytes 107 = 4096 := nr rfl
@[go_sem] theorem zero_107 : T.zero 107 = .agg 107 (List.replicate 128 (.agg 105 [.int .i64 0, .int .u32 0, .int .i64 0, .int .i64 0])) := nr rfl
@[go_sem] theorem ty_108 : T.ty 108 = some (.struct [37, 106, 107, 3]) := nr rfl
@[go_sem] theorem eqT_108 : T.eqT 108 = false := nr rfl
@[go_sem] theorem size_108 : T.size 108 = 515 := nr rfl
@[go_sem] theorem bytes_108 : T.bytes 108 = 4120 := nr rfl
@[go_sem] theorem zero_108 : T.zero 108 = .agg 108 [.nilp, .nilp, .agg 107 (List.replicate 128 (.agg 105 [.int .i64 0, .int .u32 0, .int .i64 0, .int .i64 0])), .int .i64 0] := nr rfl
@[go_sem] theorem ty_109 : T.ty 109 = some (.struct [37, 106, 107, 3]) := nr rfl
@[go_sem] theorem eqT_109 : T.eqT 109 = false := nr rfl
@[go_sem] theorem size_109 : T.size 109 = 515 := nr rfl
@[go_sem] theorem bytes_109 : T.bytes 109 = 4120 := nr rfl
@[go_sem] theorem zero_109 : T.zero 109 = .agg 109 [.nilp, .nilp, .agg 107 (List.replicate 128 (.agg 105 [.int .i64 0, .int .u32 0, .int .i64 0, .int .i64 0])), .int .i64 0] := nr rfl
@[go_sem] theorem ty_110 : T.ty 110 = some .func := nr rfl
@[go_sem] theorem size_110 : T.size 110 = 1 := nr rfl
@[go_sem] theorem bytes_110 : T.bytes 110 = 8 := nr rfl
@[go_sem] theorem zero_110 : T.zero 110 = .nilf := nr rfl
@[go_sem] theorem ty_111 : T.ty 111 = some .func := nr rfl
@[go_sem] theorem size_111 : T.size 111 = 1 := nr rfl
@[go_sem] theorem bytes_111 : T.bytes 111 = 8 := nr rfl
@[go_sem] theorem zero_111 : T.zero 111 = .nilf := nr rfl
@[go_sem] theorem ty_112 : T.ty 112 = some (.slice 5) := nr rfl
@[go_sem] theorem size_112 : T.size 112 = 1 := nr rfl
@[go_sem] theorem bytes_112 : T.bytes 112 = 24 := nr rfl
@[go_sem] theorem zero_112 : T.zero 112 = .mt true := nr rfl
@[go_sem] theorem ty_114 : T.ty 114 = some .func := nr rfl
@[go_sem] theorem size_114 : T.size 114 = 1 := nr rfl
@[go_sem] theorem bytes_114 : T.bytes 114 = 8 := nr rfl
@[go_sem] theorem zero_114 : T.zero 114 = .nilf := nr rfl
@[go_sem] theorem ty_116 : T.ty 116 = some (.slice 65) := nr rfl
@[go_sem] theorem size_116 : T.size 116 = 1 := nr rfl
@[go_sem] theorem bytes_116 : T.bytes 116 = 24 := nr rfl
@[go_sem] theorem zero_116 : T.zero 116 = .mt true := nr rfl
@[go_sem] theorem ty_117 : T.ty 117 = some .func := nr rfl
@[go_sem] theorem size_117 : T.size 117 = 1 := nr rfl
@[go_sem] theorem bytes_117 : T.bytes 117 = 8 := nr rfl
@[go_sem] theorem zero_117 : T.zero 117 = .nilf := nr rfl
@[go_sem] theorem ty_118 : T.ty 118 = some .func := nr rfl
@[go_sem] theorem size_118 : T.size 118 = 1 := nr rfl
@[go_sem] theorem bytes_118 : T.bytes 118 = 8 := nr rfl
@[go_sem] theorem zero_118 : T.zero 118 = .nilf := nr rfl
@[go_sem] theorem ty_119 : T.ty 119 = some .func := nr rfl
@[go_sem] theorem size_119 : T.size 119 = 1 := nr rfl
@[go_sem] theorem bytes_119 : T.bytes 119 = 8 := nr rfl
@[go_sem] theorem zero_119 : T.zero 119 = .nilf := nr rfl
@[go_sem] theorem ty_120 : T.ty 120 = some .func := nr rfl
@[go_sem] theorem size_120 : T.size 120 = 1 := nr rfl
@[go_sem] theorem bytes_120 : T.bytes 120 = 8 := nr rfl
@[go_sem] theorem zero_120 : T.zero 120 = .nilf := nr rfl
@[go_sem] theorem ty_121 : T.ty 121 = some (.map 3 4) := nr rfl
@[go_sem] theorem size_121 : T.size 121 = 1 := nr rfl
@[go_sem] theorem bytes_121 : T.bytes 121 = 8 := nr rfl
@[go_sem] theorem zero_121 : T.zero 121 = .nilm := nr rfl
@[go_sem] theorem ty_123 : T.ty 123 = some .func := nr rfl
@[go_sem] theorem size_123 : T.size 123 = 1 := nr rfl
@[go_sem] theorem bytes_123 : T.bytes 123 = 8 := nr rfl
@[go_sem] theorem zero_123 : T.zero 123 = .nilf := nr rfl
@[go_sem] theorem ty_125 : T.ty 125 = some .func := nr rfl
@[go_sem] theorem size_125 : T.size 125 = 1 := nr rfl
@[go_sem] theorem bytes_125 : T.bytes 125 = 8 := nr rfl
@[go_sem] theorem zero_125 : T.zero 125 = .nilf := nr rfl
@[go_sem] theorem ty_126 : T.ty 126 = some .func := nr rfl
@[go_sem] theorem size_126 : T.size 126 = 1 := nr rfl
@[go_sem] theorem bytes_126 : T.bytes 126 = 8 := nr rfl
@[go_sem] theorem zero_126 : T.zero 126 = .nilf := nr rfl
@[go_sem] theorem ty_127 : T.ty 127 = some .func := nr rfl
@[go_sem] theorem size_127 : T.size 127 = 1 := nr rfl
@[go_sem] theorem bytes_127 : T.bytes 127 = 8 := nr rfl
@[go_sem] theorem zero_127 : T.zero 127 = .nilf := nr rfl
@[go_sem] theorem ty_128 : T.ty 128 = some (.struct [37]) := nr rfl
@[go_sem] theorem eqT_128 : T.eqT 128 = false := nr rfl
@[go_sem] theorem size_128 : T.size 128 = 1 := nr rfl
@[go_sem] theorem bytes_128 : T.bytes 128 = 8 := nr rfl
@[go_sem] theorem zero_128 : T.zero 128 = .agg 128 [.nilp] := nr rfl
@[go_sem] theorem ty_129 : T.ty 129 = some (.struct [37]) := nr rfl
@[go_sem] theorem eqT_129 : T.eqT 129 = false := nr rfl
@[go_sem] theorem size_129 : T.size 129 = 1 := nr rfl
@[go_sem] theorem bytes_129 : T.bytes 129 = 8 := nr rfl
@[go_sem] theorem zero_129 : T.zero 129 = .agg 129 [.nilp] := nr rfl
@[go_sem] theorem ty_130 : T.ty 130 = some .func := nr rfl
@[go_sem] theorem size_130 : T.size 130 = 1 := nr rfl
@[go_sem] theorem bytes_130 : T.bytes 130 = 8 := nr rfl
@[go_sem] theorem zero_130 : T.zero 130 = .nilf := nr rfl
@[go_sem] theorem ty_132 : T.ty 132 = some .func := nr rfl
@[go_sem] theorem size_132 : T.size 132 = 1 := nr rfl
@[go_sem] theorem bytes_132 : T.bytes 132 = 8 := nr rfl
@[go_sem] theorem zero_132 : T.zero 132 = .nilf := nr rfl
@[go_sem] theorem ty_133 : T.ty 133 = some .func := nr rfl
@[go_sem] theorem size_133 : T.size 133 = 1 := nr rfl
@[go_sem] theorem bytes_133 : T.bytes 133 = 8 := nr rfl
@[go_sem] theorem zero_133 : T.zero 133 = .nilf := nr rfl
@[go_sem] theorem ty_134 : T.ty 134 = some (.struct [37, 3]) := nr rfl
@[go_sem] theorem eqT_134 : T.eqT 134 = false := nr rfl
@[go_sem] theorem size_134 : T.size 134 = 2 := nr rfl
@[go_sem] theorem bytes_134 : T.bytes 134 = 16 := nr rfl
@[go_sem] theorem zero_134 : T.zero 134 = .agg 134 [.nilp, .int .i64 0] := nr rfl
@[go_sem] theorem ty_135 : T.ty 135 = some (.struct [37, 3]) := nr rfl
@[go_sem] theorem eqT_135 : T.eqT 135 = false := nr rfl
@[go_sem] theorem size_135 : T.size 135 = 2 := nr rfl
@[go_sem] theorem bytes_135 : T.bytes 135 = 16 := nr rfl
@[go_sem] theorem zero_135 : T.zero 135 = .agg 135 [.nilp, .int .i64 0] := nr rfl
@[go_sem] theorem ty_136 : T.ty 136 = some .func := nr rfl
@[go_sem] theorem size_136 : T.size 136 = 1 := nr rfl
@[go_sem] theorem bytes_136 : T.bytes 136 = 8 := nr rfl
@[go_sem] theorem zero_136 : T.zero 136 = .nilf := nr rfl
@[go_sem] theorem ty_137 : T.ty 137 = some .func := nr rfl
@[go_sem] theorem size_137 : T.size 137 = 1 := nr rfl
@[go_sem] theorem bytes_137 : T.bytes 137 = 8 := nr rfl
@[go_sem] theorem zero_137 : T.zero 137 = .nilf := nr rfl
@[go_sem] theorem ty_138 : T.ty 138 = some .func := nr rfl
@[go_sem] theorem size_138 : T.size 138 = 1 := nr rfl
@[go_sem] theorem bytes_138 : T.bytes 138 = 8 := nr rfl
@[go_sem] theorem zero_138 : T.zero 138 = .nilf := nr rfl
@[go_sem] theorem ty_139 : T.ty 139 = some .func := nr rfl
@[go_sem] theorem size_139 : T.size 139 = 1 := nr rfl
@[go_sem] theorem bytes_139 : T.bytes 139 = 8 := nr rfl
@[go_sem] theorem zero_139 : T.zero 139 = .nilf := nr rfl
@[go_sem] theorem ty_140 : T.ty 140 = some .func := nr rfl
@[go_sem] theorem size_140 : T.size 140 = 1 := nr rfl
@[go_sem] theorem bytes_140 : T.bytes 140 = 8 := nr rfl
@[go_sem] theorem zero_140 : T.zero 140 = .nilf := nr rfl
@[go_sem] theorem ty_141 : T.ty 141 = some .func := nr rfl
@[go_sem] theorem size_141 : T.size 141 = 1 := nr rfl
@[go_sem] theorem bytes_141 : T.bytes 141 = 8 := nr rfl
@[go_sem] theorem zero_141 : T.zero 141 = .nilf := nr rfl
@[go_sem] theorem ty_142 : T.ty 142 = some .func := nr rfl
@[go_sem] theorem size_142 : T.size 142 = 1 := nr rfl
@[go_sem] theorem bytes_142 : T.bytes 142 = 8 := nr rfl
@[go_sem] theorem zero_142 : T.zero 142 = .nilf := nr rfl
@[go_sem] theorem ty_143 : T.ty 143 = some .func := nr rfl
@[go_sem] theorem size_143 : T.size 143 = 1 := nr rfl
@[go_sem] theorem bytes_143 : T.bytes 143 = 8 := nr rfl
@[go_sem] theorem zero_143 : T.zero 143 = .nilf := nr rfl
@[go_sem] theorem ty_144 : T.ty 144 = some .func := nr rfl
@[go_sem] theorem size_144 : T.size 144 = 1 := nr rfl
@[go_sem] theorem bytes_144 : T.bytes 144 = 8 := nr rfl
@[go_sem] theorem zero_144 : T.zero 144 = .nilf := nr rfl
@[go_sem] theorem ty_145 : T.ty 145 = some (.int .u64) := nr rfl
@[go_sem] theorem size_145 : T.size 145 = 1 := nr rfl
@[go_sem] theorem bytes_145 : T.bytes 145 = 8 := nr rfl
@[go_sem] theorem zero_145 : T.zero 145 = .int .u64 0 := nr rfl
@[go_sem] theorem ty_146 : T.ty 146 = some .func := nr rfl
@[go_sem] theorem size_146 : T.size 146 = 1 := nr rfl
@[go_sem] theorem bytes_146 : T.bytes 146 = 8 := nr rfl
@[go_sem] theorem zero_146 : T.zero 146 = .nilf := nr rfl
@[go_sem] theorem ty_147 : T.ty 147 = some .func := nr rfl
@[go_sem] theorem size_147 : T.size 147 = 1 := nr rfl
@[go_sem] theorem bytes_147 : T.bytes 147 = 8 := nr rfl
@[go_sem] theorem zero_147 : T.zero 147 = .nilf := nr rfl
@[go_sem] theorem ty_148 : T.ty 148 = some .func := nr rfl
@[go_sem] theorem size_148 : T.size 148 = 1 := nr rfl
@[go_sem] theorem bytes_148 : T.bytes 148 = 8 := nr rfl
@[go_sem] theorem zero_148 : T.zero 148 = .nilf := nr rfl
@[go_sem] theorem ty_149 : T.ty 149 = some (.array 4 3) := nr rfl
@[go_sem] theorem size_149 : T.size 149 = 4 := nr rfl
@[go_sem] theorem bytes_149 : T.bytes 149 = 32 := nr rfl
@[go_sem] theorem zero_149 : T.zero 149 = .agg 149 (List.replicate 4 (.int .i64 0)) := nr rfl
@[go_sem] theorem ty_150 : T.ty 150 = some .func := nr rfl
@[go_sem] theorem size_150 : T.size 150 = 1 := nr rfl
@[go_sem] theorem bytes_150 : T.bytes 150 = 8 := nr rfl
@[go_sem] theorem zero_150 : T.zero 150 = .nilf := nr rfl
@[go_sem] theorem ty_151 : T.ty 151 = some (.struct [112]) := nr rfl
@[go_sem] theorem eqT_151 : T.eqT 151 = false := nr rfl
@[go_sem] theorem size_151 : T.size 151 = 1 := nr rfl
@[go_sem] theorem bytes_151 : T.bytes 151 = 24 := nr rfl
@[go_sem] theorem zero_151 : T.zero 151 = .agg 151 [.mt true] := nr rfl
@[go_sem] theorem ty_152 : T.ty 152 = some (.struct [112]) := nr rfl
@[go_sem] theorem eqT_152 : T.eqT 152 = false := nr rfl
@[go_sem] theorem size_152 : T.size 152 = 1 := nr rfl
@[go_sem] theorem bytes_152 : T.bytes 152 = 24 := nr rfl
@[go_sem] theorem zero_152 : T.zero 152 = .agg 152 [.mt true] := nr rfl
@[go_sem] theorem ty_153 : T.ty 153 = some (.array 2 29) := nr rfl
@[go_sem] theorem size_153 : T.size 153 = 2 := nr rfl
@[go_sem] theorem bytes_153 : T.bytes 153 = 16 := nr rfl
@[go_sem] theorem zero_153 : T.zero 153 = .agg 153 (List.replicate 2 (.int .u64 0)) := nr rfl
@[go_sem] theorem ty_154 : T.ty 154 = some (.struct [3, 153]) := nr rfl
@[go_sem] theorem eqT_154 : T.eqT 154 = false := nr rfl
@[go_sem] theorem size_154 : T.size 154 = 3 := nr rfl
@[go_sem] theorem bytes_154 : T.bytes 154 = 24 := nr rfl
@[go_sem] theorem zero_154 : T.zero 154 = .agg 154 [.int .i64 0, .agg 153 (List.replicate 2 (.int .u64 0))] := nr rfl
@[go_sem] theorem ty_155 : T.ty 155 = some (.struct [3, 153]) := nr rfl
@[go_sem] theorem eqT_155 : T.eqT 155 = false := nr rfl
@[go_sem] theorem size_155 : T.size 155 = 3 := nr rfl
@[go_sem] theorem bytes_155 : T.bytes 155 = 24 := nr rfl
@[go_sem] theorem zero_155 : T.zero 155 = .agg 155 [.int .i64 0, .agg 153 (List.replicate 2 (.int .u64 0))] := nr rfl
@[go_sem] theorem ty_156 : T.ty 156 = some .func := nr rfl
@[go_sem] theorem size_156 : T.size 156 = 1 := nr rfl
@[go_sem] theorem bytes_156 : T.bytes 156 = 8 := nr rfl
@[go_sem] theorem zero_156 : T.zero 156 = .nilf := nr rfl
@[go_sem] theorem ty_157 : T.ty 157 = some .func := nr rfl
@[go_sem] theorem size_157 : T.size 157 = 1 := nr rfl
@[go_sem] theorem bytes_157 : T.bytes 157 = 8 := nr rfl
@[go_sem] theorem zero_157 : T.zero 157 = .nilf := nr rfl
@[go_sem] theorem ty_158 : T.ty 158 = some .func := nr rfl
@[go_sem] theorem size_158 : T.size 158 = 1 := nr rfl
@[go_sem] theorem bytes_158 : T.bytes 158 = 8 := nr rfl
@[go_sem] theorem zero_158 : T.zero 158 = .nilf := nr rfl
@[go_sem] theorem ty_159 : T.ty 159 = some .func := nr rfl
@[go_sem] theorem size_159 : T.size 159 = 1 := nr rfl
@[go_sem] theorem bytes_159 : T.bytes 159 = 8 := nr rfl
@[go_sem] theorem zero_159 : T.zero 159 = .nilf := nr rfl
@[go_sem] theorem ty_160 : T.ty 160 = some (.int .i64) := nr rfl
@[go_sem] theorem size_160 : T.size 160 = 1 := nr rfl
@[go_sem] theorem bytes_160 : T.bytes 160 = 8 := nr rfl
@[go_sem] theorem zero_160 : T.zero 160 = .int .i64 0 := nr rfl
@[go_sem] theorem ty_162 : T.ty 162 = some .func := nr rfl
@[go_sem] theorem size_162 : T.size 162 = 1 := nr rfl
@[go_sem] theorem bytes_162 : T.bytes 162 = 8 := nr rfl
@[go_sem] theorem zero_162 : T.zero 162 = .nilf := nr rfl
@[go_sem] theorem ty_163 : T.ty 163 = some .func := nr rfl
@[go_sem] theorem size_163 : T.size 163 = 1 := nr rfl
@[go_sem] theorem bytes_163 : T.bytes 163 = 8 := nr rfl
@[go_sem] theorem zero_163 : T.zero 163 = .nilf := nr rfl
@[go_sem] theorem ty_164 : T.ty 164 = some .func := nr rfl
@[go_sem] theorem size_164 : T.size 164 = 1 := nr rfl
@[go_sem] theorem bytes_164 : T.bytes 164 = 8 := nr rfl
@[go_sem] theorem zero_164 : T.zero 164 = .nilf := nr rfl
@[go_sem] theorem ty_165 : T.ty 165 = some .func := nr rfl
@[go_sem] theorem size_165 : T.size 165 = 1 := nr rfl
@[go_sem] theorem bytes_165 : T.bytes 165 = 8 := nr rfl
@[go_sem] theorem zero_165 : T.zero 165 = .nilf := nr rfl
@[go_sem] theorem ty_166 : T.ty 166 = some .func := nr rfl
@[go_sem] theorem size_166 : T.size 166 = 1 := nr rfl
@[go_sem] theorem bytes_166 : T.bytes 166 = 8 := nr rfl
@[go_sem] theorem zero_166 : T.zero 166 = .nilf := nr rfl
@[go_sem] theorem ty_167 : T.ty 167 = some .func := nr rfl
@[go_sem] theorem size_167 : T.size 167 = 1 := nr rfl
@[go_sem] theorem bytes_167 : T.bytes 167 = 8 := nr rfl
@[go_sem] theorem zero_167 : T.zero 167 = .nilf := nr rfl
@[go_sem] theorem ty_168 : T.ty 168 = some .func := nr rfl
@[go_sem] theorem size_168 : T.size 168 = 1 := nr rfl
@[go_sem] theorem bytes_168 : T.bytes 168 = 8 := nr rfl
@[go_sem] theorem zero_168 : T.zero 168 = .nilf := nr rfl
@[go_sem] theorem ty_169 : T.ty 169 = some .func := nr rfl
@[go_sem] theorem size_169 : T.size 169 = 1 := nr rfl
@[go_sem] theorem bytes_169 : T.bytes 169 = 8 := nr rfl
@[go_sem] theorem zero_169 : T.zero 169 = .nilf := nr rfl
@[go_sem] theorem ty_170 : T.ty 170 = some .func := nr rfl
@[go_sem] theorem size_170 : T.size 170 = 1 := nr rfl
@[go_sem] theorem bytes_170 : T.bytes 170 = 8 := nr rfl
@[go_sem] theorem zero_170 : T.zero 170 = .nilf := nr rfl
@[go_sem] theorem ty_171 : T.ty 171 = some .func := nr rfl
@[go_sem] theorem size_171 : T.size 171 = 1 := nr rfl
@[go_sem] theorem bytes_171 : T.bytes 171 = 8 := nr rfl
@[go_sem] theorem zero_171 : T.zero 171 = .nilf := nr rfl
@[go_sem] theorem ty_172 : T.ty 172 = some .func := nr rfl
@[go_sem] theorem size_172 : T.size 172 = 1 := nr rfl
@[go_sem] theorem bytes_172 : T.bytes 172 = 8 := nr rfl
@[go_sem] theorem zero_172 : T.zero 172 = .nilf := nr rfl
@[go_sem] theorem ty_174 : T.ty 174 = some (.array 64 5) := nr rfl
@[go_sem] theorem size_174 : T.size 174 = 64 := nr rfl
@[go_sem] theorem bytes_174 : T.bytes 174 = 64 := nr rfl
@[go_sem] theorem zero_174 : T.zero 174 = .agg 174 (List.replicate 64 (.int .u8 0)) := nr rfl
@[go_sem] theorem ty_175 : T.ty 175 = some (.int .u64) := nr rfl
@[go_sem] theorem size_175 : T.size 175 = 1 := nr rfl
@[go_sem] theorem bytes_175 : T.bytes 175 = 8 := nr rfl
@[go_sem] theorem zero_175 : T.zero 175 = .int .u64 0 := nr rfl
@[go_sem] theorem ty_176 : T.ty 176 = some .func := nr rfl
@[go_sem] theorem size_176 : T.size 176 = 1 := nr rfl
@[go_sem] theorem bytes_176 : T.bytes 176 = 8 := nr rfl
@[go_sem] theorem zero_176 : T.zero 176 = .nilf := nr rfl
@[go_sem] theorem ty_177 : T.ty 177 = some .func := nr rfl
@[go_sem] theorem size_177 : T.size 177 = 1 := nr rfl
@[go_sem] theorem bytes_177 : T.bytes 177 = 8 := nr rfl
@[go_sem] theorem zero_177 : T.zero 177 = .nilf := nr rfl
@[go_sem] theorem ty_178 : T.ty 178 = some .func := nr rfl
@[go_sem] theorem size_178 : T.size 178 = 1 := nr rfl
@[go_sem] theorem bytes_178 : T.bytes 178 = 8 := nr rfl
@[go_sem] theorem zero_178 : T.zero 178 = .nilf := nr rfl
@[go_sem] theorem ty_179 : T.ty 179 = some .ptr := nr rfl
@[go_sem] theorem size_179 : T.size 179 = 1 := nr rfl
@[go_sem] theorem bytes_179 : T.bytes 179 = 8 := nr rfl
@[go_sem] theorem zero_179 : T.zero 179 = .nilp := nr rfl
@[go_sem] theorem ty_180 : T.ty 180 = some .func := nr rfl
@[go_sem] theorem size_180 : T.size 180 = 1 := nr rfl
@[go_sem] theorem bytes_180 : T.bytes 180 = 8 := nr rfl
@[go_sem] theorem zero_180 : T.zero 180 = .nilf := nr rfl
@[go_sem] theorem ty_181 : T.ty 181 = some .func := nr rfl
@[go_sem] theorem size_181 : T.size 181 = 1 := nr rfl
@[go_sem] theorem bytes_181 : T.bytes 181 = 8 := nr rfl
@[go_sem] theorem zero_181 : T.zero 181 = .nilf := nr rfl
@[go_sem] theorem ty_182 : T.ty 182 = some .ptr := nr rfl
@[go_sem] theorem size_182 : T.size 182 = 1 := nr rfl
@[go_sem] theorem bytes_182 : T.bytes 182 = 8 := nr rfl
@[go_sem] theorem zero_182 : T.zero 182 = .nilp := nr rfl
@[go_sem] theorem ty_183 : T.ty 183 = some .func := nr rfl
@[go_sem] theorem size_183 : T.size 183 = 1 := nr rfl
@[go_sem] theorem bytes_183 : T.bytes 183 = 8 := nr rfl
@[go_sem] theorem zero_183 : T.zero 183 = .nilf := nr rfl
@[go_sem] theorem ty_184 : T.ty 184 = some .func := nr rfl
@[go_sem] theorem size_184 : T.size 184 = 1 := nr rfl
@[go_sem] theorem bytes_184 : T.bytes 184 = 8 := nr rfl
@[go_sem] theorem zero_184 : T.zero 184 = .nilf := nr rfl
@[go_sem] theorem ty_185 : T.ty 185 = some (.struct [17, 17, 17, 9]) := nr rfl
@[go_sem] theorem eqT_185 : T.eqT 185 = false := nr rfl
@[go_sem] theorem size_185 : T.size 185 = 4 := nr rfl
@[go_sem] theorem bytes_185 : T.bytes 185 = 40 := nr rfl
@[go_sem] theorem zero_185 : T.zero 185 = .agg 185 [.nilp, .nilp, .nilp, .str ByteArray.empty] := nr rfl
@[go_sem] theorem ty_186 : T.ty 186 = some (.struct [17, 17, 17, 9]) := nr rfl
@[go_sem] theorem eqT_186 : T.eqT 186 = false := nr rfl
@[go_sem] theorem size_186 : T.size 186 = 4 := nr rfl
@[go_sem] theorem bytes_186 : T.bytes 186 = 40 := nr rfl
@[go_sem] theorem zero_186 : T.zero 186 = .agg 186 [.nilp, .nilp, .nilp, .str ByteArray.empty] := nr rfl
@[go_sem] theorem ty_187 : T.ty 187 = some (.array 0 16) := nr rfl
@[go_sem] theorem size_187 : T.size 187 = 0 := nr rfl
@[go_sem] theorem bytes_187 : T.bytes 187 = 0 := nr rfl
@[go_sem] theorem zero_187 : T.zero 187 = .agg 187 (List.replicate 0 (.nilp)) := nr rfl
@[go_sem] theorem ty_188 : T.ty 188 = some (.struct [187]) := nr rfl
@[go_sem] theorem eqT_188 : T.eqT 188 = false := nr rfl
@[go_sem] theorem size_188 : T.size 188 = 0 := nr rfl
@[go_sem] theorem bytes_188 : T.bytes 188 = 0 := nr rfl
@[go_sem] theorem zero_188 : T.zero 188 = .agg 188 [.agg 187 (List.replicate 0 (.nilp))] := nr rfl
@[go_sem] theorem ty_189 : T.ty 189 = some (.struct [187]) := nr rfl
@[go_sem] theorem eqT_189 : T.eqT 189 = false := nr rfl
@[go_sem] theorem size_189 : T.size 189 = 0 := nr rfl
@[go_sem] theorem bytes_189 : T.bytes 189 = 0 := nr rfl
@[go_sem] theorem zero_189 : T.zero 189 = .agg 189 [.agg 187 (List.replicate 0 (.nilp))] := nr rfl
@[go_sem] theorem ty_190 : T.ty 190 = some (.int .u8) := nr rfl
@[go_sem] theorem size_190 : T.size 190 = 1 := nr rfl
@[go_sem] theorem bytes_190 : T.bytes 190 = 1 := nr rfl
@[go_sem] theorem zero_190 : T.zero 190 = .int .u8 0 := nr rfl
@[go_sem] theorem ty_191 : T.ty 191 = some (.int .u8) := nr rfl
@[go_sem] theorem size_191 : T.size 191 = 1 := nr rfl
@[go_sem] theorem bytes_191 : T.bytes 191 = 1 := nr rfl
@[go_sem] theorem zero_191 : T.zero 191 = .int .u8 0 := nr rfl
@[go_sem] theorem ty_192 : T.ty 192 = some .func := nr rfl
@[go_sem] theorem size_192 : T.size 192 = 1 := nr rfl
@[go_sem] theorem bytes_192 : T.bytes 192 = 8 := nr rfl
@[go_sem] theorem zero_192 : T.zero 192 = .nilf := nr rfl
@[go_sem] theorem ty_193 : T.ty 193 = some .ptr := nr rfl
@[go_sem] theorem size_193 : T.size 193 = 1 := nr rfl
@[go_sem] theorem bytes_193 : T.bytes 193 = 8 := nr rfl
@[go_sem] theorem zero_193 : T.zero 193 = .nilp := nr rfl
@[go_sem] theorem ty_194 : T.ty 194 = some (.int .i32) := nr rfl
@[go_sem] theorem size_194 : T.size 194 = 1 := nr rfl
@[go_sem] theorem bytes_194 : T.bytes 194 = 4 := nr rfl
@[go_sem] theorem zero_194 : T.zero 194 = .int .i32 0 := nr rfl
@[go_sem] theorem ty_195 : T.ty 195 = some (.int .i32) := nr rfl
@[go_sem] theorem size_195 : T.size 195 = 1 := nr rfl
@[go_sem] theorem bytes_195 : T.bytes 195 = 4 := nr rfl
@[go_sem] theorem zero_195 : T.zero 195 = .int .i32 0 := nr rfl
@[go_sem] theorem ty_196 : T.ty 196 = some (.struct [12, 12, 103, 190, 5, 5, 191, 192, 193, 194, 195]) := nr rfl
@[go_sem] theorem eqT_196 : T.eqT 196 = false := nr rfl
@[go_sem] theorem size_196 : T.size 196 = 11 := nr rfl
@[go_sem] theorem bytes_196 : T.bytes 196 = 48 := nr rfl
@[go_sem] theorem zero_196 : T.zero 196 = .agg 196 [.int .u64 0, .int .u64 0, .int .u32 0, .int .u8 0, .int .u8 0, .int .u8 0, .int .u8 0, .nilf, .nilp, .int .i32 0, .int .i32 0] := nr rfl
@[go_sem] theorem ty_197 : T.ty 197 = some (.struct [12, 12, 103, 190, 5, 5, 191, 192, 193, 194, 195]) := nr rfl
@[go_sem] theorem eqT_197 : T.eqT 197 = false := nr rfl
@[go_sem] theorem size_197 : T.size 197 = 11 := nr rfl
@[go_sem] theorem bytes_197 : T.bytes 197 = 48 := nr rfl
@[go_sem] theorem zero_197 : T.zero 197 = .agg 197 [.int .u64 0, .int .u64 0, .int .u32 0, .int .u8 0, .int .u8 0, .int .u8 0, .int .u8 0, .nilf, .nilp, .int .i32 0, .int .i32 0] := nr rfl
end Go.Proofs.YtlkmhmiicagfmaaDoor.Va
