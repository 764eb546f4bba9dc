/- the types of the translation: shapes, cells, bytes, zero values -/
import Derived.Test.YtdbpnkemlmagoaaVaK
namespace Go.Proofs.Ytdbpnkemlmagoaa.Va
open Go
set_option linter.unusedVariables false
def rows : List (Nat × TRow) := [
  (1, ⟨.func, 1, 8, .nilf, false⟩),
  (2, ⟨(.int .i64), 1, 8, .int .i64 0, false⟩),
  (3, ⟨(.int .i64), 1, 8, .int .i64 0, false⟩),
  (4, ⟨.bool, 1, 1, .bool false, false⟩),
  (5, ⟨(.int .u8), 1, 1, .int .u8 0, false⟩),
  (6, ⟨(.int .u8), 1, 1, .int .u8 0, false⟩),
  (7, ⟨(.struct [2, 3, 4, 6]), 4, 24, .agg 7 [.int .i64 0, .int .i64 0, .bool false, .int .u8 0], false⟩),
  (8, ⟨(.struct [2, 3, 4, 6]), 4, 24, .agg 8 [.int .i64 0, .int .i64 0, .bool false, .int .u8 0], false⟩),
  (9, ⟨.str, 1, 16, .str ByteArray.empty, false⟩),
  (10, ⟨.str, 1, 16, .str ByteArray.empty, false⟩),
  (11, ⟨.str, 1, 16, .str ByteArray.empty, false⟩),
  (12, ⟨(.int .u64), 1, 8, .int .u64 0, false⟩),
  (13, ⟨(.struct [9, 12]), 2, 24, .agg 13 [.str ByteArray.empty, .int .u64 0], false⟩),
  (14, ⟨(.struct [9, 12]), 2, 24, .agg 14 [.str ByteArray.empty, .int .u64 0], false⟩),
  (15, ⟨.ptr, 1, 8, .nilp, false⟩),
  (16, ⟨.ptr, 1, 8, .nilp, false⟩),
  (17, ⟨.ptr, 1, 8, .nilp, false⟩),
  (18, ⟨(.struct [17]), 1, 8, .agg 18 [.nilp], false⟩),
  (19, ⟨(.struct [17]), 1, 8, .agg 19 [.nilp], false⟩),
  (20, ⟨.iface, 1, 16, .nili, false⟩),
  (21, ⟨(.int .i32), 1, 4, .int .i32 0, false⟩),
  (22, ⟨(.slice 49), 1, 24, .mt true, false⟩),
  (23, ⟨(.slice 54), 1, 24, .mt true, false⟩),
  (24, ⟨(.int .u64), 1, 8, .int .u64 0, false⟩),
  (25, ⟨(.struct [24, 24]), 2, 16, .agg 25 [.int .u64 0, .int .u64 0], false⟩),
  (26, ⟨(.struct [24, 24]), 2, 16, .agg 26 [.int .u64 0, .int .u64 0], true⟩),
  (27, ⟨(.struct [3, 3, 3, 3, 4, 26]), 7, 56, .agg 27 [.int .i64 0, .int .i64 0, .int .i64 0, .int .i64 0, .bool false, .agg 26 [.int .u64 0, .int .u64 0]], false⟩),
  (28, ⟨(.struct [3, 3, 3, 3, 4, 26]), 7, 56, .agg 28 [.int .i64 0, .int .i64 0, .int .i64 0, .int .i64 0, .bool false, .agg 26 [.int .u64 0, .int .u64 0]], true⟩),
  (29, ⟨(.array 10 28), 70, 560, .agg 29 (List.replicate 10 (.agg 28 [.int .i64 0, .int .i64 0, .int .i64 0, .int .i64 0, .bool false, .agg 26 [.int .u64 0, .int .u64 0]])), false⟩),
  (30, ⟨(.array 8 28), 56, 448, .agg 30 (List.replicate 8 (.agg 28 [.int .i64 0, .int .i64 0, .int .i64 0, .int .i64 0, .bool false, .agg 26 [.int .u64 0, .int .u64 0]])), false⟩),
  (31, ⟨(.slice 3), 1, 24, .mt true, false⟩),
  (32, ⟨(.struct [29, 30, 31, 3, 4, 3]), 130, 1056, .agg 32 [.agg 29 (List.replicate 10 (.agg 28 [.int .i64 0, .int .i64 0, .int .i64 0, .int .i64 0, .bool false, .agg 26 [.int .u64 0, .int .u64 0]])), .agg 30 (List.replicate 8 (.agg 28 [.int .i64 0, .int .i64 0, .int .i64 0, .int .i64 0, .bool false, .agg 26 [.int .u64 0, .int .u64 0]])), .mt true, .int .i64 0, .bool false, .int .i64 0], false⟩),
  (33, ⟨(.struct [29, 30, 31, 3, 4, 3]), 130, 1056, .agg 33 [.agg 29 (List.replicate 10 (.agg 28 [.int .i64 0, .int .i64 0, .int .i64 0, .int .i64 0, .bool false, .agg 26 [.int .u64 0, .int .u64 0]])), .agg 30 (List.replicate 8 (.agg 28 [.int .i64 0, .int .i64 0, .int .i64 0, .int .i64 0, .bool false, .agg 26 [.int .u64 0, .int .u64 0]])), .mt true, .int .i64 0, .bool false, .int .i64 0], false⟩),
  (34, ⟨(.int .u32), 1, 4, .int .u32 0, false⟩),
  (35, ⟨.func, 1, 8, .nilf, false⟩),
  (36, ⟨.func, 1, 8, .nilf, false⟩),
  (37, ⟨(.int .i64), 1, 8, .int .i64 0, false⟩),
  (39, ⟨.func, 1, 8, .nilf, false⟩),
  (40, ⟨.func, 1, 8, .nilf, false⟩),
  (41, ⟨.func, 1, 8, .nilf, false⟩),
  (42, ⟨.func, 1, 8, .nilf, false⟩),
  (43, ⟨.func, 1, 8, .nilf, false⟩),
  (44, ⟨.func, 1, 8, .nilf, false⟩),
  (45, ⟨(.struct [3, 3, 3, 3, 3]), 5, 40, .agg 45 [.int .i64 0, .int .i64 0, .int .i64 0, .int .i64 0, .int .i64 0], false⟩),
  (46, ⟨(.struct [3, 3, 3, 3, 3]), 5, 40, .agg 46 [.int .i64 0, .int .i64 0, .int .i64 0, .int .i64 0, .int .i64 0], true⟩),
  (47, ⟨(.slice 46), 1, 24, .mt true, false⟩),
  (48, ⟨(.struct [9, 4, 4, 47]), 4, 48, .agg 48 [.str ByteArray.empty, .bool false, .bool false, .mt true], false⟩),
  (49, ⟨(.struct [9, 4, 4, 47]), 4, 48, .agg 49 [.str ByteArray.empty, .bool false, .bool false, .mt true], false⟩),
  (50, ⟨.func, 1, 8, .nilf, false⟩),
  (52, ⟨.func, 1, 8, .nilf, false⟩),
  (53, ⟨(.struct [4, 3, 3]), 3, 24, .agg 53 [.bool false, .int .i64 0, .int .i64 0], false⟩),
  (54, ⟨(.struct [4, 3, 3]), 3, 24, .agg 54 [.bool false, .int .i64 0, .int .i64 0], true⟩),
  (55, ⟨.ptr, 1, 8, .nilp, false⟩),
  (56, ⟨.func, 1, 8, .nilf, false⟩),
  (57, ⟨(.struct [22, 23, 33, 28, 28, 3, 28, 37]), 155, 1288, .agg 57 [.mt true, .mt true, .agg 33 [.agg 29 (List.replicate 10 (.agg 28 [.int .i64 0, .int .i64 0, .int .i64 0, .int .i64 0, .bool false, .agg 26 [.int .u64 0, .int .u64 0]])), .agg 30 (List.replicate 8 (.agg 28 [.int .i64 0, .int .i64 0, .int .i64 0, .int .i64 0, .bool false, .agg 26 [.int .u64 0, .int .u64 0]])), .mt true, .int .i64 0, .bool false, .int .i64 0], .agg 28 [.int .i64 0, .int .i64 0, .int .i64 0, .int .i64 0, .bool false, .agg 26 [.int .u64 0, .int .u64 0]], .agg 28 [.int .i64 0, .int .i64 0, .int .i64 0, .int .i64 0, .bool false, .agg 26 [.int .u64 0, .int .u64 0]], .int .i64 0, .agg 28 [.int .i64 0, .int .i64 0, .int .i64 0, .int .i64 0, .bool false, .agg 26 [.int .u64 0, .int .u64 0]], .int .i64 0], false⟩),
  (58, ⟨(.struct [22, 23, 33, 28, 28, 3, 28, 37]), 155, 1288, .agg 58 [.mt true, .mt true, .agg 33 [.agg 29 (List.replicate 10 (.agg 28 [.int .i64 0, .int .i64 0, .int .i64 0, .int .i64 0, .bool false, .agg 26 [.int .u64 0, .int .u64 0]])), .agg 30 (List.replicate 8 (.agg 28 [.int .i64 0, .int .i64 0, .int .i64 0, .int .i64 0, .bool false, .agg 26 [.int .u64 0, .int .u64 0]])), .mt true, .int .i64 0, .bool false, .int .i64 0], .agg 28 [.int .i64 0, .int .i64 0, .int .i64 0, .int .i64 0, .bool false, .agg 26 [.int .u64 0, .int .u64 0]], .agg 28 [.int .i64 0, .int .i64 0, .int .i64 0, .int .i64 0, .bool false, .agg 26 [.int .u64 0, .int .u64 0]], .int .i64 0, .agg 28 [.int .i64 0, .int .i64 0, .int .i64 0, .int .i64 0, .bool false, .agg 26 [.int .u64 0, .int .u64 0]], .int .i64 0], false⟩),
  (59, ⟨.func, 1, 8, .nilf, false⟩),
  (60, ⟨.func, 1, 8, .nilf, false⟩),
  (61, ⟨.func, 1, 8, .nilf, false⟩),
  (62, ⟨.func, 1, 8, .nilf, false⟩),
  (63, ⟨.func, 1, 8, .nilf, false⟩),
  (64, ⟨.func, 1, 8, .nilf, false⟩),
  (65, ⟨(.map 3 4), 1, 8, .nilm, false⟩),
  (67, ⟨.func, 1, 8, .nilf, false⟩),
  (68, ⟨.func, 1, 8, .nilf, false⟩),
  (69, ⟨.func, 1, 8, .nilf, false⟩),
  (70, ⟨.func, 1, 8, .nilf, false⟩),
  (71, ⟨.func, 1, 8, .nilf, false⟩),
  (72, ⟨.func, 1, 8, .nilf, false⟩),
  (73, ⟨.func, 1, 8, .nilf, false⟩),
  (74, ⟨.func, 1, 8, .nilf, false⟩),
  (75, ⟨.func, 1, 8, .nilf, false⟩),
  (76, ⟨.func, 1, 8, .nilf, false⟩),
  (77, ⟨.func, 1, 8, .nilf, false⟩),
  (78, ⟨.func, 1, 8, .nilf, false⟩),
  (79, ⟨.func, 1, 8, .nilf, false⟩),
  (80, ⟨(.slice 5), 1, 24, .mt true, false⟩),
  (82, ⟨.func, 1, 8, .nilf, false⟩),
  (83, ⟨.func, 1, 8, .nilf, false⟩),
  (84, ⟨.func, 1, 8, .nilf, false⟩),
  (85, ⟨.func, 1, 8, .nilf, false⟩),
  (86, ⟨.func, 1, 8, .nilf, false⟩),
  (87, ⟨.func, 1, 8, .nilf, false⟩),
  (88, ⟨(.slice 28), 1, 24, .mt true, false⟩),
  (89, ⟨.func, 1, 8, .nilf, false⟩),
  (90, ⟨.func, 1, 8, .nilf, false⟩),
  (91, ⟨.func, 1, 8, .nilf, false⟩),
  (92, ⟨.func, 1, 8, .nilf, false⟩),
  (93, ⟨.func, 1, 8, .nilf, false⟩),
  (95, ⟨.func, 1, 8, .nilf, false⟩),
  (96, ⟨.func, 1, 8, .nilf, false⟩),
  (97, ⟨.func, 1, 8, .nilf, false⟩),
  (98, ⟨.func, 1, 8, .nilf, false⟩),
  (99, ⟨(.struct [17, 17, 17, 9]), 4, 40, .agg 99 [.nilp, .nilp, .nilp, .str ByteArray.empty], false⟩),
  (100, ⟨(.struct [17, 17, 17, 9]), 4, 40, .agg 100 [.nilp, .nilp, .nilp, .str ByteArray.empty], false⟩),
  (101, ⟨(.array 0 16), 0, 0, .agg 101 (List.replicate 0 (.nilp)), false⟩),
  (102, ⟨(.struct [101]), 0, 0, .agg 102 [.agg 101 (List.replicate 0 (.nilp))], false⟩),
  (103, ⟨(.struct [101]), 0, 0, .agg 103 [.agg 101 (List.replicate 0 (.nilp))], false⟩),
  (104, ⟨.func, 1, 8, .nilf, false⟩),
  (105, ⟨(.int .u8), 1, 1, .int .u8 0, false⟩),
  (106, ⟨(.int .u8), 1, 1, .int .u8 0, false⟩),
  (107, ⟨.func, 1, 8, .nilf, false⟩),
  (108, ⟨.ptr, 1, 8, .nilp, false⟩),
  (109, ⟨(.int .i32), 1, 4, .int .i32 0, false⟩),
  (110, ⟨(.int .i32), 1, 4, .int .i32 0, false⟩),
  (111, ⟨(.struct [12, 12, 34, 105, 5, 5, 106, 107, 108, 109, 110]), 11, 48, .agg 111 [.int .u64 0, .int .u64 0, .int .u32 0, .int .u8 0, .int .u8 0, .int .u8 0, .int .u8 0, .nilf, .nilp, .int .i32 0, .int .i32 0], false⟩),
  (112, ⟨(.struct [12, 12, 34, 105, 5, 5, 106, 107, 108, 109, 110]), 11, 48, .agg 112 [.int .u64 0, .int .u64 0, .int .u32 0, .int .u8 0, .int .u8 0, .int .u8 0, .int .u8 0, .nilf, .nilp, .int .i32 0, .int .i32 0], false⟩)]
def T : Tab := rowsTab rows
theorem tabOk : TabOk Try.prog T := tabOk_of (by kernel_rfl)
@[go_sem] theorem ty_1 : T.ty 1 = some .func := nr rfl
@[go_sem] theorem size_1 : T.size 1 = 1 := nr rfl
@[go_sem] theorem bytes_1 : T.bytes 1 = 8 := nr rfl
@[go_sem] theorem zero_1 : T.zero 1 = .nilf := nr rfl
@[go_sem] theorem ty_2 : T.ty 2 = some (.int .i64) := nr rfl
@[go_sem] theorem size_2 : T.size 2 = 1 := nr rfl
@[go_sem] theorem bytes_2 : T.bytes 2 = 8 := nr rfl
@[go_sem] theorem zero_2 : T.zero 2 = .int .i64 0 := nr rfl
@[go_sem] theorem ty_3 : T.ty 3 = some (.int .i64) := nr rfl
@[go_sem] theorem size_3 : T.size 3 = 1 := nr rfl
@[go_sem] theorem bytes_3 : T.bytes 3 = 8 := nr rfl
@[go_sem] theorem zero_3 : T.zero 3 = .int .i64 0 := nr rfl
@[go_sem] theorem ty_4 : T.ty 4 = some .bool := nr rfl
@[go_sem] theorem size_4 : T.size 4 = 1 := nr rfl
@[go_sem] theorem bytes_4 : T.bytes 4 = 1 := nr rfl
@[go_sem] theorem zero_4 : T.zero 4 = .bool false := nr rfl
@[go_sem] theorem ty_5 : T.ty 5 = some (.int .u8) := nr rfl
@[go_sem] theorem size_5 : T.size 5 = 1 := nr rfl
@[go_sem] theorem bytes_5 : T.bytes 5 = 1 := nr rfl
@[go_sem] theorem zero_5 : T.zero 5 = .int .u8 0 := nr rfl
@[go_sem] theorem ty_6 : T.ty 6 = some (.int .u8) := nr rfl
@[go_sem] theorem size_6 : T.size 6 = 1 := nr rfl
@[go_sem] theorem bytes_6 : T.bytes 6 = 1 := nr rfl
@[go_sem] theorem zero_6 : T.zero 6 = .int .u8 0 := nr rfl
@[go_sem] theorem ty_7 : T.ty 7 = some (.struct [2, 3, 4, 6]) := nr rfl
@[go_sem] theorem eqT_7 : T.eqT 7 = false := nr rfl
@[go_sem] theorem size_7 : T.size 7 = 4 := nr rfl
@[go_sem] theorem bytes_7 : T.bytes 7 = 24 := nr rfl
@[go_sem] theorem zero_7 : T.zero 7 = .agg 7 [.int .i64 0, .int .i64 0, .bool false, .int .u8 0] := nr rfl
@[go_sem] theorem ty_8 : T.ty 8 = some (.struct [2, 3, 4, 6]) := nr rfl
@[go_sem] theorem eqT_8 : T.eqT 8 = false := nr rfl
@[go_sem] theorem size_8 : T.size 8 = 4 := nr rfl
@[go_sem] theorem bytes_8 : T.bytes 8 = 24 := nr rfl
@[go_sem] theorem zero_8 : T.zero 8 = .agg 8 [.int .i64 0, .int .i64 0, .bool false, .int .u8 0] := nr rfl
@[go_sem] theorem ty_9 : T.ty 9 = some .str := nr rfl
@[go_sem] theorem size_9 : T.size 9 = 1 := nr rfl
@[go_sem] theorem bytes_9 : T.bytes 9 = 16 := nr rfl
@[go_sem] theorem zero_9 : T.zero 9 = .str ByteArray.empty := nr rfl
@[go_sem] theorem ty_10 : T.ty 10 = some .str := nr rfl
@[go_sem] theorem size_10 : T.size 10 = 1 := nr rfl
@[go_sem] theorem bytes_10 : T.bytes 10 = 16 := nr rfl
@[go_sem] theorem zero_10 : T.zero 10 = .str ByteArray.empty := nr rfl
@[go_sem] theorem ty_11 : T.ty 11 = some .str := nr rfl
@[go_sem] theorem size_11 : T.size 11 = 1 := nr rfl
@[go_sem] theorem bytes_11 : T.bytes 11 = 16 := nr rfl
@[go_sem] theorem zero_11 : T.zero 11 = .str ByteArray.empty := nr rfl
@[go_sem] theorem ty_12 : T.ty 12 = some (.int .u64) := nr rfl
@[go_sem] theorem size_12 : T.size 12 = 1 := nr rfl
@[go_sem] theorem bytes_12 : T.bytes 12 = 8 := nr rfl
@[go_sem] theorem zero_12 : T.zero 12 = .int .u64 0 := nr rfl
@[go_sem] theorem ty_13 : T.ty 13 = some (.struct [9, 12]) := nr rfl
@[go_sem] theorem eqT_13 : T.eqT 13 = false := nr rfl
@[go_sem] theorem size_13 : T.size 13 = 2 := nr rfl
@[go_sem] theorem bytes_13 : T.bytes 13 = 24 := nr rfl
@[go_sem] theorem zero_13 : T.zero 13 = .agg 13 [.str ByteArray.empty, .int .u64 0] := nr rfl
@[go_sem] theorem ty_14 : T.ty 14 = some (.struct [9, 12]) := nr rfl
@[go_sem] theorem eqT_14 : T.eqT 14 = false := nr rfl
@[go_sem] theorem size_14 : T.size 14 = 2 := nr rfl
@[go_sem] theorem bytes_14 : T.bytes 14 = 24 := nr rfl
@[go_sem] theorem zero_14 : T.zero 14 = .agg 14 [.str ByteArray.empty, .int .u64 0] := nr rfl
@[go_sem] theorem ty_15 : T.ty 15 = some .ptr := nr rfl
@[go_sem] theorem size_15 : T.size 15 = 1 := nr rfl
@[go_sem] theorem bytes_15 : T.bytes 15 = 8 := nr rfl
@[go_sem] theorem zero_15 : T.zero 15 = .nilp := nr rfl
@[go_sem] theorem ty_16 : T.ty 16 = some .ptr := nr rfl
@[go_sem] theorem size_16 : T.size 16 = 1 := nr rfl
@[go_sem] theorem bytes_16 : T.bytes 16 = 8 := nr rfl
@[go_sem] theorem zero_16 : T.zero 16 = .nilp := nr rfl
@[go_sem] theorem ty_17 : T.ty 17 = some .ptr := nr rfl
@[go_sem] theorem size_17 : T.size 17 = 1 := nr rfl
@[go_sem] theorem bytes_17 : T.bytes 17 = 8 := nr rfl
@[go_sem] theorem zero_17 : T.zero 17 = .nilp := nr rfl
@[go_sem] theorem ty_18 : T.ty 18 = some (.struct [17]) := nr rfl
@[go_sem] theorem eqT_18 : T.eqT 18 = false := nr rfl
@[go_sem] theorem size_18 : T.size 18 = 1 := nr rfl
@[go_sem] theorem bytes_18 : T.bytes 18 = 8 := nr rfl
@[go_sem] theorem zero_18 : T.zero 18 = .agg 18 [.nilp] := nr rfl
@[go_sem] theorem ty_19 : T.ty 19 = some (.struct [17]) := nr rfl
@[go_sem] theorem eqT_19 : T.eqT 19 = false := nr rfl
@[go_sem] theorem size_19 : T.size 19 = 1 := nr rfl
@[go_sem] theorem bytes_19 : T.bytes 19 = 8 := nr rfl
@[go_sem] theorem zero_19 : T.zero 19 = .agg 19 [.nilp] := nr rfl
@[go_sem] theorem ty_20 : T.ty 20 = some .iface := nr rfl
@[go_sem] theorem size_20 : T.size 20 = 1 := nr rfl
@[go_sem] theorem bytes_20 : T.bytes 20 = 16 := nr rfl
@[go_sem] theorem zero_20 : T.zero 20 = .nili := nr rfl
@[go_sem] theorem ty_21 : T.ty 21 = some (.int .i32) := nr rfl
@[go_sem] theorem size_21 : T.size 21 = 1 := nr rfl
@[go_sem] theorem bytes_21 : T.bytes 21 = 4 := nr rfl
@[go_sem] theorem zero_21 : T.zero 21 = .int .i32 0 := nr rfl
@[go_sem] theorem ty_22 : T.ty 22 = some (.slice 49) := nr rfl
@[go_sem] theorem size_22 : T.size 22 = 1 := nr rfl
@[go_sem] theorem bytes_22 : T.bytes 22 = 24 := nr rfl
@[go_sem] theorem zero_22 : T.zero 22 = .mt true := nr rfl
@[go_sem] theorem ty_23 : T.ty 23 = some (.slice 54) := nr rfl
@[go_sem] theorem size_23 : T.size 23 = 1 := nr rfl
@[go_sem] theorem bytes_23 : T.bytes 23 = 24 := nr rfl
@[go_sem] theorem zero_23 : T.zero 23 = .mt true := nr rfl
@[go_sem] theorem ty_24 : T.ty 24 = some (.int .u64) := nr rfl
@[go_sem] theorem size_24 : T.size 24 = 1 := nr rfl
@[go_sem] theorem bytes_24 : T.bytes 24 = 8 := nr rfl
@[go_sem] theorem zero_24 : T.zero 24 = .int .u64 0 := nr rfl
@[go_sem] theorem ty_25 : T.ty 25 = some (.struct [24, 24]) := nr rfl
@[go_sem] theorem eqT_25 : T.eqT 25 = false := nr rfl
@[go_sem] theorem size_25 : T.size 25 = 2 := nr rfl
@[go_sem] theorem bytes_25 : T.bytes 25 = 16 := nr rfl
@[go_sem] theorem zero_25 : T.zero 25 = .agg 25 [.int .u64 0, .int .u64 0] := nr rfl
@[go_sem] theorem ty_26 : T.ty 26 = some (.struct [24, 24]) := nr rfl
@[go_sem] theorem eqT_26 : T.eqT 26 = true := nr rfl
@[go_sem] theorem size_26 : T.size 26 = 2 := nr rfl
@[go_sem] theorem bytes_26 : T.bytes 26 = 16 := nr rfl
@[go_sem] theorem zero_26 : T.zero 26 = .agg 26 [.int .u64 0, .int .u64 0] := nr rfl
@[go_sem] theorem ty_27 : T.ty 27 = some (.struct [3, 3, 3, 3, 4, 26]) := nr rfl
@[go_sem] theorem eqT_27 : T.eqT 27 = false := nr rfl
@[go_sem] theorem size_27 : T.size 27 = 7 := nr rfl
@[go_sem] theorem bytes_27 : T.bytes 27 = 56 := nr rfl
@[go_sem] theorem zero_27 : T.zero 27 = .agg 27 [.int .i64 0, .int .i64 0, .int .i64 0, .int .i64 0, .bool false, .agg 26 [.int .u64 0, .int .u64 0]] := nr rfl
@[go_sem] theorem ty_28 : T.ty 28 = some (.struct [3, 3, 3, 3, 4, 26]) := nr rfl
@[go_sem] theorem eqT_28 : T.eqT 28 = true := nr rfl
@[go_sem] theorem size_28 : T.size 28 = 7 := nr rfl
@[go_sem] theorem bytes_28 : T.bytes 28 = 56 := nr rfl
@[go_sem] theorem zero_28 : T.zero 28 = .agg 28 [.int .i64 0, .int .i64 0, .int .i64 0, .int .i64 0, .bool false, .agg 26 [.int .u64 0, .int .u64 0]] := nr rfl
@[go_sem] theorem ty_29 : T.ty 29 = some (.array 10 28) := nr rfl
@[go_sem] theorem size_29 : T.size 29 = 70 := nr rfl
@[go_sem] theorem bytes_29 : T.bytes 29 = 560 := nr rfl
@[go_sem] theorem zero_29 : T.zero 29 = .agg 29 (List.replicate 10 (.agg 28 [.int .i64 0, .int .i64 0, .int .i64 0, .int .i64 0, .bool false, .agg 26 [.int .u64 0, .int .u64 0]])) := nr rfl
@[go_sem] theorem ty_30 : T.ty 30 = some (.array 8 28) := nr rfl
@[go_sem] theorem size_30 : T.size 30 = 56 := nr rfl
@[go_sem] theorem bytes_30 : T.bytes 30 = 448 := nr rfl
@[go_sem] theorem zero_30 : T.zero 30 = .agg 30 (List.replicate 8 (.agg 28 [.int .i64 0, .int .i64 0, .int .i64 0, .int .i64 0, .bool false, .agg 26 [.int .u64 0, .int .u64 0]])) := nr rfl
@[go_sem] theorem ty_31 : T.ty 31 = some (.slice 3) := nr rfl
@[go_sem] theorem size_31 : T.size 31 = 1 := nr rfl
@[go_sem] theorem bytes_31 : T.bytes 31 = 24 := nr rfl
@[go_sem] theorem zero_31 : T.zero 31 = .mt true := nr rfl
@[go_sem] theorem ty_32 : T.ty 32 = some (.struct [29, 30, 31, 3, 4, 3]) := nr rfl
@[go_sem] theorem eqT_32 : T.eqT 32 = false := nr rfl
@[go_sem] theorem size_32 : T.size 32 = 130 := nr rfl
@[go_sem] theorem bytes_32 : T.bytes 32 = 1056 := nr rfl
@[go_sem] theorem zero_32 : T.zero 32 = .agg 32 [.agg 29 (List.replicate 10 (.agg 28 [.int .i64 0, .int .i64 0, .int .i64 0, .int .i64 0, .bool false, .agg 26 [.int .u64 0, .int .u64 0]])), .agg 30 (List.replicate 8 (.agg 28 [.int .i64 0, .int .i64 0, .int .i64 0, .int .i64 0, .bool false, .agg 26 [.int .u64 0, .int .u64 0]])), .mt true, .int .i64 0, .bool false, .int .i64 0] := nr rfl
@[go_sem] theorem ty_33 : T.ty 33 = some (.struct [29, 30, 31, 3, 4, 3]) := nr rfl
@[go_sem] theorem eqT_33 : T.eqT 33 = false := nr rfl
@[go_sem] theorem size_33 : T.size 33 = 130 := nr rfl
@[go_sem] theorem bytes_33 : T.bytes 33 = 1056 := nr rfl
@[go_sem] theorem zero_33 : T.zero 33 = .agg 33 [.agg 29 (List.replicate 10 (.agg 28 [.int .i64 0, .int .i64 0, .int .i64 0, .int .i64 0, .bool false, .agg 26 [.int .u64 0, .int .u64 0]])), .agg 30 (List.replicate 8 (.agg 28 [.int .i64 0, .int .i64 0, .int .i64 0, .int .i64 0, .bool false, .agg 26 [.int .u64 0, .int .u64 0]])), .mt true, .int .i64 0, .bool false, .int .i64 0] := nr rfl
@[go_sem] theorem ty_34 : T.ty 34 = some (.int .u32) := nr rfl
@[go_sem] theorem size_34 : T.size 34 = 1 := nr rfl
@[go_sem] theorem bytes_34 : T.bytes 34 = 4 := nr rfl
@[go_sem] theorem zero_34 : T.zero 34 = .int .u32 0 := nr rfl
@[go_sem] theorem ty_35 : T.ty 35 = some .func := nr rfl
@[go_sem] theorem size_35 : T.size 35 = 1 := nr rfl
@[go_sem] theorem bytes_35 : T.bytes 35 = 8 := nr rfl
@[go_sem] theorem zero_35 : T.zero 35 = .nilf := nr rfl
@[go_sem] theorem ty_36 : T.ty 36 = some .func := nr rfl
@[go_sem] theorem size_36 : T.size 36 = 1 := nr rfl
@[go_sem] theorem bytes_36 : T.bytes 36 = 8 := nr rfl
@[go_sem] theorem zero_36 : T.zero 36 = .nilf := nr rfl
@[go_sem] theorem ty_37 : T.ty 37 = some (.int .i64) := nr rfl
@[go_sem] theorem size_37 : T.size 37 = 1 := nr rfl
@[go_sem] theorem bytes_37 : T.bytes 37 = 8 := nr rfl
@[go_sem] theorem zero_37 : T.zero 37 = .int .i64 0 := nr rfl
@[go_sem] theorem ty_39 : T.ty 39 = some .func := nr rfl
@[go_sem] theorem size_39 : T.size 39 = 1 := nr rfl
@[go_sem] theorem bytes_39 : T.bytes 39 = 8 := nr rfl
@[go_sem] theorem zero_39 : T.zero 39 = .nilf := nr rfl
@[go_sem] theorem ty_40 : T.ty 40 = some .func := nr rfl
@[go_sem] theorem size_40 : T.size 40 = 1 := nr rfl
@[go_sem] theorem bytes_40 : T.bytes 40 = 8 := nr rfl
@[go_sem] theorem zero_40 : T.zero 40 = .nilf := nr rfl
@[go_sem] theorem ty_41 : T.ty 41 = some .func := nr rfl
@[go_sem] theorem size_41 : T.size 41 = 1 := nr rfl
@[go_sem] theorem bytes_41 : T.bytes 41 = 8 := nr rfl
@[go_sem] theorem zero_41 : T.zero 41 = .nilf := nr rfl
@[go_sem] theorem ty_42 : T.ty 42 = some .func := nr rfl
@[go_sem] theorem size_42 : T.size 42 = 1 := nr rfl
@[go_sem] theorem bytes_42 : T.bytes 42 = 8 := nr rfl
@[go_sem] theorem zero_42 : T.zero 42 = .nilf := nr rfl
@[go_sem] theorem ty_43 : T.ty 43 = some .func := nr rfl
@[go_sem] theorem size_43 : T.size 43 = 1 := nr rfl
@[go_sem] theorem bytes_43 : T.bytes 43 = 8 := nr rfl
@[go_sem] theorem zero_43 : T.zero 43 = .nilf := nr rfl
@[go_sem] theorem ty_44 : T.ty 44 = some .func := nr rfl
@[go_sem] theorem size_44 : T.size 44 = 1 := nr rfl
@[go_sem] theorem bytes_44 : T.bytes 44 = 8 := nr rfl
@[go_sem] theorem zero_44 : T.zero 44 = .nilf := nr rfl
@[go_sem] theorem ty_45 : T.ty 45 = some (.struct [3, 3, 3, 3, 3]) := nr rfl
@[go_sem] theorem eqT_45 : T.eqT 45 = false := nr rfl
@[go_sem] theorem size_45 : T.size 45 = 5 := nr rfl
@[go_sem] theorem bytes_45 : T.bytes 45 = 40 := nr rfl
@[go_sem] theorem zero_45 : T.zero 45 = .agg 45 [.int .i64 0, .int .i64 0, .int .i64 0, .int .i64 0, .int .i64 0] := nr rfl
@[go_sem] theorem ty_46 : T.ty 46 = some (.struct [3, 3, 3, 3, 3]) := nr rfl
@[go_sem] theorem eqT_46 : T.eqT 46 = true := nr rfl
@[go_sem] theorem size_46 : T.size 46 = 5 := nr rfl
@[go_sem] theorem bytes_46 : T.bytes 46 = 40 := nr rfl
@[go_sem] theorem zero_46 : T.zero 46 = .agg 46 [.int .i64 0, .int .i64 0, .int .i64 0, .int .i64 0, .int .i64 0] := nr rfl
@[go_sem] theorem ty_47 : T.ty 47 = some (.slice 46) := nr rfl
@[go_sem] theorem size_47 : T.size 47 = 1 := nr rfl
@[go_sem] theorem bytes_47 : T.bytes 47 = 24 := nr rfl
@[go_sem] theorem zero_47 : T.zero 47 = .mt true := nr rfl
@[go_sem] theorem ty_48 : T.ty 48 = some (.struct [9, 4, 4, 47]) := nr rfl
@[go_sem] theorem eqT_48 : T.eqT 48 = false := nr rfl
@[go_sem] theorem size_48 : T.size 48 = 4 := nr rfl
@[go_sem] theorem bytes_48 : T.bytes 48 = 48 := nr rfl
@[go_sem] theorem zero_48 : T.zero 48 = .agg 48 [.str ByteArray.empty, .bool false, .bool false, .mt true] := nr rfl
@[go_sem] theorem ty_49 : T.ty 49 = some (.struct [9, 4, 4, 47]) := nr rfl
@[go_sem] theorem eqT_49 : T.eqT 49 = false := nr rfl
@[go_sem] theorem size_49 : T.size 49 = 4 := nr rfl
@[go_sem] theorem bytes_49 : T.bytes 49 = 48 := nr rfl
@[go_sem] theorem zero_49 : T.zero 49 = .agg 49 [.str ByteArray.empty, .bool false, .bool false, .mt true] := nr rfl
@[go_sem] theorem ty_50 : T.ty 50 = some .func := nr rfl
@[go_sem] theorem size_50 : T.size 50 = 1 := nr rfl
@[go_sem] theorem bytes_50 : T.bytes 50 = 8 := nr rfl
@[go_sem] theorem zero_50 : T.zero 50 = .nilf := nr rfl
@[go_sem] theorem ty_52 : T.ty 52 = some .func := nr rfl
@[go_sem] theorem size_52 : T.size 52 = 1 := nr rfl
@[go_sem] theorem bytes_52 : T.bytes 52 = 8 := nr rfl
@[go_sem] theorem zero_52 : T.zero 52 = .nilf := nr rfl
@[go_sem] theorem ty_53 : T.ty 53 = some (.struct [4, 3, 3]) := nr rfl
@[go_sem] theorem eqT_53 : T.eqT 53 = false := nr rfl
@[go_sem] theorem size_53 : T.size 53 = 3 := nr rfl
@[go_sem] theorem bytes_53 : T.bytes 53 = 24 := nr rfl
@[go_sem] theorem zero_53 : T.zero 53 = .agg 53 [.bool false, .int .i64 0, .int .i64 0] := nr rfl
@[go_sem] theorem ty_54 : T.ty 54 = some (.struct [4, 3, 3]) := nr rfl
@[go_sem] theorem eqT_54 : T.eqT 54 = true := nr rfl
@[go_sem] theorem size_54 : T.size 54 = 3 := nr rfl
@[go_sem] theorem bytes_54 : T.bytes 54 = 24 := nr rfl
@[go_sem] theorem zero_54 : T.zero 54 = .agg 54 [.bool false, .int .i64 0, .int .i64 0] := nr rfl
@[go_sem] theorem ty_55 : T.ty 55 = some .ptr := nr rfl
@[go_sem] theorem size_55 : T.size 55 = 1 := nr rfl
@[go_sem] theorem bytes_55 : T.bytes 55 = 8 := nr rfl
@[go_sem] theorem zero_55 : T.zero 55 = .nilp := nr rfl
@[go_sem] theorem ty_56 : T.ty 56 = some .func := nr rfl
@[go_sem] theorem size_56 : T.size 56 = 1 := nr rfl
@[go_sem] theorem bytes_56 : T.bytes 56 = 8 := nr rfl
@[go_sem] theorem zero_56 : T.zero 56 = .nilf := nr rfl
@[go_sem] theorem ty_57 : T.ty 57 = some (.struct [22, 23, 33, 28, 28, 3, 28, 37]) := nr rfl
@[go_sem] theorem eqT_57 : T.eqT 57 = false := nr rfl
@[go_sem] theorem size_57 : T.size 57 = 155 := nr rfl
@[go_sem] theorem bytes_57 : T.bytes 57 = 1288 := nr rfl
@[go_sem] theorem zero_57 : T.zero 57 = .agg 57 [.mt true, .mt true, .agg 33 [.agg 29 (List.replicate 10 (.agg 28 [.int .i64 0, .int .i64 0, .int .i64 0, .int .i64 0, .bool false, .agg 26 [.int .u64 0, .int .u64 0]])), .agg 30 (List.replicate 8 (.agg 28 [.int .i64 0, .int .i64 0, .int .i64 0, .int .i64 0, .bool false, .agg 26 [.int .u64 0, .int .u64 0]])), .mt true, .int .i64 0, .bool false, .int .i64 0], .agg 28 [.int .i64 0, .int .i64 0, .int .i64 0, .int .i64 0, .bool false, .agg 26 [.int .u64 0, .int .u64 0]], .agg 28 [.int .i64 0, .int .i64 0, .int .i64 0, .int .i64 0, .bool false, .agg 26 [.int .u64 0, .int .u64 0]], .int .i64 0, .agg 28 [.int .i64 0, .int .i64 0, .int .i64 0, .int .i64 0, .bool false, .agg 26 [.int .u64 0, .int .u64 0]], .int .i64 0] := nr rfl
@[go_sem] theorem ty_58 : T.ty 58 = some (.struct [22, 23, 33, 28, 28, 3, 28, 37]) := nr rfl
@[go_sem] theorem eqT_58 : T.eqT 58 = false := nr rfl
@[go_sem] theorem size_58 : T.size 58 = 155 := nr rfl
@[go_sem] theorem bytes_58 : T.bytes 58 = 1288 := nr rfl
@[go_sem] theorem zero_58 : T.zero 58 = .agg 58 [.mt true, .mt true, .agg 33 [.agg 29 (List.replicate 10 (.agg 28 [.int .i64 0, .int .i64 0, .int .i64 0, .int .i64 0, .bool false, .agg 26 [.int .u64 0, .int .u64 0]])), .agg 30 (List.replicate 8 (.agg 28 [.int .i64 0, .int .i64 0, .int .i64 0, .int .i64 0, .bool false, .agg 26 [.int .u64 0, .int .u64 0]])), .mt true, .int .i64 0, .bool false, .int .i64 0], .agg 28 [.int .i64 0, .int .i64 0, .int .i64 0, .int .i64 0, .bool false, .agg 26 [.int .u64 0, .int .u64 0]], .agg 28 [.int .i64 0, .int .i64 0, .int .i64 0, .int .i64 0, .bool false, .agg 26 [.int .u64 0, .int .u64 0]], .int .i64 0, .agg 28 [.int .i64 0, .int .i64 0, .int .i64 0, .int .i64 0, .bool false, .agg 26 [.int .u64 0, .int .u64 0]], .int .i64 0] := nr rfl
@[go_sem] theorem ty_59 : T.ty 59 = some .func := nr rfl
@[go_sem] theorem size_59 : T.size 59 = 1 := nr rfl
@[go_sem] theorem bytes_59 : T.bytes 59 = 8 := nr rfl
@[go_sem] theorem zero_59 : T.zero 59 = .nilf := nr rfl
@[go_sem] theorem ty_60 : T.ty 60 = some .func := nr rfl
@[go_sem] theorem size_60 : T.size 60 = 1 := nr rfl
@[go_sem] theorem bytes_60 : T.bytes 60 = 8 := nr rfl
@[go_sem] theorem zero_60 : T.zero 60 = .nilf := nr rfl
@[go_sem] theorem ty_61 : T.ty 61 = some .func := nr rfl
@[go_sem] theorem size_61 : T.size 61 = 1 := nr rfl
@[go_sem] theorem bytes_61 : T.bytes 61 = 8 := nr rfl
@[go_sem] theorem zero_61 : T.zero 61 = .nilf := nr rfl
@[go_sem] theorem ty_62 : T.ty 62 = some .func := nr rfl
@[go_sem] theorem size_62 : T.size 62 = 1 := nr rfl
@[go_sem] theorem bytes_62 : T.bytes 62 = 8 := nr rfl
@[go_sem] theorem zero_62 : T.zero 62 = .nilf := nr rfl
@[go_sem] theorem ty_63 : T.ty 63 = some .func := nr rfl
@[go_sem] theorem size_63 : T.size 63 = 1 := nr rfl
@[go_sem] theorem bytes_63 : T.bytes 63 = 8 := nr rfl
@[go_sem] theorem zero_63 : T.zero 63 = .nilf := nr rfl
@[go_sem] theorem ty_64 : T.ty 64 = some .func := nr rfl
@[go_sem] theorem size_64 : T.size 64 = 1 := nr rfl
@[go_sem] theorem bytes_64 : T.bytes 64 = 8 := nr rfl
@[go_sem] theorem zero_64 : T.zero 64 = .nilf := nr rfl
@[go_sem] theorem ty_65 : T.ty 65 = some (.map 3 4) := nr rfl
@[go_sem] theorem size_65 : T.size 65 = 1 := nr rfl
@[go_sem] theorem bytes_65 : T.bytes 65 = 8 := nr rfl
@[go_sem] theorem zero_65 : T.zero 65 = .nilm := nr rfl
@[go_sem] theorem ty_67 : T.ty 67 = some .func := nr rfl
@[go_sem] theorem size_67 : T.size 67 = 1 := nr rfl
@[go_sem] theorem bytes_67 : T.bytes 67 = 8 := nr rfl
@[go_sem] theorem zero_67 : T.zero 67 = .nilf := nr rfl
@[go_sem] theorem ty_68 : T.ty 68 = some .func := nr rfl
@[go_sem] theorem size_68 : T.size 68 = 1 := nr rfl
@[go_sem] theorem bytes_68 : T.bytes 68 = 8 := nr rfl
@[go_sem] theorem zero_68 : T.zero 68 = .nilf := nr rfl
@[go_sem] theorem ty_69 : T.ty 69 = some .func := nr rfl
@[go_sem] theorem size_69 : T.size 69 = 1 := nr rfl
@[go_sem] theorem bytes_69 : T.bytes 69 = 8 := nr rfl
@[go_sem] theorem zero_69 : T.zero 69 = .nilf := nr rfl
@[go_sem] theorem ty_70 : T.ty 70 = some .func := nr rfl
@[go_sem] theorem size_70 : T.size 70 = 1 := nr rfl
@[go_sem] theorem bytes_70 : T.bytes 70 = 8 := nr rfl
@[go_sem] theorem zero_70 : T.zero 70 = .nilf := nr rfl
@[go_sem] theorem ty_71 : T.ty 71 = some .func := nr rfl
@[go_sem] theorem size_71 : T.size 71 = 1 := nr rfl
@[go_sem] theorem bytes_71 : T.bytes 71 = 8 := nr rfl
@[go_sem] theorem zero_71 : T.zero 71 = .nilf := nr rfl
@[go_sem] theorem ty_72 : T.ty 72 = some .func := nr rfl
@[go_sem] theorem size_72 : T.size 72 = 1 := nr rfl
@[go_sem] theorem bytes_72 : T.bytes 72 = 8 := nr rfl
@[go_sem] theorem zero_72 : T.zero 72 = .nilf := nr rfl
@[go_sem] theorem ty_73 : T.ty 73 = some .func := nr rfl
@[go_sem] theorem size_73 : T.size 73 = 1 := nr rfl
@[go_sem] theorem bytes_73 : T.bytes 73 = 8 := nr rfl
@[go_sem] theorem zero_73 : T.zero 73 = .nilf := nr rfl
@[go_sem] theorem ty_74 : T.ty 74 = some .func := nr rfl
@[go_sem] theorem size_74 : T.size 74 = 1 := nr rfl
@[go_sem] theorem bytes_74 : T.bytes 74 = 8 := nr rfl
@[go_sem] theorem zero_74 : T.zero 74 = .nilf := nr rfl
@[go_sem] theorem ty_75 : T.ty 75 = some .func := nr rfl
@[go_sem] theorem size_75 : T.size 75 = 1 := nr rfl
@[go_sem] theorem bytes_75 : T.bytes 75 = 8 := nr rfl
@[go_sem] theorem zero_75 : T.zero 75 = .nilf := nr rfl
@[go_sem] theorem ty_76 : T.ty 76 = some .func := nr rfl
@[go_sem] theorem size_76 : T.size 76 = 1 := nr rfl
@[go_sem] theorem bytes_76 : T.bytes 76 = 8 := nr rfl
@[go_sem] theorem zero_76 : T.zero 76 = .nilf := nr rfl
@[go_sem] theorem ty_77 : T.ty 77 = some .func := nr rfl
@[go_sem] theorem size_77 : T.size 77 = 1 := nr rfl
@[go_sem] theorem bytes_77 : T.bytes 77 = 8 := nr rfl
@[go_sem] theorem zero_77 : T.zero 77 = .nilf := nr rfl
@[go_sem] theorem ty_78 : T.ty 78 = some .func := nr rfl
@[go_sem] theorem size_78 : T.size 78 = 1 := nr rfl
@[go_sem] theorem bytes_78 : T.bytes 78 = 8 := nr rfl
@[go_sem] theorem zero_78 : T.zero 78 = .nilf := nr rfl
@[go_sem] theorem ty_79 : T.ty 79 = some .func := nr rfl
@[go_sem] theorem size_79 : T.size 79 = 1 := nr rfl
@[go_sem] theorem bytes_79 : T.bytes 79 = 8 := nr rfl
@[go_sem] theorem zero_79 : T.zero 79 = .nilf := nr rfl
@[go_sem] theorem ty_80 : T.ty 80 = some (.slice 5) := nr rfl
@[go_sem] theorem size_80 : T.size 80 = 1 := nr rfl
@[go_sem] theorem bytes_80 : T.bytes 80 = 24 := nr rfl
@[go_sem] theorem zero_80 : T.zero 80 = .mt true := nr rfl
@[go_sem] theorem ty_82 : T.ty 82 = some .func := nr rfl
@[go_sem] theorem size_82 : T.size 82 = 1 := nr rfl
@[go_sem] theorem bytes_82 : T.bytes 82 = 8 := nr rfl
@[go_sem] theorem zero_82 : T.zero 82 = .nilf := nr rfl
@[go_sem] theorem ty_83 : T.ty 83 = some .func := nr rfl
@[go_sem] theorem size_83 : T.size 83 = 1 := nr rfl
@[go_sem] theorem bytes_83 : T.bytes 83 = 8 := nr rfl
@[go_sem] theorem zero_83 : T.zero 83 = .nilf := nr rfl
@[go_sem] theorem ty_84 : T.ty 84 = some .func := nr rfl
@[go_sem] theorem size_84 : T.size 84 = 1 := nr rfl
@[go_sem] theorem bytes_84 : T.bytes 84 = 8 := nr rfl
@[go_sem] theorem zero_84 : T.zero 84 = .nilf := nr rfl
@[go_sem] theorem ty_85 : T.ty 85 = some .func := nr rfl
@[go_sem] theorem size_85 : T.size 85 = 1 := nr rfl
@[go_sem] theorem bytes_85 : T.bytes 85 = 8 := nr rfl
@[go_sem] theorem zero_85 : T.zero 85 = .nilf := nr rfl
@[go_sem] theorem ty_86 : T.ty 86 = some .func := nr rfl
@[go_sem] theorem size_86 : T.size 86 = 1 := nr rfl
@[go_sem] theorem bytes_86 : T.bytes 86 = 8 := nr rfl
@[go_sem] theorem zero_86 : T.zero 86 = .nilf := nr rfl
@[go_sem] theorem ty_87 : T.ty 87 = some .func := nr rfl
@[go_sem] theorem size_87 : T.size 87 = 1 := nr rfl
@[go_sem] theorem bytes_87 : T.bytes 87 = 8 := nr rfl
@[go_sem] theorem zero_87 : T.zero 87 = .nilf := nr rfl
@[go_sem] theorem ty_88 : T.ty 88 = some (.slice 28) := nr rfl
@[go_sem] theorem size_88 : T.size 88 = 1 := nr rfl
@[go_sem] theorem bytes_88 : T.bytes 88 = 24 := nr rfl
@[go_sem] theorem zero_88 : T.zero 88 = .mt true := nr rfl
@[go_sem] theorem ty_89 : T.ty 89 = some .func := nr rfl
@[go_sem] theorem size_89 : T.size 89 = 1 := nr rfl
@[go_sem] theorem bytes_89 : T.bytes 89 = 8 := nr rfl
@[go_sem] theorem zero_89 : T.zero 89 = .nilf := nr rfl
@[go_sem] theorem ty_90 : T.ty 90 = some .func := nr rfl
@[go_sem] theorem size_90 : T.size 90 = 1 := nr rfl
@[go_sem] theorem bytes_90 : T.bytes 90 = 8 := nr rfl
@[go_sem] theorem zero_90 : T.zero 90 = .nilf := nr rfl
@[go_sem] theorem ty_91 : T.ty 91 = some .func := nr rfl
@[go_sem] theorem size_91 : T.size 91 = 1 := nr rfl
@[go_sem] theorem bytes_91 : T.bytes 91 = 8 := nr rfl
@[go_sem] theorem zero_91 : T.zero 91 = .nilf := nr rfl
@[go_sem] theorem ty_92 : T.ty 92 = some .func := nr rfl
@[go_sem] theorem size_92 : T.size 92 = 1 := nr rfl
@[go_sem] theorem bytes_92 : T.bytes 92 = 8 := nr rfl
@[go_sem] theorem zero_92 : T.zero 92 = .nilf := nr rfl
@[go_sem] theorem ty_93 : T.ty 93 = some .func := nr rfl
@[go_sem] theorem size_93 : T.size 93 = 1 := nr rfl
@[go_sem] theorem bytes_93 : T.bytes 93 = 8 := nr rfl
@[go_sem] theorem zero_93 : T.zero 93 = .nilf := nr rfl
@[go_sem] theorem ty_95 : T.ty 95 = some .func := nr rfl
@[go_sem] theorem size_95 : T.size 95 = 1 := nr rfl
@[go_sem] theorem bytes_95 : T.bytes 95 = 8 := nr rfl
@[go_sem] theorem zero_95 : T.zero 95 = .nilf := nr rfl
@[go_sem] theorem ty_96 : T.ty 96 = some .func := nr rfl
@[go_sem] theorem size_96 : T.size 96 = 1 := nr rfl
@[go_sem] theorem bytes_96 : T.bytes 96 = 8 := nr rfl
@[go_sem] theorem zero_96 : T.zero 96 = .nilf := nr rfl
@[go_sem] theorem ty_97 : T.ty 97 = some .func := nr rfl
@[go_sem] theorem size_97 : T.size 97 = 1 := nr rfl
@[go_sem] theorem bytes_97 : T.bytes 97 = 8 := nr rfl
@[go_sem] theorem zero_97 : T.zero 97 = .nilf := nr rfl
@[go_sem] theorem ty_98 : T.ty 98 = some .func := nr rfl
@[go_sem] theorem size_98 : T.size 98 = 1 := nr rfl
@[go_sem] theorem bytes_98 : T.bytes 98 = 8 := nr rfl
@[go_sem] theorem zero_98 : T.zero 98 = .nilf := nr rfl
@[go_sem] theorem ty_99 : T.ty 99 = some (.struct [17, 17, 17, 9]) := nr rfl
@[go_sem] theorem eqT_99 : T.eqT 99 = false := nr rfl
@[go_sem] theorem size_99 : T.size 99 = 4 := nr rfl
@[go_sem] theorem bytes_99 : T.bytes 99 = 40 := nr rfl
@[go_sem] theorem zero_99 : T.zero 99 = .agg 99 [.nilp, .nilp, .nilp, .str ByteArray.empty] := nr rfl
@[go_sem] theorem ty_100 : T.ty 100 = some (.struct [17, 17, 17, 9]) := nr rfl
@[go_sem] theorem eqT_100 : T.eqT 100 = false := nr rfl
@[go_sem] theorem size_100 : T.size 100 = 4 := nr rfl
@[go_sem] theorem bytes_100 : T.bytes 100 = 40 := nr rfl
@[go_sem] theorem zero_100 : T.zero 100 = .agg 100 [.nilp, .nilp, .nilp, .str ByteArray.empty] := nr rfl
@[go_sem] theorem ty_101 : T.ty 101 = some (.array 0 16) := nr rfl
@[go_sem] theorem size_101 : T.size 101 = 0 := nr rfl
@[go_sem] theorem bytes_101 : T.bytes 101 = 0 := nr rfl
@[go_sem] theorem zero_101 : T.zero 101 = .agg 101 (List.replicate 0 (.nilp)) := nr rfl
@[go_sem] theorem ty_102 : T.ty 102 = some (.struct [101]) := nr rfl
@[go_sem] theorem eqT_102 : T.eqT 102 = false := nr rfl
@[go_sem] theorem size_102 : T.size 102 = 0 := nr rfl
@[go_sem] theorem bytes_102 : T.bytes 102 = 0 := nr rfl
@[go_sem] theorem zero_102 : T.zero 102 = .agg 102 [.agg 101 (List.replicate 0 (.nilp))] := nr rfl
@[go_sem] theorem ty_103 : T.ty 103 = some (.struct [101]) := nr rfl
@[go_sem] theorem eqT_103 : T.eqT 103 = false := nr rfl
@[go_sem] theorem size_103 : T.size 103 = 0 := nr rfl
@[go_sem] theorem bytes_103 : T.bytes 103 = 0 := nr rfl
@[go_sem] theorem zero_103 : T.zero 103 = .agg 103 [.agg 101 (List.replicate 0 (.nilp))] := nr rfl
@[go_sem] theorem ty_104 : T.ty 104 = some .func := nr rfl
@[go_sem] theorem size_104 : T.size 104 = 1 := nr rfl
@[go_sem] theorem bytes_104 : T.bytes 104 = 8 := nr rfl
@[go_sem] theorem zero_104 : T.zero 104 = .nilf := nr rfl
@[go_sem] theorem ty_105 : T.ty 105 = some (.int .u8) := nr rfl
@[go_sem] theorem size_105 : T.size 105 = 1 := nr rfl
@[go_sem] theorem bytes_105 : T.bytes 105 = 1 := nr rfl
@[go_sem] theorem zero_105 : T.zero 105 = .int .u8 0 := nr rfl
@[go_sem] theorem ty_106 : T.ty 106 = some (.int .u8) := nr rfl
@[go_sem] theorem size_106 : T.size 106 = 1 := nr rfl
@[go_sem] theorem bytes_106 : T.bytes 106 = 1 := nr rfl
@[go_sem] theorem zero_106 : T.zero 106 = .int .u8 0 := nr rfl
@[go_sem] theorem ty_107 : T.ty 107 = some .func := nr rfl
@[go_sem] theorem size_107 : T.size 107 = 1 := nr rfl
@[go_sem] theorem bytes_107 : T.bytes 107 = 8 := nr rfl
@[go_sem] theorem zero_107 : T.zero 107 = .nilf := nr rfl
@[go_sem] theorem ty_108 : T.ty 108 = some .ptr := nr rfl
@[go_sem] theorem size_108 : T.size 108 = 1 := nr rfl
@[go_sem] theorem bytes_108 : T.bytes 108 = 8 := nr rfl
@[go_sem] theorem zero_108 : T.zero 108 = .nilp := nr rfl
@[go_sem] theorem ty_109 : T.ty 109 = some (.int .i32) := nr rfl
@[go_sem] theorem size_109 : T.size 109 = 1 := nr rfl
@[go_sem] theorem bytes_109 : T.bytes 109 = 4 := nr rfl
@[go_sem] theorem zero_109 : T.zero 109 = .int .i32 0 := nr rfl
@[go_sem] theorem ty_110 : T.ty 110 = some (.int .i32) := nr rfl
@[go_sem] theorem size_110 : T.size 110 = 1 := nr rfl
@[go_sem] theorem bytes_110 : T.bytes 110 = 4 := nr rfl
@[go_sem] theorem zero_110 : T.zero 110 = .int .i32 0 := nr rfl
@[go_sem] theorem ty_111 : T.ty 111 = some (.struct [12, 12, 34, 105, 5, 5, 106, 107, 108, 109, 110]) := nr rfl
@[go_sem] theorem eqT_111 : T.eqT 111 = false := nr rfl
@[go_sem] theorem size_111 : T.size 111 = 11 := nr rfl
@[go_sem] theorem bytes_111 : T.bytes 111 = 48 := nr rfl
@[go_sem] theorem zero_111 : T.zero 111 = .agg 111 [.int .u64 0, .int .u64 0, .int .u32 0, .int .u8 0, .int .u8 0, .int .u8 0, .int .u8 0, .nilf, .nilp, .int .i32 0, .int .i32 0] := nr rfl
@[go_sem] theorem ty_112 : T.ty 112 = some (.struct [12, 12, 34, 105, 5, 5, 106, 107, 108, 109, 110]) := nr rfl
@[go_sem] theorem eqT_112 : T.eqT 112 = false := nr rfl
@[go_sem] theorem size_112 : T.size 112 = 11 := nr rfl
@[go_sem] theorem bytes_112 : T.bytes 112 = 48 := nr rfl
@[go_sem] theorem zero_112 : T.zero 112 = .agg 112 [.int .u64 0, .int .u64 0, .int .u32 0, .int .u8 0, .int .u8 0, .int .u8 0, .int .u8 0, .nilf, .nilp, .int .i32 0, .int .i32 0] := nr rfl
end Go.Proofs.Ytdbpnkemlmagoaa.Va
