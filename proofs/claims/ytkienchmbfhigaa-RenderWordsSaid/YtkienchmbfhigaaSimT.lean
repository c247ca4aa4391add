/- The functions and types of this seat, as the interpreter has them. Written by program (tools/Gen.lean). -/
import Derived.Test.YtkienchmbfhigaaSimNil
import Derived.Test.YtkienchmbfhigaaRows
import Derived.KernelRfl
set_option linter.unusedVariables false
set_option maxRecDepth 100000
namespace Go.Proofs.Ytkienchmbfhigaa
open Go.Sim

def Ls : List (Nat × TI) := [
  (1, ⟨.func, 1, 8, [.nilF]⟩),
  (2, ⟨.int .i64, 1, 8, [.int .i64 0]⟩),
  (3, ⟨.int .i64, 1, 8, [.int .i64 0]⟩),
  (4, ⟨.bool, 1, 1, [.bool false]⟩),
  (5, ⟨.int .u8, 1, 1, [.int .u8 0]⟩),
  (6, ⟨.int .u8, 1, 1, [.int .u8 0]⟩),
  (7, ⟨.strct [(0, 2), (1, 3), (2, 4), (3, 6)], 4, 24, [.int .i64 0, .int .i64 0, .bool false, .int .u8 0]⟩),
  (8, ⟨.strct [(0, 2), (1, 3), (2, 4), (3, 6)], 4, 24, [.int .i64 0, .int .i64 0, .bool false, .int .u8 0]⟩),
  (9, ⟨.str, 1, 16, [.str ByteArray.empty]⟩),
  (10, ⟨.str, 1, 16, [.str ByteArray.empty]⟩),
  (11, ⟨.str, 1, 16, [.str ByteArray.empty]⟩),
  (12, ⟨.int .u64, 1, 8, [.int .u64 0]⟩),
  (15, ⟨.ptr 128, 1, 8, [.nilp]⟩),
  (16, ⟨.ptr 131, 1, 8, [.nilp]⟩),
  (17, ⟨.ptr 139, 1, 8, [.nilp]⟩),
  (20, ⟨.other, 1, 16, [.nilI]⟩),
  (21, ⟨.int .i32, 1, 4, [.int .i32 0]⟩),
  (22, ⟨.arr 40 5, 40, 40, repl 40 ([.int .u8 0])⟩),
  (23, ⟨.func, 1, 8, [.nilF]⟩),
  (24, ⟨.func, 1, 8, [.nilF]⟩),
  (25, ⟨.strct [(0, 3), (1, 3), (2, 3)], 3, 24, [.int .i64 0, .int .i64 0, .int .i64 0]⟩),
  (26, ⟨.strct [(0, 3), (1, 3), (2, 3)], 3, 24, [.int .i64 0, .int .i64 0, .int .i64 0]⟩),
  (27, ⟨.arr 11 4, 11, 11, [.bool false, .bool false, .bool false, .bool false, .bool false, .bool false, .bool false, .bool false, .bool false, .bool false, .bool false]⟩),
  (28, ⟨.strct [(0, 26), (3, 27), (14, 3)], 15, 48, ([.int .i64 0, .int .i64 0, .int .i64 0]) ++ ([.bool false, .bool false, .bool false, .bool false, .bool false, .bool false, .bool false, .bool false, .bool false, .bool false, .bool false]) ++ ([.int .i64 0])⟩),
  (29, ⟨.strct [(0, 26), (3, 27), (14, 3)], 15, 48, ([.int .i64 0, .int .i64 0, .int .i64 0]) ++ ([.bool false, .bool false, .bool false, .bool false, .bool false, .bool false, .bool false, .bool false, .bool false, .bool false, .bool false]) ++ ([.int .i64 0])⟩),
  (30, ⟨.arr 25 22, 1000, 1000, repl 25 (repl 40 ([.int .u8 0]))⟩),
  (31, ⟨.arr 25 4, 25, 25, repl 25 ([.bool false])⟩),
  (32, ⟨.slice 70, 1, 24, [.nsl]⟩),
  (33, ⟨.arr 6 26, 18, 144, repl 6 ([.int .i64 0, .int .i64 0, .int .i64 0])⟩),
  (34, ⟨.strct [(0, 29), (15, 30), (1015, 31), (1040, 32), (1041, 33), (1059, 4), (1060, 3)], 1061, 1264, (([.int .i64 0, .int .i64 0, .int .i64 0]) ++ ([.bool false, .bool false, .bool false, .bool false, .bool false, .bool false, .bool false, .bool false, .bool false, .bool false, .bool false]) ++ ([.int .i64 0])) ++ (repl 25 (repl 40 ([.int .u8 0]))) ++ (repl 25 ([.bool false])) ++ [.nsl] ++ (repl 6 ([.int .i64 0, .int .i64 0, .int .i64 0])) ++ ([.bool false]) ++ ([.int .i64 0])⟩),
  (35, ⟨.strct [(0, 29), (15, 30), (1015, 31), (1040, 32), (1041, 33), (1059, 4), (1060, 3)], 1061, 1264, (([.int .i64 0, .int .i64 0, .int .i64 0]) ++ ([.bool false, .bool false, .bool false, .bool false, .bool false, .bool false, .bool false, .bool false, .bool false, .bool false, .bool false]) ++ ([.int .i64 0])) ++ (repl 25 (repl 40 ([.int .u8 0]))) ++ (repl 25 ([.bool false])) ++ [.nsl] ++ (repl 6 ([.int .i64 0, .int .i64 0, .int .i64 0])) ++ ([.bool false]) ++ ([.int .i64 0])⟩),
  (36, ⟨.strct [(0, 3), (1, 3), (2, 3), (3, 4), (4, 4), (5, 4), (6, 4), (7, 4), (8, 3), (9, 3)], 10, 48, [.int .i64 0, .int .i64 0, .int .i64 0, .bool false, .bool false, .bool false, .bool false, .bool false, .int .i64 0, .int .i64 0]⟩),
  (37, ⟨.strct [(0, 3), (1, 3), (2, 3), (3, 4), (4, 4), (5, 4), (6, 4), (7, 4), (8, 3), (9, 3)], 10, 48, [.int .i64 0, .int .i64 0, .int .i64 0, .bool false, .bool false, .bool false, .bool false, .bool false, .int .i64 0, .int .i64 0]⟩),
  (38, ⟨.arr 40 37, 400, 1920, repl 40 ([.int .i64 0, .int .i64 0, .int .i64 0, .bool false, .bool false, .bool false, .bool false, .bool false, .int .i64 0, .int .i64 0])⟩),
  (39, ⟨.arr 25 38, 10000, 48000, repl 25 (repl 40 ([.int .i64 0, .int .i64 0, .int .i64 0, .bool false, .bool false, .bool false, .bool false, .bool false, .int .i64 0, .int .i64 0]))⟩),
  (40, ⟨.arr 25 38, 10000, 48000, repl 25 (repl 40 ([.int .i64 0, .int .i64 0, .int .i64 0, .bool false, .bool false, .bool false, .bool false, .bool false, .int .i64 0, .int .i64 0]))⟩),
  (41, ⟨.func, 1, 8, [.nilF]⟩),
  (42, ⟨.strct [(0, 4), (1, 4)], 2, 2, [.bool false, .bool false]⟩),
  (43, ⟨.strct [(0, 4), (1, 4)], 2, 2, [.bool false, .bool false]⟩),
  (44, ⟨.func, 1, 8, [.nilF]⟩),
  (45, ⟨.func, 1, 8, [.nilF]⟩),
  (46, ⟨.slice 5, 1, 24, [.nsl]⟩),
  (47, ⟨.func, 1, 8, [.nilF]⟩),
  (48, ⟨.func, 1, 8, [.nilF]⟩),
  (49, ⟨.slice 9, 1, 24, [.nsl]⟩),
  (50, ⟨.func, 1, 8, [.nilF]⟩),
  (51, ⟨.func, 1, 8, [.nilF]⟩),
  (52, ⟨.func, 1, 8, [.nilF]⟩),
  (53, ⟨.func, 1, 8, [.nilF]⟩),
  (54, ⟨.func, 1, 8, [.nilF]⟩),
  (55, ⟨.func, 1, 8, [.nilF]⟩),
  (56, ⟨.func, 1, 8, [.nilF]⟩),
  (57, ⟨.func, 1, 8, [.nilF]⟩),
  (58, ⟨.func, 1, 8, [.nilF]⟩),
  (59, ⟨.func, 1, 8, [.nilF]⟩),
  (60, ⟨.func, 1, 8, [.nilF]⟩),
  (61, ⟨.func, 1, 8, [.nilF]⟩),
  (62, ⟨.slice 3, 1, 24, [.nsl]⟩),
  (63, ⟨.func, 1, 8, [.nilF]⟩),
  (64, ⟨.func, 1, 8, [.nilF]⟩),
  (65, ⟨.func, 1, 8, [.nilF]⟩),
  (66, ⟨.func, 1, 8, [.nilF]⟩),
  (67, ⟨.func, 1, 8, [.nilF]⟩),
  (68, ⟨.func, 1, 8, [.nilF]⟩),
  (69, ⟨.strct [(0, 3), (1, 3), (2, 3)], 3, 24, [.int .i64 0, .int .i64 0, .int .i64 0]⟩),
  (70, ⟨.strct [(0, 3), (1, 3), (2, 3)], 3, 24, [.int .i64 0, .int .i64 0, .int .i64 0]⟩),
  (71, ⟨.func, 1, 8, [.nilF]⟩),
  (72, ⟨.func, 1, 8, [.nilF]⟩),
  (73, ⟨.slice 87, 1, 24, [.nsl]⟩),
  (74, ⟨.func, 1, 8, [.nilF]⟩),
  (75, ⟨.func, 1, 8, [.nilF]⟩),
  (77, ⟨.func, 1, 8, [.nilF]⟩),
  (78, ⟨.func, 1, 8, [.nilF]⟩),
  (79, ⟨.func, 1, 8, [.nilF]⟩),
  (81, ⟨.func, 1, 8, [.nilF]⟩),
  (82, ⟨.func, 1, 8, [.nilF]⟩),
  (83, ⟨.func, 1, 8, [.nilF]⟩),
  (85, ⟨.func, 1, 8, [.nilF]⟩),
  (86, ⟨.strct [(0, 3), (1, 3), (2, 3)], 3, 24, [.int .i64 0, .int .i64 0, .int .i64 0]⟩),
  (87, ⟨.strct [(0, 3), (1, 3), (2, 3)], 3, 24, [.int .i64 0, .int .i64 0, .int .i64 0]⟩),
  (88, ⟨.strct [(0, 3), (1, 3), (2, 4), (3, 4), (4, 4), (5, 4), (6, 4), (7, 4), (8, 4), (9, 3), (10, 5)], 11, 40, [.int .i64 0, .int .i64 0, .bool false, .bool false, .bool false, .bool false, .bool false, .bool false, .bool false, .int .i64 0, .int .u8 0]⟩),
  (89, ⟨.strct [(0, 3), (1, 3), (2, 4), (3, 4), (4, 4), (5, 4), (6, 4), (7, 4), (8, 4), (9, 3), (10, 5)], 11, 40, [.int .i64 0, .int .i64 0, .bool false, .bool false, .bool false, .bool false, .bool false, .bool false, .bool false, .int .i64 0, .int .u8 0]⟩),
  (90, ⟨.func, 1, 8, [.nilF]⟩),
  (92, ⟨.func, 1, 8, [.nilF]⟩),
  (93, ⟨.func, 1, 8, [.nilF]⟩),
  (94, ⟨.func, 1, 8, [.nilF]⟩),
  (95, ⟨.int .u64, 1, 8, [.int .u64 0]⟩),
  (96, ⟨.arr 8 3, 8, 64, [.int .i64 0, .int .i64 0, .int .i64 0, .int .i64 0, .int .i64 0, .int .i64 0, .int .i64 0, .int .i64 0]⟩),
  (97, ⟨.arr 7 96, 56, 448, repl 7 ([.int .i64 0, .int .i64 0, .int .i64 0, .int .i64 0, .int .i64 0, .int .i64 0, .int .i64 0, .int .i64 0])⟩),
  (98, ⟨.func, 1, 8, [.nilF]⟩),
  (99, ⟨.func, 1, 8, [.nilF]⟩),
  (101, ⟨.func, 1, 8, [.nilF]⟩),
  (103, ⟨.func, 1, 8, [.nilF]⟩),
  (104, ⟨.arr 96 3, 96, 768, repl 96 ([.int .i64 0])⟩),
  (105, ⟨.func, 1, 8, [.nilF]⟩),
  (106, ⟨.slice 109, 1, 24, [.nsl]⟩),
  (107, ⟨.func, 1, 8, [.nilF]⟩),
  (108, ⟨.strct [(0, 5), (1, 3)], 2, 16, [.int .u8 0, .int .i64 0]⟩),
  (109, ⟨.strct [(0, 5), (1, 3)], 2, 16, [.int .u8 0, .int .i64 0]⟩),
  (110, ⟨.func, 1, 8, [.nilF]⟩),
  (111, ⟨.func, 1, 8, [.nilF]⟩),
  (112, ⟨.func, 1, 8, [.nilF]⟩),
  (113, ⟨.int .u32, 1, 4, [.int .u32 0]⟩),
  (115, ⟨.func, 1, 8, [.nilF]⟩),
  (116, ⟨.int .u64, 1, 8, [.int .u64 0]⟩),
  (118, ⟨.func, 1, 8, [.nilF]⟩),
  (119, ⟨.func, 1, 8, [.nilF]⟩),
  (120, ⟨.func, 1, 8, [.nilF]⟩),
  (121, ⟨.arr 13 3, 13, 104, repl 13 ([.int .i64 0])⟩),
  (122, ⟨.strct [(0, 9), (1, 121)], 14, 120, ([.str ByteArray.empty]) ++ (repl 13 ([.int .i64 0]))⟩),
  (123, ⟨.strct [(0, 9), (1, 121)], 14, 120, ([.str ByteArray.empty]) ++ (repl 13 ([.int .i64 0]))⟩),
  (124, ⟨.slice 123, 1, 24, [.nsl]⟩),
  (125, ⟨.func, 1, 8, [.nilF]⟩),
  (126, ⟨.func, 1, 8, [.nilF]⟩),
  (129, ⟨.arr 0 16, 0, 0, []⟩),
  (132, ⟨.int .u8, 1, 1, [.int .u8 0]⟩),
  (133, ⟨.int .u8, 1, 1, [.int .u8 0]⟩),
  (134, ⟨.func, 1, 8, [.nilF]⟩),
  (135, ⟨.ptr 5, 1, 8, [.nilp]⟩),
  (136, ⟨.int .i32, 1, 4, [.int .i32 0]⟩),
  (137, ⟨.int .i32, 1, 4, [.int .i32 0]⟩)]
noncomputable def L (t : Nat) : Option TI := aget t Ls
@[simp] theorem L1 : L 1 = some ⟨.func, 1, 8, [.nilF]⟩ := by kernel_rfl
@[simp] theorem L2 : L 2 = some ⟨.int .i64, 1, 8, [.int .i64 0]⟩ := by kernel_rfl
@[simp] theorem L3 : L 3 = some ⟨.int .i64, 1, 8, [.int .i64 0]⟩ := by kernel_rfl
@[simp] theorem L4 : L 4 = some ⟨.bool, 1, 1, [.bool false]⟩ := by kernel_rfl
@[simp] theorem L5 : L 5 = some ⟨.int .u8, 1, 1, [.int .u8 0]⟩ := by kernel_rfl
@[simp] theorem L6 : L 6 = some ⟨.int .u8, 1, 1, [.int .u8 0]⟩ := by kernel_rfl
@[simp] theorem L7 : L 7 = some ⟨.strct [(0, 2), (1, 3), (2, 4), (3, 6)], 4, 24, [.int .i64 0, .int .i64 0, .bool false, .int .u8 0]⟩ := by kernel_rfl
@[simp] theorem L8 : L 8 = some ⟨.strct [(0, 2), (1, 3), (2, 4), (3, 6)], 4, 24, [.int .i64 0, .int .i64 0, .bool false, .int .u8 0]⟩ := by kernel_rfl
@[simp] theorem L9 : L 9 = some ⟨.str, 1, 16, [.str ByteArray.empty]⟩ := by kernel_rfl
@[simp] theorem L10 : L 10 = some ⟨.str, 1, 16, [.str ByteArray.empty]⟩ := by kernel_rfl
@[simp] theorem L11 : L 11 = some ⟨.str, 1, 16, [.str ByteArray.empty]⟩ := by kernel_rfl
@[simp] theorem L12 : L 12 = some ⟨.int .u64, 1, 8, [.int .u64 0]⟩ := by kernel_rfl
@[simp] theorem L15 : L 15 = some ⟨.ptr 128, 1, 8, [.nilp]⟩ := by kernel_rfl
@[simp] theorem L16 : L 16 = some ⟨.ptr 131, 1, 8, [.nilp]⟩ := by kernel_rfl
@[simp] theorem L17 : L 17 = some ⟨.ptr 139, 1, 8, [.nilp]⟩ := by kernel_rfl
@[simp] theorem L20 : L 20 = some ⟨.other, 1, 16, [.nilI]⟩ := by kernel_rfl
@[simp] theorem L21 : L 21 = some ⟨.int .i32, 1, 4, [.int .i32 0]⟩ := by kernel_rfl
@[simp] theorem L22 : L 22 = some ⟨.arr 40 5, 40, 40, repl 40 ([.int .u8 0])⟩ := by kernel_rfl
@[simp] theorem L23 : L 23 = some ⟨.func, 1, 8, [.nilF]⟩ := by kernel_rfl
@[simp] theorem L24 : L 24 = some ⟨.func, 1, 8, [.nilF]⟩ := by kernel_rfl
@[simp] theorem L25 : L 25 = some ⟨.strct [(0, 3), (1, 3), (2, 3)], 3, 24, [.int .i64 0, .int .i64 0, .int .i64 0]⟩ := by kernel_rfl
@[simp] theorem L26 : L 26 = some ⟨.strct [(0, 3), (1, 3), (2, 3)], 3, 24, [.int .i64 0, .int .i64 0, .int .i64 0]⟩ := by kernel_rfl
@[simp] theorem L27 : L 27 = some ⟨.arr 11 4, 11, 11, [.bool false, .bool false, .bool false, .bool false, .bool false, .bool false, .bool false, .bool false, .bool false, .bool false, .bool false]⟩ := by kernel_rfl
@[simp] theorem L28 : L 28 = some ⟨.strct [(0, 26), (3, 27), (14, 3)], 15, 48, ([.int .i64 0, .int .i64 0, .int .i64 0]) ++ ([.bool false, .bool false, .bool false, .bool false, .bool false, .bool false, .bool false, .bool false, .bool false, .bool false, .bool false]) ++ ([.int .i64 0])⟩ := by kernel_rfl
@[simp] theorem L29 : L 29 = some ⟨.strct [(0, 26), (3, 27), (14, 3)], 15, 48, ([.int .i64 0, .int .i64 0, .int .i64 0]) ++ ([.bool false, .bool false, .bool false, .bool false, .bool false, .bool false, .bool false, .bool false, .bool false, .bool false, .bool false]) ++ ([.int .i64 0])⟩ := by kernel_rfl
@[simp] theorem L30 : L 30 = some ⟨.arr 25 22, 1000, 1000, repl 25 (repl 40 ([.int .u8 0]))⟩ := by kernel_rfl
@[simp] theorem L31 : L 31 = some ⟨.arr 25 4, 25, 25, repl 25 ([.bool false])⟩ := by kernel_rfl
@[simp] theorem L32 : L 32 = some ⟨.slice 70, 1, 24, [.nsl]⟩ := by kernel_rfl
@[simp] theorem L33 : L 33 = some ⟨.arr 6 26, 18, 144, repl 6 ([.int .i64 0, .int .i64 0, .int .i64 0])⟩ := by kernel_rfl
@[simp] theorem L34 : L 34 = some ⟨.strct [(0, 29), (15, 30), (1015, 31), (1040, 32), (1041, 33), (1059, 4), (1060, 3)], 1061, 1264, (([.int .i64 0, .int .i64 0, .int .i64 0]) ++ ([.bool false, .bool false, .bool false, .bool false, .bool false, .bool false, .bool false, .bool false, .bool false, .bool false, .bool false]) ++ ([.int .i64 0])) ++ (repl 25 (repl 40 ([.int .u8 0]))) ++ (repl 25 ([.bool false])) ++ [.nsl] ++ (repl 6 ([.int .i64 0, .int .i64 0, .int .i64 0])) ++ ([.bool false]) ++ ([.int .i64 0])⟩ := by kernel_rfl
@[simp] theorem L35 : L 35 = some ⟨.strct [(0, 29), (15, 30), (1015, 31), (1040, 32), (1041, 33), (1059, 4), (1060, 3)], 1061, 1264, (([.int .i64 0, .int .i64 0, .int .i64 0]) ++ ([.bool false, .bool false, .bool false, .bool false, .bool false, .bool false, .bool false, .bool false, .bool false, .bool false, .bool false]) ++ ([.int .i64 0])) ++ (repl 25 (repl 40 ([.int .u8 0]))) ++ (repl 25 ([.bool false])) ++ [.nsl] ++ (repl 6 ([.int .i64 0, .int .i64 0, .int .i64 0])) ++ ([.bool false]) ++ ([.int .i64 0])⟩ := by kernel_rfl
@[simp] theorem L36 : L 36 = some ⟨.strct [(0, 3), (1, 3), (2, 3), (3, 4), (4, 4), (5, 4), (6, 4), (7, 4), (8, 3), (9, 3)], 10, 48, [.int .i64 0, .int .i64 0, .int .i64 0, .bool false, .bool false, .bool false, .bool false, .bool false, .int .i64 0, .int .i64 0]⟩ := by kernel_rfl
@[simp] theorem L37 : L 37 = some ⟨.strct [(0, 3), (1, 3), (2, 3), (3, 4), (4, 4), (5, 4), (6, 4), (7, 4), (8, 3), (9, 3)], 10, 48, [.int .i64 0, .int .i64 0, .int .i64 0, .bool false, .bool false, .bool false, .bool false, .bool false, .int .i64 0, .int .i64 0]⟩ := by kernel_rfl
@[simp] theorem L38 : L 38 = some ⟨.arr 40 37, 400, 1920, repl 40 ([.int .i64 0, .int .i64 0, .int .i64 0, .bool false, .bool false, .bool false, .bool false, .bool false, .int .i64 0, .int .i64 0])⟩ := by kernel_rfl
@[simp] theorem L39 : L 39 = some ⟨.arr 25 38, 10000, 48000, repl 25 (repl 40 ([.int .i64 0, .int .i64 0, .int .i64 0, .bool false, .bool false, .bool false, .bool false, .bool false, .int .i64 0, .int .i64 0]))⟩ := by kernel_rfl
@[simp] theorem L40 : L 40 = some ⟨.arr 25 38, 10000, 48000, repl 25 (repl 40 ([.int .i64 0, .int .i64 0, .int .i64 0, .bool false, .bool false, .bool false, .bool false, .bool false, .int .i64 0, .int .i64 0]))⟩ := by kernel_rfl
@[simp] theorem L41 : L 41 = some ⟨.func, 1, 8, [.nilF]⟩ := by kernel_rfl
@[simp] theorem L42 : L 42 = some ⟨.strct [(0, 4), (1, 4)], 2, 2, [.bool false, .bool false]⟩ := by kernel_rfl
@[simp] theorem L43 : L 43 = some ⟨.strct [(0, 4), (1, 4)], 2, 2, [.bool false, .bool false]⟩ := by kernel_rfl
@[simp] theorem L44 : L 44 = some ⟨.func, 1, 8, [.nilF]⟩ := by kernel_rfl
@[simp] theorem L45 : L 45 = some ⟨.func, 1, 8, [.nilF]⟩ := by kernel_rfl
@[simp] theorem L46 : L 46 = some ⟨.slice 5, 1, 24, [.nsl]⟩ := by kernel_rfl
@[simp] theorem L47 : L 47 = some ⟨.func, 1, 8, [.nilF]⟩ := by kernel_rfl
@[simp] theorem L48 : L 48 = some ⟨.func, 1, 8, [.nilF]⟩ := by kernel_rfl
@[simp] theorem L49 : L 49 = some ⟨.slice 9, 1, 24, [.nsl]⟩ := by kernel_rfl
@[simp] theorem L50 : L 50 = some ⟨.func, 1, 8, [.nilF]⟩ := by kernel_rfl
@[simp] theorem L51 : L 51 = some ⟨.func, 1, 8, [.nilF]⟩ := by kernel_rfl
@[simp] theorem L52 : L 52 = some ⟨.func, 1, 8, [.nilF]⟩ := by kernel_rfl
@[simp] theorem L53 : L 53 = some ⟨.func, 1, 8, [.nilF]⟩ := by kernel_rfl
@[simp] theorem L54 : L 54 = some ⟨.func, 1, 8, [.nilF]⟩ := by kernel_rfl
@[simp] theorem L55 : L 55 = some ⟨.func, 1, 8, [.nilF]⟩ := by kernel_rfl
@[simp] theorem L56 : L 56 = some ⟨.func, 1, 8, [.nilF]⟩ := by kernel_rfl
@[simp] theorem L57 : L 57 = some ⟨.func, 1, 8, [.nilF]⟩ := by kernel_rfl
@[simp] theorem L58 : L 58 = some ⟨.func, 1, 8, [.nilF]⟩ := by kernel_rfl
@[simp] theorem L59 : L 59 = some ⟨.func, 1, 8, [.nilF]⟩ := by kernel_rfl
@[simp] theorem L60 : L 60 = some ⟨.func, 1, 8, [.nilF]⟩ := by kernel_rfl
@[simp] theorem L61 : L 61 = some ⟨.func, 1, 8, [.nilF]⟩ := by kernel_rfl
@[simp] theorem L62 : L 62 = some ⟨.slice 3, 1, 24, [.nsl]⟩ := by kernel_rfl
@[simp] theorem L63 : L 63 = some ⟨.func, 1, 8, [.nilF]⟩ := by kernel_rfl
@[simp] theorem L64 : L 64 = some ⟨.func, 1, 8, [.nilF]⟩ := by kernel_rfl
@[simp] theorem L65 : L 65 = some ⟨.func, 1, 8, [.nilF]⟩ := by kernel_rfl
@[simp] theorem L66 : L 66 = some ⟨.func, 1, 8, [.nilF]⟩ := by kernel_rfl
@[simp] theorem L67 : L 67 = some ⟨.func, 1, 8, [.nilF]⟩ := by kernel_rfl
@[simp] theorem L68 : L 68 = some ⟨.func, 1, 8, [.nilF]⟩ := by kernel_rfl
@[simp] theorem L69 : L 69 = some ⟨.strct [(0, 3), (1, 3), (2, 3)], 3, 24, [.int .i64 0, .int .i64 0, .int .i64 0]⟩ := by kernel_rfl
@[simp] theorem L70 : L 70 = some ⟨.strct [(0, 3), (1, 3), (2, 3)], 3, 24, [.int .i64 0, .int .i64 0, .int .i64 0]⟩ := by kernel_rfl
@[simp] theorem L71 : L 71 = some ⟨.func, 1, 8, [.nilF]⟩ := by kernel_rfl
@[simp] theorem L72 : L 72 = some ⟨.func, 1, 8, [.nilF]⟩ := by kernel_rfl
@[simp] theorem L73 : L 73 = some ⟨.slice 87, 1, 24, [.nsl]⟩ := by kernel_rfl
@[simp] theorem L74 : L 74 = some ⟨.func, 1, 8, [.nilF]⟩ := by kernel_rfl
@[simp] theorem L75 : L 75 = some ⟨.func, 1, 8, [.nilF]⟩ := by kernel_rfl
@[simp] theorem L77 : L 77 = some ⟨.func, 1, 8, [.nilF]⟩ := by kernel_rfl
@[simp] theorem L78 : L 78 = some ⟨.func, 1, 8, [.nilF]⟩ := by kernel_rfl
@[simp] theorem L79 : L 79 = some ⟨.func, 1, 8, [.nilF]⟩ := by kernel_rfl
@[simp] theorem L81 : L 81 = some ⟨.func, 1, 8, [.nilF]⟩ := by kernel_rfl
@[simp] theorem L82 : L 82 = some ⟨.func, 1, 8, [.nilF]⟩ := by kernel_rfl
@[simp] theorem L83 : L 83 = some ⟨.func, 1, 8, [.nilF]⟩ := by kernel_rfl
@[simp] theorem L85 : L 85 = some ⟨.func, 1, 8, [.nilF]⟩ := by kernel_rfl
@[simp] theorem L86 : L 86 = some ⟨.strct [(0, 3), (1, 3), (2, 3)], 3, 24, [.int .i64 0, .int .i64 0, .int .i64 0]⟩ := by kernel_rfl
@[simp] theorem L87 : L 87 = some ⟨.strct [(0, 3), (1, 3), (2, 3)], 3, 24, [.int .i64 0, .int .i64 0, .int .i64 0]⟩ := by kernel_rfl
@[simp] theorem L88 : L 88 = some ⟨.strct [(0, 3), (1, 3), (2, 4), (3, 4), (4, 4), (5, 4), (6, 4), (7, 4), (8, 4), (9, 3), (10, 5)], 11, 40, [.int .i64 0, .int .i64 0, .bool false, .bool false, .bool false, .bool false, .bool false, .bool false, .bool false, .int .i64 0, .int .u8 0]⟩ := by kernel_rfl
@[simp] theorem L89 : L 89 = some ⟨.strct [(0, 3), (1, 3), (2, 4), (3, 4), (4, 4), (5, 4), (6, 4), (7, 4), (8, 4), (9, 3), (10, 5)], 11, 40, [.int .i64 0, .int .i64 0, .bool false, .bool false, .bool false, .bool false, .bool false, .bool false, .bool false, .int .i64 0, .int .u8 0]⟩ := by kernel_rfl
@[simp] theorem L90 : L 90 = some ⟨.func, 1, 8, [.nilF]⟩ := by kernel_rfl
@[simp] theorem L92 : L 92 = some ⟨.func, 1, 8, [.nilF]⟩ := by kernel_rfl
@[simp] theorem L93 : L 93 = some ⟨.func, 1, 8, [.nilF]⟩ := by kernel_rfl
@[simp] theorem L94 : L 94 = some ⟨.func, 1, 8, [.nilF]⟩ := by kernel_rfl
@[simp] theorem L95 : L 95 = some ⟨.int .u64, 1, 8, [.int .u64 0]⟩ := by kernel_rfl
@[simp] theorem L96 : L 96 = some ⟨.arr 8 3, 8, 64, [.int .i64 0, .int .i64 0, .int .i64 0, .int .i64 0, .int .i64 0, .int .i64 0, .int .i64 0, .int .i64 0]⟩ := by kernel_rfl
@[simp] theorem L97 : L 97 = some ⟨.arr 7 96, 56, 448, repl 7 ([.int .i64 0, .int .i64 0, .int .i64 0, .int .i64 0, .int .i64 0, .int .i64 0, .int .i64 0, .int .i64 0])⟩ := by kernel_rfl
@[simp] theorem L98 : L 98 = some ⟨.func, 1, 8, [.nilF]⟩ := by kernel_rfl
@[simp] theorem L99 : L 99 = some ⟨.func, 1, 8, [.nilF]⟩ := by kernel_rfl
@[simp] theorem L101 : L 101 = some ⟨.func, 1, 8, [.nilF]⟩ := by kernel_rfl
@[simp] theorem L103 : L 103 = some ⟨.func, 1, 8, [.nilF]⟩ := by kernel_rfl
@[simp] theorem L104 : L 104 = some ⟨.arr 96 3, 96, 768, repl 96 ([.int .i64 0])⟩ := by kernel_rfl
@[simp] theorem L105 : L 105 = some ⟨.func, 1, 8, [.nilF]⟩ := by kernel_rfl
@[simp] theorem L106 : L 106 = some ⟨.slice 109, 1, 24, [.nsl]⟩ := by kernel_rfl
@[simp] theorem L107 : L 107 = some ⟨.func, 1, 8, [.nilF]⟩ := by kernel_rfl
@[simp] theorem L108 : L 108 = some ⟨.strct [(0, 5), (1, 3)], 2, 16, [.int .u8 0, .int .i64 0]⟩ := by kernel_rfl
@[simp] theorem L109 : L 109 = some ⟨.strct [(0, 5), (1, 3)], 2, 16, [.int .u8 0, .int .i64 0]⟩ := by kernel_rfl
@[simp] theorem L110 : L 110 = some ⟨.func, 1, 8, [.nilF]⟩ := by kernel_rfl
@[simp] theorem L111 : L 111 = some ⟨.func, 1, 8, [.nilF]⟩ := by kernel_rfl
@[simp] theorem L112 : L 112 = some ⟨.func, 1, 8, [.nilF]⟩ := by kernel_rfl
@[simp] theorem L113 : L 113 = some ⟨.int .u32, 1, 4, [.int .u32 0]⟩ := by kernel_rfl
@[simp] theorem L115 : L 115 = some ⟨.func, 1, 8, [.nilF]⟩ := by kernel_rfl
@[simp] theorem L116 : L 116 = some ⟨.int .u64, 1, 8, [.int .u64 0]⟩ := by kernel_rfl
@[simp] theorem L118 : L 118 = some ⟨.func, 1, 8, [.nilF]⟩ := by kernel_rfl
@[simp] theorem L119 : L 119 = some ⟨.func, 1, 8, [.nilF]⟩ := by kernel_rfl
@[simp] theorem L120 : L 120 = some ⟨.func, 1, 8, [.nilF]⟩ := by kernel_rfl
@[simp] theorem L121 : L 121 = some ⟨.arr 13 3, 13, 104, repl 13 ([.int .i64 0])⟩ := by kernel_rfl
@[simp] theorem L122 : L 122 = some ⟨.strct [(0, 9), (1, 121)], 14, 120, ([.str ByteArray.empty]) ++ (repl 13 ([.int .i64 0]))⟩ := by kernel_rfl
@[simp] theorem L123 : L 123 = some ⟨.strct [(0, 9), (1, 121)], 14, 120, ([.str ByteArray.empty]) ++ (repl 13 ([.int .i64 0]))⟩ := by kernel_rfl
@[simp] theorem L124 : L 124 = some ⟨.slice 123, 1, 24, [.nsl]⟩ := by kernel_rfl
@[simp] theorem L125 : L 125 = some ⟨.func, 1, 8, [.nilF]⟩ := by kernel_rfl
@[simp] theorem L126 : L 126 = some ⟨.func, 1, 8, [.nilF]⟩ := by kernel_rfl
@[simp] theorem L129 : L 129 = some ⟨.arr 0 16, 0, 0, []⟩ := by kernel_rfl
@[simp] theorem L132 : L 132 = some ⟨.int .u8, 1, 1, [.int .u8 0]⟩ := by kernel_rfl
@[simp] theorem L133 : L 133 = some ⟨.int .u8, 1, 1, [.int .u8 0]⟩ := by kernel_rfl
@[simp] theorem L134 : L 134 = some ⟨.func, 1, 8, [.nilF]⟩ := by kernel_rfl
@[simp] theorem L135 : L 135 = some ⟨.ptr 5, 1, 8, [.nilp]⟩ := by kernel_rfl
@[simp] theorem L136 : L 136 = some ⟨.int .i32, 1, 4, [.int .i32 0]⟩ := by kernel_rfl
@[simp] theorem L137 : L 137 = some ⟨.int .i32, 1, 4, [.int .i32 0]⟩ := by kernel_rfl
noncomputable def a2 : AFn := mkA Try.f2 [] [] [] [] [] [] []
noncomputable def a3 : AFn := mkA Try.f3 [1, 5, 10, 11, 12, 13, 14, 15, 16, 17, 18, 19, 20, 21, 22, 25, 42, 90, 115, 154, 171] [(10, [1, 2, 3, 4, 5, 11, 12, 13], [5, 12]), (23, [1, 11, 12, 14, 15, 16, 17, 18, 19], [12, 14, 15, 16])] [] [] [] [] []
noncomputable def a4 : AFn := mkA Try.f4 [0, 1, 8, 9, 10, 11, 12, 13, 14, 15, 16, 17, 18, 19, 20, 23, 45, 55, 66, 81, 85, 118, 123, 139] [(12, [0, 1, 3, 9, 10, 11, 12], [10, 42, 50, 53]), (17, [0, 1, 3, 9, 10, 11, 13], [10, 42, 50, 53]), (24, [0, 1, 3, 9, 14, 15], [14]), (27, [0, 1, 3, 9, 14, 15, 16], [14])] [] [] [] [] []
noncomputable def a5 : AFn := mkA Try.f5 [7, 8, 9, 10, 11, 12, 13, 14, 15, 16, 17, 20, 29, 57, 59, 63, 86, 98, 109, 146] [(13, [0, 1, 2, 9, 10, 11, 12, 13, 14], [10, 11, 54]), (16, [0, 1, 2, 9, 10, 11, 12, 13, 14, 15], [10, 11, 54])] [] [] [] [] []
noncomputable def a6 : AFn := mkA Try.f6 [0, 2, 6, 7, 8, 9, 10, 11, 12, 13, 14, 15, 16, 19, 27, 33, 39, 59, 63, 73, 102] [(12, [0, 1, 2, 7, 8, 9, 10], [8, 9, 50]), (21, [0, 2, 7, 9, 12, 13], [9, 12, 50]), (24, [0, 2, 7, 9, 12, 13, 14], [9, 12, 50])] [9] [] [] [] []
noncomputable def a7 : AFn := mkA Try.f7 [0, 3, 8, 9, 10, 11, 12, 13, 14, 15, 16, 17, 18, 19, 20, 21, 24, 37, 42, 54, 69, 82, 89, 99, 113, 123, 152, 200] [(10, [0, 1, 2, 3, 9, 10, 11], [39, 47, 50, 65, 86]), (15, [0, 1, 2, 3, 9, 10, 12], [39, 47, 50, 65, 86]), (19, [0, 2, 3, 9, 10, 13], [39, 47, 50, 65, 86]), (22, [0, 2, 3, 9, 10], [39, 47, 50, 65, 86]), (26, [0, 2, 3, 9, 10, 14, 15], [39, 47, 50, 65, 86, 87]), (37, [0, 3, 9, 17, 18], [17])] [] [] [] [] []
noncomputable def a8 : AFn := mkA Try.f8 [0, 1] [] [] [] [] [] []
noncomputable def a9 : AFn := mkA Try.f9 [4, 5, 10] [] [] [] [] [] []
noncomputable def a10 : AFn := mkA Try.f10 [2, 3, 4, 5, 6, 7, 8, 9, 15, 16, 31, 37, 38, 39] [(4, [3, 4, 5, 6, 15], [3, 4, 5, 6]), (9, [3, 4, 5, 6, 7, 15, 37, 38], [3, 4, 5, 6])] [] [] [(44, [9]), (45, [6]), (46, [6]), (48, [6]), (49, [6]), (51, [3]), (52, []), (53, [5]), (54, [5])] [(54, 5)] []
noncomputable def a11 : AFn := mkA Try.f11 [4, 5, 6, 11, 20] [(3, [0, 1, 5, 6], [7])] [] [] [] [] []
noncomputable def a12 : AFn := mkA Try.f12 [4, 8, 9, 10, 24, 35, 48] [(4, [1, 2, 3, 4, 8, 9], [4, 8])] [] [] [] [] []
noncomputable def a13 : AFn := mkA Try.f13 [1, 2, 3, 5, 6, 8, 9, 10, 11, 13, 14, 15] [(3, [3, 9, 10], [3, 28]), (7, [3, 6, 9, 10, 13, 14], [3, 6, 22, 28])] [2, 3, 6] [] [] [] []
noncomputable def a14 : AFn := mkA Try.f14 [2, 3, 4] [] [] [] [] [] []
noncomputable def a15 : AFn := mkA Try.f15 [2, 3, 7] [] [] [] [] [] []
noncomputable def a16 : AFn := mkA Try.f16 [3, 6, 16] [] [9] [1040] [] [] []
noncomputable def a17 : AFn := mkA Try.f17 [0, 1, 2, 3, 4] [(3, [0, 1, 3], [0, 1])] [] [] [] [] []
noncomputable def a18 : AFn := mkA Try.f18 [1, 2, 3, 4, 5, 6, 7, 8, 9, 15, 16, 18, 45] [(5, [1, 2, 3, 4, 5, 6, 15], [1, 2, 3, 14])] [] [] [(10, [1]), (11, []), (13, [1]), (14, [])] [] []
noncomputable def a19 : AFn := mkA Try.f19 [0, 1, 2, 3, 4] [(3, [0, 1, 3], [0, 1])] [] [] [] [] []
noncomputable def a20 : AFn := mkA Try.f20 [3, 5, 6, 13, 20, 28] [] [] [] [] [] []
noncomputable def a21 : AFn := mkA Try.f21 [0] [] [0] [] [] [] []
noncomputable def a22 : AFn := mkA Try.f22 [2, 3, 4, 7, 10, 13, 16, 19, 22, 25, 28, 31, 34, 37] [] [2] [] [] [] []
noncomputable def a23 : AFn := mkA Try.f23 [2, 3, 7] [] [] [] [] [] []
noncomputable def a24 : AFn := mkA Try.f24 [0] [] [] [] [] [] []
noncomputable def a25 : AFn := mkA Try.f25 [2, 5, 12, 18] [] [] [] [] [] []
noncomputable def a26 : AFn := mkA Try.f26 [2] [] [] [] [] [] []
noncomputable def a27 : AFn := mkA Try.f27 [2, 4] [] [2] [] [] [] []
noncomputable def a28 : AFn := mkA Try.f28 [3, 6, 7, 8, 9, 10, 11, 16, 23, 30] [(3, [1, 2, 3, 6, 7, 10], [3, 6, 7])] [] [] [] [] []
noncomputable def a29 : AFn := mkA Try.f29 [1, 2, 5] [] [] [] [] [] []
noncomputable def a30 : AFn := mkA Try.f30 [2, 3, 4, 6, 7, 8, 9, 10, 11, 12, 17, 20, 33] [(4, [3, 4, 9, 10, 11], [3, 41])] [2, 3] [] [] [] []
noncomputable def a31 : AFn := mkA Try.f31 [1, 2, 3, 4, 5, 6, 7, 12] [(2, [1, 2, 5, 6], [1, 2])] [] [] [(22, [4]), (24, [4]), (25, [1]), (27, [1])] [(26, 1), (28, 1)] []
noncomputable def a32 : AFn := mkA Try.f32 [4, 5, 6, 7, 8, 9, 10, 12, 13, 18] [(5, [0, 1, 4, 6, 7, 8, 12], [4, 6, 7])] [] [] [] [] []
noncomputable def a33 : AFn := mkA Try.f33 [2, 4, 17] [] [4] [] [] [] []
noncomputable def a34 : AFn := mkA Try.f34 [3, 6, 8, 9, 10, 11, 12, 28] [(2, [1, 3, 6, 9, 10, 11], [3, 6])] [] [] [] [] []
noncomputable def a35 : AFn := mkA Try.f35 [1, 2, 3, 4, 5] [(2, [1, 2, 4], [1, 2])] [] [] [] [] []
noncomputable def a36 : AFn := mkA Try.f36 [2, 3, 4, 5, 13] [] [] [] [] [] []
noncomputable def a37 : AFn := mkA Try.f37 [0, 2, 3, 5] [(2, [0, 3], [])] [] [] [] [] []
noncomputable def a38 : AFn := mkA Try.f38 [2] [] [] [] [] [] []
noncomputable def a39 : AFn := mkA Try.f39 [4, 5, 20] [] [] [] [] [] []
noncomputable def a40 : AFn := mkA Try.f40 [2, 4, 5, 14, 21] [] [] [] [] [] []
noncomputable def a41 : AFn := mkA Try.f41 [1, 2, 3, 4, 13, 21] [] [] [] [] [] []
noncomputable def a42 : AFn := mkA Try.f42 [0] [] [] [] [] [] []
noncomputable def a43 : AFn := mkA Try.f43 [1, 3, 6, 7, 8, 26] [] [] [] [(42, [3]), (43, [8])] [(6, 6), (7, 7)] []
noncomputable def a44 : AFn := mkA Try.f44 [4, 5, 6, 7, 8, 10, 26, 37] [(8, [7, 8], [30])] [4] [] [] [] []
noncomputable def a45 : AFn := mkA Try.f45 [2, 4] [] [2] [] [] [] []
noncomputable def a46 : AFn := mkA Try.f46 [2] [] [] [] [] [] []
noncomputable def a47 : AFn := mkA Try.f47 [0] [] [] [] [] [] []
noncomputable def a48 : AFn := mkA Try.f48 [0, 2, 6] [] [] [] [] [] []
noncomputable def a49 : AFn := mkA Try.f49 [1, 4, 6, 14, 16, 17, 18, 19, 25, 34] [(5, [0, 1, 16, 17, 18], [16])] [] [] [] [] []
noncomputable def a50 : AFn := mkA Try.f50 [2, 4, 5, 6, 9, 13, 16, 22, 25, 30, 33, 39] [] [] [] [] [] []
noncomputable def a51 : AFn := mkA Try.f51 [3, 6, 7, 8, 9, 24, 29] [] [] [] [] [] []
noncomputable def a52 : AFn := mkA Try.f52 [2, 4, 5, 11, 22, 23, 26, 30] [] [] [] [] [] []
noncomputable def a53 : AFn := mkA Try.f53 [4, 5, 6, 7, 8, 9] [] [] [] [] [] []
noncomputable def a54 : AFn := mkA Try.f54 [0] [] [] [] [] [] []
noncomputable def a55 : AFn := mkA Try.f55 [2, 3, 4, 17, 40, 53, 62, 69] [] [2] [] [] [] []
noncomputable def a56 : AFn := mkA Try.f56 [0, 2, 5, 8] [] [] [] [] [] []
noncomputable def a57 : AFn := mkA Try.f57 [2, 4, 8] [] [] [] [] [] []
noncomputable def a58 : AFn := mkA Try.f58 [2] [] [] [] [] [] []
noncomputable def a59 : AFn := mkA Try.f59 [4, 5, 9] [] [] [] [] [] []
noncomputable def a60 : AFn := mkA Try.f60 [2, 5] [] [] [] [] [] []
noncomputable def a61 : AFn := mkA Try.f61 [0, 4, 5, 11, 20] [] [] [] [] [] []
noncomputable def a62 : AFn := mkA Try.f62 [3, 6, 10] [] [] [] [] [] []
noncomputable def a63 : AFn := mkA Try.f63 [4, 5, 6] [] [] [] [] [] []
noncomputable def a64 : AFn := mkA Try.f64 [4, 5, 6, 7, 8, 9, 10, 11, 12, 13] [] [] [] [] [] []
noncomputable def a65 : AFn := mkA Try.f65 [2, 3, 4, 18, 25, 34, 41, 48] [] [2] [] [] [] []
noncomputable def a66 : AFn := mkA Try.f66 [0, 2, 3, 7, 13] [] [] [] [] [] []
noncomputable def a67 : AFn := mkA Try.f67 [4] [] [] [] [] [] []
noncomputable def a68 : AFn := mkA Try.f68 [0] [] [0] [] [] [] []
noncomputable def a69 : AFn := mkA Try.f69 [0] [] [] [] [] [] []
noncomputable def a70 : AFn := mkA Try.f70 [0] [] [0] [] [] [] []

noncomputable def Ts : List (Nat × AFn) := [(2, a2), (3, a3), (4, a4), (5, a5), (6, a6), (7, a7), (8, a8), (9, a9), (10, a10), (11, a11), (12, a12), (13, a13), (14, a14), (15, a15), (16, a16), (17, a17), (18, a18), (19, a19), (20, a20), (21, a21), (22, a22), (23, a23), (24, a24), (25, a25), (26, a26), (27, a27), (28, a28), (29, a29), (30, a30), (31, a31), (32, a32), (33, a33), (34, a34), (35, a35), (36, a36), (37, a37), (38, a38), (39, a39), (40, a40), (41, a41), (42, a42), (43, a43), (44, a44), (45, a45), (46, a46), (47, a47), (48, a48), (49, a49), (50, a50), (51, a51), (52, a52), (53, a53), (54, a54), (55, a55), (56, a56), (57, a57), (58, a58), (59, a59), (60, a60), (61, a61), (62, a62), (63, a63), (64, a64), (65, a65), (66, a66), (67, a67), (68, a68), (69, a69), (70, a70)]
theorem Ts_ok : ∀ p ∈ Ts, FnOK Try.prog L p.1 p.2 := by
  intro p hp
  simp only [Ts, List.mem_cons, List.not_mem_nil, or_false] at hp
  rcases hp with rfl | rfl | rfl | rfl | rfl | rfl | rfl | rfl | rfl | rfl | rfl | rfl | rfl | rfl | rfl | rfl | rfl | rfl | rfl | rfl | rfl | rfl | rfl | rfl | rfl | rfl | rfl | rfl | rfl | rfl | rfl | rfl | rfl | rfl | rfl | rfl | rfl | rfl | rfl | rfl | rfl | rfl | rfl | rfl | rfl | rfl | rfl | rfl | rfl | rfl | rfl | rfl | rfl | rfl | rfl | rfl | rfl | rfl | rfl | rfl | rfl | rfl | rfl | rfl | rfl | rfl | rfl | rfl | rfl
  · exact mkA_ok Try.func2 (by kernel_rfl)
  · exact mkA_ok Try.func3 (by kernel_rfl)
  · exact mkA_ok Try.func4 (by kernel_rfl)
  · exact mkA_ok Try.func5 (by kernel_rfl)
  · exact mkA_ok Try.func6 (by kernel_rfl)
  · exact mkA_ok Try.func7 (by kernel_rfl)
  · exact mkA_ok Try.func8 (by kernel_rfl)
  · exact mkA_ok Try.func9 (by kernel_rfl)
  · exact mkA_ok Try.func10 (by kernel_rfl)
  · exact mkA_ok Try.func11 (by kernel_rfl)
  · exact mkA_ok Try.func12 (by kernel_rfl)
  · exact mkA_ok Try.func13 (by kernel_rfl)
  · exact mkA_ok Try.func14 (by kernel_rfl)
  · exact mkA_ok Try.func15 (by kernel_rfl)
  · exact mkA_ok Try.func16 (by kernel_rfl)
  · exact mkA_ok Try.func17 (by kernel_rfl)
  · exact mkA_ok Try.func18 (by kernel_rfl)
  · exact mkA_ok Try.func19 (by kernel_rfl)
  · exact mkA_ok Try.func20 (by kernel_rfl)
  · exact mkA_ok Try.func21 (by kernel_rfl)
  · exact mkA_ok Try.func22 (by kernel_rfl)
  · exact mkA_ok Try.func23 (by kernel_rfl)
  · exact mkA_ok Try.func24 (by kernel_rfl)
  · exact mkA_ok Try.func25 (by kernel_rfl)
  · exact mkA_ok Try.func26 (by kernel_rfl)
  · exact mkA_ok Try.func27 (by kernel_rfl)
  · exact mkA_ok Try.func28 (by kernel_rfl)
  · exact mkA_ok Try.func29 (by kernel_rfl)
  · exact mkA_ok Try.func30 (by kernel_rfl)
  · exact mkA_ok Try.func31 (by kernel_rfl)
  · exact mkA_ok Try.func32 (by kernel_rfl)
  · exact mkA_ok Try.func33 (by kernel_rfl)
  · exact mkA_ok Try.func34 (by kernel_rfl)
  · exact mkA_ok Try.func35 (by kernel_rfl)
  · exact mkA_ok Try.func36 (by kernel_rfl)
  · exact mkA_ok Try.func37 (by kernel_rfl)
  · exact mkA_ok Try.func38 (by kernel_rfl)
  · exact mkA_ok Try.func39 (by kernel_rfl)
  · exact mkA_ok Try.func40 (by kernel_rfl)
  · exact mkA_ok Try.func41 (by kernel_rfl)
  · exact mkA_ok Try.func42 (by kernel_rfl)
  · exact mkA_ok Try.func43 (by kernel_rfl)
  · exact mkA_ok Try.func44 (by kernel_rfl)
  · exact mkA_ok Try.func45 (by kernel_rfl)
  · exact mkA_ok Try.func46 (by kernel_rfl)
  · exact mkA_ok Try.func47 (by kernel_rfl)
  · exact mkA_ok Try.func48 (by kernel_rfl)
  · exact mkA_ok Try.func49 (by kernel_rfl)
  · exact mkA_ok Try.func50 (by kernel_rfl)
  · exact mkA_ok Try.func51 (by kernel_rfl)
  · exact mkA_ok Try.func52 (by kernel_rfl)
  · exact mkA_ok Try.func53 (by kernel_rfl)
  · exact mkA_ok Try.func54 (by kernel_rfl)
  · exact mkA_ok Try.func55 (by kernel_rfl)
  · exact mkA_ok Try.func56 (by kernel_rfl)
  · exact mkA_ok Try.func57 (by kernel_rfl)
  · exact mkA_ok Try.func58 (by kernel_rfl)
  · exact mkA_ok Try.func59 (by kernel_rfl)
  · exact mkA_ok Try.func60 (by kernel_rfl)
  · exact mkA_ok Try.func61 (by kernel_rfl)
  · exact mkA_ok Try.func62 (by kernel_rfl)
  · exact mkA_ok Try.func63 (by kernel_rfl)
  · exact mkA_ok Try.func64 (by kernel_rfl)
  · exact mkA_ok Try.func65 (by kernel_rfl)
  · exact mkA_ok Try.func66 (by kernel_rfl)
  · exact mkA_ok Try.func67 (by kernel_rfl)
  · exact mkA_ok Try.func68 (by kernel_rfl)
  · exact mkA_ok Try.func69 (by kernel_rfl)
  · exact mkA_ok Try.func70 (by kernel_rfl)
noncomputable def T (f : Nat) : Option Entry := withLaws [(71, idxLaw), (27, cloneLaw 3 24), (45, cloneLaw 1 1)] Ts f
theorem L_ok : LOK Try.prog L := lok (by kernel_rfl)
theorem T_ok : TableOK Try.prog L T := tokX (by
  intro p hp
  simp only [List.mem_cons, List.not_mem_nil, or_false] at hp
  rcases hp with rfl | rfl | rfl
  exact idx_ok Try.func71 (by kernel_rfl) (by kernel_rfl) (by kernel_rfl) (by kernel_rfl)
  exact clone_ok (by kernel_rfl) L_ok (clone_fn (t := 32) Try.func27 (by kernel_rfl) (by kernel_rfl) (by kernel_rfl) (of_decide_eq_true (by kernel_rfl))) (show L 32 = some _ from rfl) rfl (show L 70 = some _ from rfl) rfl rfl (by decide) (by decide) (.inr rfl) rfl
  exact clone_ok (by kernel_rfl) L_ok (clone_fn (t := 46) Try.func45 (by kernel_rfl) (by kernel_rfl) (by kernel_rfl) (of_decide_eq_true (by kernel_rfl))) (show L 46 = some _ from rfl) rfl (show L 5 = some _ from rfl) rfl rfl (by decide) (by decide) (.inr rfl) rfl) Ts_ok
theorem laid : laidOutB Try.prog = true := by kernel_rfl
theorem own : ownKnob Try.prog.godebug = none := by kernel_rfl

end Go.Proofs.Ytkienchmbfhigaa
