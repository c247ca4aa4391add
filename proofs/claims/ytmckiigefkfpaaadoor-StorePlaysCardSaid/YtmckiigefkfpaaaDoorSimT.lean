/- The functions and types of this seat, as the interpreter has them. Written by program (tools/Gen.lean). -/
import Derived.Test.YtmckiigefkfpaaaDoorSimNil
import Derived.Test.YtmckiigefkfpaaaDoorRows
import Derived.KernelRfl
import Derived.WalkKit
import Derived.WalkSpells
import Derived.MapKept
import Derived.Laws.Externs
import Derived.Test.YtmckiigefkfpaaaDoorSimClone
set_option linter.unusedVariables false
set_option maxRecDepth 100000
namespace Go.Proofs.YtmckiigefkfpaaaDoor
open Go.Sim

def Ls : List (Nat × TI) := [
  (1, ⟨.func, 1, 8, [.nilF]⟩),
  (2, ⟨.int .i64, 1, 8, [.int .i64 0]⟩),
  (3, ⟨.int .i64, 1, 8, [.int .i64 0]⟩),
  (4, ⟨.bool, 1, 1, [.bool false]⟩),
  (5, ⟨.int .u8, 1, 1, [.int .u8 0]⟩),
  (6, ⟨.int .u8, 1, 1, [.int .u8 0]⟩),
  (7, ⟨.strct [(0, 2), (1, 3), (2, 4), (3, 6)], 4, 24, [.int .i64 0, .int .i64 0, .bool false, .int .u8 0]⟩),
  (8, ⟨.strct [(0, 2), (1, 3), (2, 4), (3, 6)], 4, 24, [.int .i64 0, .int .i64 0, .bool false, .int .u8 0]⟩),
  (9, ⟨.str, 1, 16, [.str ByteArray.empty]⟩),
  (10, ⟨.str, 1, 16, [.str ByteArray.empty]⟩),
  (11, ⟨.str, 1, 16, [.str ByteArray.empty]⟩),
  (12, ⟨.int .u64, 1, 8, [.int .u64 0]⟩),
  (13, ⟨.opq, 2, 24, [.str ByteArray.empty, .int .u64 0]⟩),
  (14, ⟨.opq, 2, 24, [.str ByteArray.empty, .int .u64 0]⟩),
  (15, ⟨.ptr 114, 1, 8, [.nilp]⟩),
  (16, ⟨.ptr 117, 1, 8, [.nilp]⟩),
  (17, ⟨.ptr 126, 1, 8, [.nilp]⟩),
  (18, ⟨.opq, 1, 8, [.nilp]⟩),
  (19, ⟨.opq, 1, 8, [.nilp]⟩),
  (20, ⟨.iface, 1, 16, [.nilI]⟩),
  (21, ⟨.int .i32, 1, 4, [.int .i32 0]⟩),
  (22, ⟨.slice 3, 1, 24, [.nsl]⟩),
  (23, ⟨.func, 1, 8, [.nilF]⟩),
  (24, ⟨.ptr 73, 1, 8, [.nilp]⟩),
  (25, ⟨.iface, 1, 16, [.nilI]⟩),
  (26, ⟨.iface, 1, 16, [.nilI]⟩),
  (28, ⟨.func, 1, 8, [.nilF]⟩),
  (29, ⟨.slice 9, 1, 24, [.nsl]⟩),
  (30, ⟨.func, 1, 8, [.nilF]⟩),
  (32, ⟨.func, 1, 8, [.nilF]⟩),
  (33, ⟨.func, 1, 8, [.nilF]⟩),
  (35, ⟨.func, 1, 8, [.nilF]⟩),
  (36, ⟨.func, 1, 8, [.nilF]⟩),
  (37, ⟨.func, 1, 8, [.nilF]⟩),
  (38, ⟨.ptr 77, 1, 8, [.nilp]⟩),
  (40, ⟨.func, 1, 8, [.nilF]⟩),
  (41, ⟨.func, 1, 8, [.nilF]⟩),
  (42, ⟨.func, 1, 8, [.nilF]⟩),
  (43, ⟨.func, 1, 8, [.nilF]⟩),
  (45, ⟨.func, 1, 8, [.nilF]⟩),
  (46, ⟨.func, 1, 8, [.nilF]⟩),
  (47, ⟨.ptr 82, 1, 8, [.nilp]⟩),
  (49, ⟨.func, 1, 8, [.nilF]⟩),
  (50, ⟨.func, 1, 8, [.nilF]⟩),
  (51, ⟨.func, 1, 8, [.nilF]⟩),
  (52, ⟨.func, 1, 8, [.nilF]⟩),
  (53, ⟨.func, 1, 8, [.nilF]⟩),
  (54, ⟨.func, 1, 8, [.nilF]⟩),
  (55, ⟨.func, 1, 8, [.nilF]⟩),
  (56, ⟨.slice 66, 1, 24, [.nsl]⟩),
  (57, ⟨.ptr 86, 1, 8, [.nilp]⟩),
  (59, ⟨.func, 1, 8, [.nilF]⟩),
  (60, ⟨.func, 1, 8, [.nilF]⟩),
  (61, ⟨.func, 1, 8, [.nilF]⟩),
  (62, ⟨.ptr 64, 1, 8, [.nilp]⟩),
  (63, ⟨.strct [(0, 3), (1, 22), (2, 29), (3, 4), (4, 3)], 5, 72, [.int .i64 0, .nsl, .nsl, .bool false, .int .i64 0]⟩),
  (64, ⟨.strct [(0, 3), (1, 22), (2, 29), (3, 4), (4, 3)], 5, 72, [.int .i64 0, .nsl, .nsl, .bool false, .int .i64 0]⟩),
  (65, ⟨.strct [(0, 3), (1, 3), (2, 9)], 3, 32, [.int .i64 0, .int .i64 0, .str ByteArray.empty]⟩),
  (66, ⟨.strct [(0, 3), (1, 3), (2, 9)], 3, 32, [.int .i64 0, .int .i64 0, .str ByteArray.empty]⟩),
  (67, ⟨.func, 1, 8, [.nilF]⟩),
  (68, ⟨.func, 1, 8, [.nilF]⟩),
  (69, ⟨.func, 1, 8, [.nilF]⟩),
  (70, ⟨.func, 1, 8, [.nilF]⟩),
  (71, ⟨.map 9 3, 1, 8, [.nilM]⟩),
  (72, ⟨.strct [(0, 3), (1, 71), (2, 29), (3, 9), (4, 4)], 5, 64, [.int .i64 0, .nilM, .nsl, .str ByteArray.empty, .bool false]⟩),
  (73, ⟨.strct [(0, 3), (1, 71), (2, 29), (3, 9), (4, 4)], 5, 64, [.int .i64 0, .nilM, .nsl, .str ByteArray.empty, .bool false]⟩),
  (74, ⟨.func, 1, 8, [.nilF]⟩),
  (75, ⟨.map 3 4, 1, 8, [.nilM]⟩),
  (76, ⟨.strct [(0, 3), (1, 75), (2, 22), (3, 3), (4, 4)], 5, 56, [.int .i64 0, .nilM, .nsl, .int .i64 0, .bool false]⟩),
  (77, ⟨.strct [(0, 3), (1, 75), (2, 22), (3, 3), (4, 4)], 5, 56, [.int .i64 0, .nilM, .nsl, .int .i64 0, .bool false]⟩),
  (78, ⟨.func, 1, 8, [.nilF]⟩),
  (79, ⟨.func, 1, 8, [.nilF]⟩),
  (80, ⟨.map 3 3, 1, 8, [.nilM]⟩),
  (81, ⟨.strct [(0, 3), (1, 80), (2, 22), (3, 3), (4, 4)], 5, 56, [.int .i64 0, .nilM, .nsl, .int .i64 0, .bool false]⟩),
  (82, ⟨.strct [(0, 3), (1, 80), (2, 22), (3, 3), (4, 4)], 5, 56, [.int .i64 0, .nilM, .nsl, .int .i64 0, .bool false]⟩),
  (83, ⟨.func, 1, 8, [.nilF]⟩),
  (84, ⟨.map 3 9, 1, 8, [.nilM]⟩),
  (85, ⟨.strct [(0, 3), (1, 84), (2, 22), (3, 3), (4, 4)], 5, 56, [.int .i64 0, .nilM, .nsl, .int .i64 0, .bool false]⟩),
  (86, ⟨.strct [(0, 3), (1, 84), (2, 22), (3, 3), (4, 4)], 5, 56, [.int .i64 0, .nilM, .nsl, .int .i64 0, .bool false]⟩),
  (87, ⟨.func, 1, 8, [.nilF]⟩),
  (88, ⟨.strct [(0, 3), (1, 4), (2, 3)], 3, 24, [.int .i64 0, .bool false, .int .i64 0]⟩),
  (89, ⟨.strct [(0, 3), (1, 4), (2, 3)], 3, 24, [.int .i64 0, .bool false, .int .i64 0]⟩),
  (90, ⟨.func, 1, 8, [.nilF]⟩),
  (91, ⟨.func, 1, 8, [.nilF]⟩),
  (92, ⟨.func, 1, 8, [.nilF]⟩),
  (93, ⟨.func, 1, 8, [.nilF]⟩),
  (94, ⟨.func, 1, 8, [.nilF]⟩),
  (95, ⟨.func, 1, 8, [.nilF]⟩),
  (96, ⟨.func, 1, 8, [.nilF]⟩),
  (97, ⟨.func, 1, 8, [.nilF]⟩),
  (98, ⟨.func, 1, 8, [.nilF]⟩),
  (99, ⟨.func, 1, 8, [.nilF]⟩),
  (100, ⟨.func, 1, 8, [.nilF]⟩),
  (101, ⟨.func, 1, 8, [.nilF]⟩),
  (102, ⟨.func, 1, 8, [.nilF]⟩),
  (103, ⟨.ptr 107, 1, 8, [.nilp]⟩),
  (105, ⟨.func, 1, 8, [.nilF]⟩),
  (106, ⟨.opq, 2, 24, [.int .i64 0, .nilI]⟩),
  (107, ⟨.opq, 2, 24, [.int .i64 0, .nilI]⟩),
  (108, ⟨.slice 26, 1, 24, [.nsl]⟩),
  (109, ⟨.func, 1, 8, [.nilF]⟩),
  (110, ⟨.func, 1, 8, [.nilF]⟩),
  (111, ⟨.ptr 135, 1, 8, [.nilp]⟩),
  (112, ⟨.func, 1, 8, [.nilF]⟩),
  (113, ⟨.opq, 4, 40, [.nilp, .nilp, .nilp, .str ByteArray.empty]⟩),
  (114, ⟨.opq, 4, 40, [.nilp, .nilp, .nilp, .str ByteArray.empty]⟩),
  (115, ⟨.arr 0 16, 0, 0, []⟩),
  (116, ⟨.opq, 0, 0, []⟩),
  (117, ⟨.opq, 0, 0, []⟩),
  (118, ⟨.int .u32, 1, 4, [.int .u32 0]⟩),
  (119, ⟨.int .u8, 1, 1, [.int .u8 0]⟩),
  (120, ⟨.int .u8, 1, 1, [.int .u8 0]⟩),
  (121, ⟨.func, 1, 8, [.nilF]⟩),
  (122, ⟨.ptr 5, 1, 8, [.nilp]⟩),
  (123, ⟨.int .i32, 1, 4, [.int .i32 0]⟩),
  (124, ⟨.int .i32, 1, 4, [.int .i32 0]⟩),
  (125, ⟨.opq, 11, 48, [.int .u64 0, .int .u64 0, .int .u32 0, .int .u8 0, .int .u8 0, .int .u8 0, .int .u8 0, .nilF, .nilp, .int .i32 0, .int .i32 0]⟩),
  (126, ⟨.opq, 11, 48, [.int .u64 0, .int .u64 0, .int .u32 0, .int .u8 0, .int .u8 0, .int .u8 0, .int .u8 0, .nilF, .nilp, .int .i32 0, .int .i32 0]⟩),
  (127, ⟨.func, 1, 8, [.nilF]⟩),
  (128, ⟨.func, 1, 8, [.nilF]⟩),
  (129, ⟨.func, 1, 8, [.nilF]⟩),
  (130, ⟨.func, 1, 8, [.nilF]⟩),
  (131, ⟨.func, 1, 8, [.nilF]⟩),
  (132, ⟨.func, 1, 8, [.nilF]⟩),
  (133, ⟨.func, 1, 8, [.nilF]⟩),
  (134, ⟨.strct [(0, 9)], 1, 16, [.str ByteArray.empty]⟩),
  (135, ⟨.strct [(0, 9)], 1, 16, [.str ByteArray.empty]⟩),
  (137, ⟨.func, 1, 8, [.nilF]⟩),
  (138, ⟨.func, 1, 8, [.nilF]⟩),
  (139, ⟨.func, 1, 8, [.nilF]⟩),
  (140, ⟨.func, 1, 8, [.nilF]⟩),
  (141, ⟨.func, 1, 8, [.nilF]⟩),
  (142, ⟨.func, 1, 8, [.nilF]⟩),
  (143, ⟨.func, 1, 8, [.nilF]⟩),
  (144, ⟨.func, 1, 8, [.nilF]⟩),
  (145, ⟨.func, 1, 8, [.nilF]⟩),
  (146, ⟨.func, 1, 8, [.nilF]⟩)]
noncomputable def L (t : Nat) : Option TI := aget t Ls
@[simp] theorem L1 : L 1 = some ⟨.func, 1, 8, [.nilF]⟩ := by kernel_rfl
@[simp] theorem L2 : L 2 = some ⟨.int .i64, 1, 8, [.int .i64 0]⟩ := by kernel_rfl
@[simp] theorem L3 : L 3 = some ⟨.int .i64, 1, 8, [.int .i64 0]⟩ := by kernel_rfl
@[simp] theorem L4 : L 4 = some ⟨.bool, 1, 1, [.bool false]⟩ := by kernel_rfl
@[simp] theorem L5 : L 5 = some ⟨.int .u8, 1, 1, [.int .u8 0]⟩ := by kernel_rfl
@[simp] theorem L6 : L 6 = some ⟨.int .u8, 1, 1, [.int .u8 0]⟩ := by kernel_rfl
@[simp] theorem L7 : L 7 = some ⟨.strct [(0, 2), (1, 3), (2, 4), (3, 6)], 4, 24, [.int .i64 0, .int .i64 0, .bool false, .int .u8 0]⟩ := by kernel_rfl
@[simp] theorem L8 : L 8 = some ⟨.strct [(0, 2), (1, 3), (2, 4), (3, 6)], 4, 24, [.int .i64 0, .int .i64 0, .bool false, .int .u8 0]⟩ := by kernel_rfl
@[simp] theorem L9 : L 9 = some ⟨.str, 1, 16, [.str ByteArray.empty]⟩ := by kernel_rfl
@[simp] theorem L10 : L 10 = some ⟨.str, 1, 16, [.str ByteArray.empty]⟩ := by kernel_rfl
@[simp] theorem L11 : L 11 = some ⟨.str, 1, 16, [.str ByteArray.empty]⟩ := by kernel_rfl
@[simp] theorem L12 : L 12 = some ⟨.int .u64, 1, 8, [.int .u64 0]⟩ := by kernel_rfl
@[simp] theorem L13 : L 13 = some ⟨.opq, 2, 24, [.str ByteArray.empty, .int .u64 0]⟩ := by kernel_rfl
@[simp] theorem L14 : L 14 = some ⟨.opq, 2, 24, [.str ByteArray.empty, .int .u64 0]⟩ := by kernel_rfl
@[simp] theorem L15 : L 15 = some ⟨.ptr 114, 1, 8, [.nilp]⟩ := by kernel_rfl
@[simp] theorem L16 : L 16 = some ⟨.ptr 117, 1, 8, [.nilp]⟩ := by kernel_rfl
@[simp] theorem L17 : L 17 = some ⟨.ptr 126, 1, 8, [.nilp]⟩ := by kernel_rfl
@[simp] theorem L18 : L 18 = some ⟨.opq, 1, 8, [.nilp]⟩ := by kernel_rfl
@[simp] theorem L19 : L 19 = some ⟨.opq, 1, 8, [.nilp]⟩ := by kernel_rfl
@[simp] theorem L20 : L 20 = some ⟨.iface, 1, 16, [.nilI]⟩ := by kernel_rfl
@[simp] theorem L21 : L 21 = some ⟨.int .i32, 1, 4, [.int .i32 0]⟩ := by kernel_rfl
@[simp] theorem L22 : L 22 = some ⟨.slice 3, 1, 24, [.nsl]⟩ := by kernel_rfl
@[simp] theorem L23 : L 23 = some ⟨.func, 1, 8, [.nilF]⟩ := by kernel_rfl
@[simp] theorem L24 : L 24 = some ⟨.ptr 73, 1, 8, [.nilp]⟩ := by kernel_rfl
@[simp] theorem L25 : L 25 = some ⟨.iface, 1, 16, [.nilI]⟩ := by kernel_rfl
@[simp] theorem L26 : L 26 = some ⟨.iface, 1, 16, [.nilI]⟩ := by kernel_rfl
@[simp] theorem L28 : L 28 = some ⟨.func, 1, 8, [.nilF]⟩ := by kernel_rfl
@[simp] theorem L29 : L 29 = some ⟨.slice 9, 1, 24, [.nsl]⟩ := by kernel_rfl
@[simp] theorem L30 : L 30 = some ⟨.func, 1, 8, [.nilF]⟩ := by kernel_rfl
@[simp] theorem L32 : L 32 = some ⟨.func, 1, 8, [.nilF]⟩ := by kernel_rfl
@[simp] theorem L33 : L 33 = some ⟨.func, 1, 8, [.nilF]⟩ := by kernel_rfl
@[simp] theorem L35 : L 35 = some ⟨.func, 1, 8, [.nilF]⟩ := by kernel_rfl
@[simp] theorem L36 : L 36 = some ⟨.func, 1, 8, [.nilF]⟩ := by kernel_rfl
@[simp] theorem L37 : L 37 = some ⟨.func, 1, 8, [.nilF]⟩ := by kernel_rfl
@[simp] theorem L38 : L 38 = some ⟨.ptr 77, 1, 8, [.nilp]⟩ := by kernel_rfl
@[simp] theorem L40 : L 40 = some ⟨.func, 1, 8, [.nilF]⟩ := by kernel_rfl
@[simp] theorem L41 : L 41 = some ⟨.func, 1, 8, [.nilF]⟩ := by kernel_rfl
@[simp] theorem L42 : L 42 = some ⟨.func, 1, 8, [.nilF]⟩ := by kernel_rfl
@[simp] theorem L43 : L 43 = some ⟨.func, 1, 8, [.nilF]⟩ := by kernel_rfl
@[simp] theorem L45 : L 45 = some ⟨.func, 1, 8, [.nilF]⟩ := by kernel_rfl
@[simp] theorem L46 : L 46 = some ⟨.func, 1, 8, [.nilF]⟩ := by kernel_rfl
@[simp] theorem L47 : L 47 = some ⟨.ptr 82, 1, 8, [.nilp]⟩ := by kernel_rfl
@[simp] theorem L49 : L 49 = some ⟨.func, 1, 8, [.nilF]⟩ := by kernel_rfl
@[simp] theorem L50 : L 50 = some ⟨.func, 1, 8, [.nilF]⟩ := by kernel_rfl
@[simp] theorem L51 : L 51 = some ⟨.func, 1, 8, [.nilF]⟩ := by kernel_rfl
@[simp] theorem L52 : L 52 = some ⟨.func, 1, 8, [.nilF]⟩ := by kernel_rfl
@[simp] theorem L53 : L 53 = some ⟨.func, 1, 8, [.nilF]⟩ := by kernel_rfl
@[simp] theorem L54 : L 54 = some ⟨.func, 1, 8, [.nilF]⟩ := by kernel_rfl
@[simp] theorem L55 : L 55 = some ⟨.func, 1, 8, [.nilF]⟩ := by kernel_rfl
@[simp] theorem L56 : L 56 = some ⟨.slice 66, 1, 24, [.nsl]⟩ := by kernel_rfl
@[simp] theorem L57 : L 57 = some ⟨.ptr 86, 1, 8, [.nilp]⟩ := by kernel_rfl
@[simp] theorem L59 : L 59 = some ⟨.func, 1, 8, [.nilF]⟩ := by kernel_rfl
@[simp] theorem L60 : L 60 = some ⟨.func, 1, 8, [.nilF]⟩ := by kernel_rfl
@[simp] theorem L61 : L 61 = some ⟨.func, 1, 8, [.nilF]⟩ := by kernel_rfl
@[simp] theorem L62 : L 62 = some ⟨.ptr 64, 1, 8, [.nilp]⟩ := by kernel_rfl
@[simp] theorem L63 : L 63 = some ⟨.strct [(0, 3), (1, 22), (2, 29), (3, 4), (4, 3)], 5, 72, [.int .i64 0, .nsl, .nsl, .bool false, .int .i64 0]⟩ := by kernel_rfl
@[simp] theorem L64 : L 64 = some ⟨.strct [(0, 3), (1, 22), (2, 29), (3, 4), (4, 3)], 5, 72, [.int .i64 0, .nsl, .nsl, .bool false, .int .i64 0]⟩ := by kernel_rfl
@[simp] theorem L65 : L 65 = some ⟨.strct [(0, 3), (1, 3), (2, 9)], 3, 32, [.int .i64 0, .int .i64 0, .str ByteArray.empty]⟩ := by kernel_rfl
@[simp] theorem L66 : L 66 = some ⟨.strct [(0, 3), (1, 3), (2, 9)], 3, 32, [.int .i64 0, .int .i64 0, .str ByteArray.empty]⟩ := by kernel_rfl
@[simp] theorem L67 : L 67 = some ⟨.func, 1, 8, [.nilF]⟩ := by kernel_rfl
@[simp] theorem L68 : L 68 = some ⟨.func, 1, 8, [.nilF]⟩ := by kernel_rfl
@[simp] theorem L69 : L 69 = some ⟨.func, 1, 8, [.nilF]⟩ := by kernel_rfl
@[simp] theorem L70 : L 70 = some ⟨.func, 1, 8, [.nilF]⟩ := by kernel_rfl
@[simp] theorem L71 : L 71 = some ⟨.map 9 3, 1, 8, [.nilM]⟩ := by kernel_rfl
@[simp] theorem L72 : L 72 = some ⟨.strct [(0, 3), (1, 71), (2, 29), (3, 9), (4, 4)], 5, 64, [.int .i64 0, .nilM, .nsl, .str ByteArray.empty, .bool false]⟩ := by kernel_rfl
@[simp] theorem L73 : L 73 = some ⟨.strct [(0, 3), (1, 71), (2, 29), (3, 9), (4, 4)], 5, 64, [.int .i64 0, .nilM, .nsl, .str ByteArray.empty, .bool false]⟩ := by kernel_rfl
@[simp] theorem L74 : L 74 = some ⟨.func, 1, 8, [.nilF]⟩ := by kernel_rfl
@[simp] theorem L75 : L 75 = some ⟨.map 3 4, 1, 8, [.nilM]⟩ := by kernel_rfl
@[simp] theorem L76 : L 76 = some ⟨.strct [(0, 3), (1, 75), (2, 22), (3, 3), (4, 4)], 5, 56, [.int .i64 0, .nilM, .nsl, .int .i64 0, .bool false]⟩ := by kernel_rfl
@[simp] theorem L77 : L 77 = some ⟨.strct [(0, 3), (1, 75), (2, 22), (3, 3), (4, 4)], 5, 56, [.int .i64 0, .nilM, .nsl, .int .i64 0, .bool false]⟩ := by kernel_rfl
@[simp] theorem L78 : L 78 = some ⟨.func, 1, 8, [.nilF]⟩ := by kernel_rfl
@[simp] theorem L79 : L 79 = some ⟨.func, 1, 8, [.nilF]⟩ := by kernel_rfl
@[simp] theorem L80 : L 80 = some ⟨.map 3 3, 1, 8, [.nilM]⟩ := by kernel_rfl
@[simp] theorem L81 : L 81 = some ⟨.strct [(0, 3), (1, 80), (2, 22), (3, 3), (4, 4)], 5, 56, [.int .i64 0, .nilM, .nsl, .int .i64 0, .bool false]⟩ := by kernel_rfl
@[simp] theorem L82 : L 82 = some ⟨.strct [(0, 3), (1, 80), (2, 22), (3, 3), (4, 4)], 5, 56, [.int .i64 0, .nilM, .nsl, .int .i64 0, .bool false]⟩ := by kernel_rfl
@[simp] theorem L83 : L 83 = some ⟨.func, 1, 8, [.nilF]⟩ := by kernel_rfl
@[simp] theorem L84 : L 84 = some ⟨.map 3 9, 1, 8, [.nilM]⟩ := by kernel_rfl
@[simp] theorem L85 : L 85 = some ⟨.strct [(0, 3), (1, 84), (2, 22), (3, 3), (4, 4)], 5, 56, [.int .i64 0, .nilM, .nsl, .int .i64 0, .bool false]⟩ := by kernel_rfl
@[simp] theorem L86 : L 86 = some ⟨.strct [(0, 3), (1, 84), (2, 22), (3, 3), (4, 4)], 5, 56, [.int .i64 0, .nilM, .nsl, .int .i64 0, .bool false]⟩ := by kernel_rfl
@[simp] theorem L87 : L 87 = some ⟨.func, 1, 8, [.nilF]⟩ := by kernel_rfl
@[simp] theorem L88 : L 88 = some ⟨.strct [(0, 3), (1, 4), (2, 3)], 3, 24, [.int .i64 0, .bool false, .int .i64 0]⟩ := by kernel_rfl
@[simp] theorem L89 : L 89 = some ⟨.strct [(0, 3), (1, 4), (2, 3)], 3, 24, [.int .i64 0, .bool false, .int .i64 0]⟩ := by kernel_rfl
@[simp] theorem L90 : L 90 = some ⟨.func, 1, 8, [.nilF]⟩ := by kernel_rfl
@[simp] theorem L91 : L 91 = some ⟨.func, 1, 8, [.nilF]⟩ := by kernel_rfl
@[simp] theorem L92 : L 92 = some ⟨.func, 1, 8, [.nilF]⟩ := by kernel_rfl
@[simp] theorem L93 : L 93 = some ⟨.func, 1, 8, [.nilF]⟩ := by kernel_rfl
@[simp] theorem L94 : L 94 = some ⟨.func, 1, 8, [.nilF]⟩ := by kernel_rfl
@[simp] theorem L95 : L 95 = some ⟨.func, 1, 8, [.nilF]⟩ := by kernel_rfl
@[simp] theorem L96 : L 96 = some ⟨.func, 1, 8, [.nilF]⟩ := by kernel_rfl
@[simp] theorem L97 : L 97 = some ⟨.func, 1, 8, [.nilF]⟩ := by kernel_rfl
@[simp] theorem L98 : L 98 = some ⟨.func, 1, 8, [.nilF]⟩ := by kernel_rfl
@[simp] theorem L99 : L 99 = some ⟨.func, 1, 8, [.nilF]⟩ := by kernel_rfl
@[simp] theorem L100 : L 100 = some ⟨.func, 1, 8, [.nilF]⟩ := by kernel_rfl
@[simp] theorem L101 : L 101 = some ⟨.func, 1, 8, [.nilF]⟩ := by kernel_rfl
@[simp] theorem L102 : L 102 = some ⟨.func, 1, 8, [.nilF]⟩ := by kernel_rfl
@[simp] theorem L103 : L 103 = some ⟨.ptr 107, 1, 8, [.nilp]⟩ := by kernel_rfl
@[simp] theorem L105 : L 105 = some ⟨.func, 1, 8, [.nilF]⟩ := by kernel_rfl
@[simp] theorem L106 : L 106 = some ⟨.opq, 2, 24, [.int .i64 0, .nilI]⟩ := by kernel_rfl
@[simp] theorem L107 : L 107 = some ⟨.opq, 2, 24, [.int .i64 0, .nilI]⟩ := by kernel_rfl
@[simp] theorem L108 : L 108 = some ⟨.slice 26, 1, 24, [.nsl]⟩ := by kernel_rfl
@[simp] theorem L109 : L 109 = some ⟨.func, 1, 8, [.nilF]⟩ := by kernel_rfl
@[simp] theorem L110 : L 110 = some ⟨.func, 1, 8, [.nilF]⟩ := by kernel_rfl
@[simp] theorem L111 : L 111 = some ⟨.ptr 135, 1, 8, [.nilp]⟩ := by kernel_rfl
@[simp] theorem L112 : L 112 = some ⟨.func, 1, 8, [.nilF]⟩ := by kernel_rfl
@[simp] theorem L113 : L 113 = some ⟨.opq, 4, 40, [.nilp, .nilp, .nilp, .str ByteArray.empty]⟩ := by kernel_rfl
@[simp] theorem L114 : L 114 = some ⟨.opq, 4, 40, [.nilp, .nilp, .nilp, .str ByteArray.empty]⟩ := by kernel_rfl
@[simp] theorem L115 : L 115 = some ⟨.arr 0 16, 0, 0, []⟩ := by kernel_rfl
@[simp] theorem L116 : L 116 = some ⟨.opq, 0, 0, []⟩ := by kernel_rfl
@[simp] theorem L117 : L 117 = some ⟨.opq, 0, 0, []⟩ := by kernel_rfl
@[simp] theorem L118 : L 118 = some ⟨.int .u32, 1, 4, [.int .u32 0]⟩ := by kernel_rfl
@[simp] theorem L119 : L 119 = some ⟨.int .u8, 1, 1, [.int .u8 0]⟩ := by kernel_rfl
@[simp] theorem L120 : L 120 = some ⟨.int .u8, 1, 1, [.int .u8 0]⟩ := by kernel_rfl
@[simp] theorem L121 : L 121 = some ⟨.func, 1, 8, [.nilF]⟩ := by kernel_rfl
@[simp] theorem L122 : L 122 = some ⟨.ptr 5, 1, 8, [.nilp]⟩ := by kernel_rfl
@[simp] theorem L123 : L 123 = some ⟨.int .i32, 1, 4, [.int .i32 0]⟩ := by kernel_rfl
@[simp] theorem L124 : L 124 = some ⟨.int .i32, 1, 4, [.int .i32 0]⟩ := by kernel_rfl
@[simp] theorem L125 : L 125 = some ⟨.opq, 11, 48, [.int .u64 0, .int .u64 0, .int .u32 0, .int .u8 0, .int .u8 0, .int .u8 0, .int .u8 0, .nilF, .nilp, .int .i32 0, .int .i32 0]⟩ := by kernel_rfl
@[simp] theorem L126 : L 126 = some ⟨.opq, 11, 48, [.int .u64 0, .int .u64 0, .int .u32 0, .int .u8 0, .int .u8 0, .int .u8 0, .int .u8 0, .nilF, .nilp, .int .i32 0, .int .i32 0]⟩ := by kernel_rfl
@[simp] theorem L127 : L 127 = some ⟨.func, 1, 8, [.nilF]⟩ := by kernel_rfl
@[simp] theorem L128 : L 128 = some ⟨.func, 1, 8, [.nilF]⟩ := by kernel_rfl
@[simp] theorem L129 : L 129 = some ⟨.func, 1, 8, [.nilF]⟩ := by kernel_rfl
@[simp] theorem L130 : L 130 = some ⟨.func, 1, 8, [.nilF]⟩ := by kernel_rfl
@[simp] theorem L131 : L 131 = some ⟨.func, 1, 8, [.nilF]⟩ := by kernel_rfl
@[simp] theorem L132 : L 132 = some ⟨.func, 1, 8, [.nilF]⟩ := by kernel_rfl
@[simp] theorem L133 : L 133 = some ⟨.func, 1, 8, [.nilF]⟩ := by kernel_rfl
@[simp] theorem L134 : L 134 = some ⟨.strct [(0, 9)], 1, 16, [.str ByteArray.empty]⟩ := by kernel_rfl
@[simp] theorem L135 : L 135 = some ⟨.strct [(0, 9)], 1, 16, [.str ByteArray.empty]⟩ := by kernel_rfl
@[simp] theorem L137 : L 137 = some ⟨.func, 1, 8, [.nilF]⟩ := by kernel_rfl
@[simp] theorem L138 : L 138 = some ⟨.func, 1, 8, [.nilF]⟩ := by kernel_rfl
@[simp] theorem L139 : L 139 = some ⟨.func, 1, 8, [.nilF]⟩ := by kernel_rfl
@[simp] theorem L140 : L 140 = some ⟨.func, 1, 8, [.nilF]⟩ := by kernel_rfl
@[simp] theorem L141 : L 141 = some ⟨.func, 1, 8, [.nilF]⟩ := by kernel_rfl
@[simp] theorem L142 : L 142 = some ⟨.func, 1, 8, [.nilF]⟩ := by kernel_rfl
@[simp] theorem L143 : L 143 = some ⟨.func, 1, 8, [.nilF]⟩ := by kernel_rfl
@[simp] theorem L144 : L 144 = some ⟨.func, 1, 8, [.nilF]⟩ := by kernel_rfl
@[simp] theorem L145 : L 145 = some ⟨.func, 1, 8, [.nilF]⟩ := by kernel_rfl
@[simp] theorem L146 : L 146 = some ⟨.func, 1, 8, [.nilF]⟩ := by kernel_rfl
noncomputable def a2 : AFn := mkA Tryd.f2 [] [] [] [] [] [] [] []
noncomputable def a3 : AFn := mkA Tryd.f3 [1, 4, 5, 6, 7, 8, 9, 10, 11, 12, 13, 14, 15, 16, 17, 18, 21, 24, 35, 54, 83, 93, 112] [(14, [0, 1, 5, 6, 8, 9], [27, 36])] [] [] [] [] [] [27, 44, 50, 69, 78, 110, 114, 117, 122, 146]
noncomputable def a4 : AFn := mkA Tryd.f4 [0, 2, 6, 7, 8, 9, 10, 11, 12, 13, 14, 16, 17, 19, 22, 30, 42, 52, 89, 90, 102, 108, 118] [(14, [0, 1, 2, 7, 8, 10], [34]), (24, [0, 1, 2, 7, 8, 10, 11, 12, 13, 17], [34, 56, 65])] [] [] [] [] [] [34, 45, 48, 56, 65, 71, 78, 114]
noncomputable def a5 : AFn := mkA Tryd.f5 [0, 5, 6, 7, 8, 9, 10, 11, 12, 13, 14, 15, 16, 17, 18, 19, 20, 21, 24, 30, 42, 46, 64, 72, 87, 91, 127, 135] [(12, [0, 1, 5, 7, 8, 10, 11], [5, 8, 10, 13, 34, 79, 83]), (18, [0, 1, 5, 7, 8, 10, 11, 12, 13, 14], [5, 8, 10, 13, 34, 79, 83])] [13] [] [(138, [49]), (141, [46]), (142, [31]), (147, [64]), (148, [31]), (150, [16]), (151, []), (157, [25]), (158, [102, 474, 27000002]), (159, [31]), (160, [39, 102, 237, 249, 474, 27000002, 33000001])] [] [] [34, 60, 91, 112, 127, 158]
noncomputable def a6 : AFn := mkA Tryd.f6 [4, 5, 6, 7, 8, 9, 10, 11, 12, 13, 14, 15, 16, 17, 18, 19, 20, 23, 34, 54, 70, 82, 88, 115, 116, 139, 140, 177] [(11, [1, 5, 6, 8, 9], [26, 66])] [] [] [(155, [78, 465]), (159, [199]), (164, [78, 492]), (168, [199]), (169, [78, 492, 201000004]), (174, [78, 234, 522])] [] [] [26, 78, 80, 84, 96, 105, 122, 129, 145, 155, 164, 174]
noncomputable def a7 : AFn := mkA Tryd.f7 [0, 1, 2] [] [] [] [] [] [] [4, 15]
noncomputable def a8 : AFn := mkA Tryd.f8 [2, 3, 9] [] [] [] [(1000000000, [])] [] [] []
noncomputable def a9 : AFn := mkA Tryd.f9 [4, 5, 10] [] [] [] [] [] [] []
noncomputable def a10 : AFn := mkA Tryd.f10 [6, 7, 8, 9, 38] [] [] [] [] [] [] [12, 26, 42, 45]
noncomputable def a11 : AFn := mkA Tryd.f11 [] [] [] [] [] [] [] []
noncomputable def a12 : AFn := mkA Tryd.f12 [4, 5, 6, 7] [] [] [] [] [] [] []
noncomputable def a13 : AFn := mkA Tryd.f13 [2] [] [] [] [] [] [] []
noncomputable def a14 : AFn := mkA Tryd.f14 [] [] [] [] [] [] [] []
noncomputable def a15 : AFn := mkA Tryd.f15 [2, 3, 9] [] [] [] [(1000000000, [])] [] [] []
noncomputable def a16 : AFn := mkA Tryd.f16 [6, 7, 8, 9, 38] [] [] [] [] [] [] [12, 26, 42, 45]
noncomputable def a17 : AFn := mkA Tryd.f17 [] [] [] [] [] [] [] []
noncomputable def a18 : AFn := mkA Tryd.f18 [2] [] [2] [] [] [] [] []
noncomputable def a19 : AFn := mkA Tryd.f19 [4, 5, 6, 7] [] [] [] [] [] [] []
noncomputable def a20 : AFn := mkA Tryd.f20 [2] [] [] [] [] [] [] []
noncomputable def a21 : AFn := mkA Tryd.f21 [2, 3, 9] [] [] [] [(1000000000, [])] [] [] []
noncomputable def a22 : AFn := mkA Tryd.f22 [6, 7, 8, 9, 38] [] [] [] [] [] [] [12, 26, 42, 45]
noncomputable def a23 : AFn := mkA Tryd.f23 [1, 2] [] [] [] [] [] [] []
noncomputable def a24 : AFn := mkA Tryd.f24 [4, 5, 6, 7] [] [] [] [] [] [] []
noncomputable def a25 : AFn := mkA Tryd.f25 [4, 5, 6, 11, 15, 28] [(4, [0, 1, 5], [])] [] [] [] [] [] []
noncomputable def a26 : AFn := mkA Tryd.f26 [2] [] [2] [] [] [] [] []
noncomputable def a27 : AFn := mkA Tryd.f27 [2, 3, 9] [] [] [] [(1000000000, [])] [] [] []
noncomputable def a28 : AFn := mkA Tryd.f28 [4] [] [] [] [] [] [] []
noncomputable def a29 : AFn := mkA Tryd.f29 [2, 3, 4, 8] [(3, [0, 3, 4], [])] [] [] [] [] [] []
noncomputable def a30 : AFn := mkA Tryd.f30 [2] [] [] [] [(6, [1]), (10, [1]), (11, [33, 4500004]), (15, [1]), (16, [3000007]), (20, [1]), (24, [1])] [] [] [11]
noncomputable def a31 : AFn := mkA Tryd.f31 [2] [] [] [] [] [] [] []
noncomputable def a32 : AFn := mkA Tryd.f32 [6, 7, 8, 9, 38] [] [] [] [] [] [] [12, 26, 42, 45]
noncomputable def a33 : AFn := mkA Tryd.f33 [6, 7, 8, 9, 10, 11, 16, 49, 63, 84] [(10, [0, 9, 10], [0, 1, 2, 27, 37])] [] [] [] [] [] [14, 19, 27, 37, 95]
noncomputable def a34 : AFn := mkA Tryd.f34 [4, 5, 6, 7] [] [] [] [] [] [] []
noncomputable def a35 : AFn := mkA Tryd.f35 [4, 5, 6, 11] [] [] [] [] [] [] [9]
noncomputable def a36 : AFn := mkA Tryd.f36 [] [] [] [] [] [] [] []
noncomputable def a37 : AFn := mkA Tryd.f37 [] [] [] [] [] [] [] []
noncomputable def a38 : AFn := mkA Tryd.f38 [2] [] [2] [] [] [] [] []
noncomputable def a39 : AFn := mkA Tryd.f39 [3] [] [] [] [] [] [] [15]
noncomputable def a40 : AFn := mkA Tryd.f40 [4, 6, 10, 11, 12, 13, 33] [(2, [0, 1, 10, 11, 12], [0, 1])] [] [] [] [] [] []
noncomputable def a41 : AFn := mkA Tryd.f41 [3] [] [] [] [] [] [] [15]
noncomputable def a42 : AFn := mkA Tryd.f42 [4, 6, 10, 11, 12, 13, 33] [(2, [0, 1, 10, 11, 12], [0, 1])] [] [] [] [] [] []
noncomputable def a43 : AFn := mkA Tryd.f43 [2, 4] [] [2] [] [] [] [] []
noncomputable def a44 : AFn := mkA Tryd.f44 [3] [] [] [] [] [] [] [15]
noncomputable def a45 : AFn := mkA Tryd.f45 [4, 6, 10, 11, 12, 13, 33] [(2, [0, 1, 10, 11, 12], [0, 1])] [] [] [] [] [] []
noncomputable def a46 : AFn := mkA Tryd.f46 [4, 5, 6, 8, 9, 10, 11, 30] [(1, [0, 1, 8, 9, 10], [0, 1, 8])] [] [] [] [] [] [8]
noncomputable def a47 : AFn := mkA Tryd.f47 [3, 4] [] [] [] [(6, []), (7, [10]), (8, [])] [] [] []
noncomputable def a48 : AFn := mkA Tryd.f48 [2] [] [] [] [] [] [] []
noncomputable def a49 : AFn := mkA Tryd.f49 [2, 4] [] [] [] [] [] [] [7]
noncomputable def a50 : AFn := mkA Tryd.f50 [3] [] [] [] [] [] [] [15]
noncomputable def a51 : AFn := mkA Tryd.f51 [4, 6, 10, 11, 12, 13, 33] [(2, [0, 1, 10, 11, 12], [0, 1])] [] [] [] [] [] []
noncomputable def a52 : AFn := mkA Tryd.f52 [4, 5, 12, 23] [(2, [0, 1, 5], [0, 1])] [] [] [] [] [] []
noncomputable def a53 : AFn := mkA Tryd.f53 [4, 5] [] [12, 19] [] [] [] [] [29, 41]
noncomputable def a54 : AFn := mkA Tryd.f54 [4, 5, 6, 7, 12, 19, 29] [(5, [0, 1, 5, 6], [0, 1])] [4] [] [] [] [] [10]
noncomputable def a55 : AFn := mkA Tryd.f55 [3] [] [] [] [] [] [] []
noncomputable def a56 : AFn := mkA Tryd.f56 [4, 5, 6, 7, 12, 19, 29] [(5, [0, 1, 5, 6], [0, 1])] [4] [] [] [] [] [10]
noncomputable def a57 : AFn := mkA Tryd.f57 [3] [] [] [] [] [] [] []
noncomputable def a58 : AFn := mkA Tryd.f58 [3] [] [] [] [] [] [] []
noncomputable def a59 : AFn := mkA Tryd.f59 [2, 3, 4] [] [] [] [] [] [] []
noncomputable def a60 : AFn := mkA Tryd.f60 [2, 3, 4, 6, 14, 26] [] [] [] [(31, []), (32, []), (36, [])] [(2, 2)] [] []
noncomputable def a62 : AFn := mkA Tryd.f62 [3] [] [] [] [] [] [] []
noncomputable def a63 : AFn := mkA Tryd.f63 [2, 3, 4, 11] [(3, [0, 3, 4], [7, 20])] [2] [] [] [] [] []
noncomputable def a64 : AFn := mkA Tryd.f64 [2, 3, 4, 11] [(3, [0, 3, 4], [7, 20])] [2] [] [] [] [] []
noncomputable def a65 : AFn := mkA Tryd.f65 [4, 5, 7, 8, 9, 16] [(2, [0, 1, 7, 8], [0, 1])] [] [] [] [] [] []
noncomputable def a66 : AFn := mkA Tryd.f66 [4, 5, 7, 8, 9, 16] [(2, [0, 1, 7, 8], [0, 1])] [] [] [] [] [] []
noncomputable def a67 : AFn := mkA Tryd.f67 [0] [] [] [] [] [] [] []
noncomputable def a68 : AFn := mkA Tryd.f68 [2, 3, 4, 9, 17] [(3, [0, 3, 4], [5])] [] [] [] [] [] [5]
noncomputable def a69 : AFn := mkA Tryd.f69 [0] [] [0] [] [(1000000000, []), (1000000001, []), (1000000002, []), (1000000003, []), (1000000004, []), (1000000005, [])] [] [] []
noncomputable def a70 : AFn := mkA Tryd.f70 [4, 10] [] [] [] [] [] [] []
noncomputable def a100 : AFn := mkA Tryd.f100 [2] [] [] [] [] [] [] []
noncomputable def a109 : AFn := mkA Tryd.f109 [] [] [] [] [] [] [] [0, 1, 2, 3, 4, 5]

noncomputable def Ts : List (Nat × AFn) := [(2, a2), (3, a3), (4, a4), (5, a5), (6, a6), (7, a7), (8, a8), (9, a9), (10, a10), (11, a11), (12, a12), (13, a13), (14, a14), (15, a15), (16, a16), (17, a17), (18, a18), (19, a19), (20, a20), (21, a21), (22, a22), (23, a23), (24, a24), (25, a25), (26, a26), (27, a27), (28, a28), (29, a29), (30, a30), (31, a31), (32, a32), (33, a33), (34, a34), (35, a35), (36, a36), (37, a37), (38, a38), (39, a39), (40, a40), (41, a41), (42, a42), (43, a43), (44, a44), (45, a45), (46, a46), (47, a47), (48, a48), (49, a49), (50, a50), (51, a51), (52, a52), (53, a53), (54, a54), (55, a55), (56, a56), (57, a57), (58, a58), (59, a59), (60, a60), (62, a62), (63, a63), (64, a64), (65, a65), (66, a66), (67, a67), (68, a68), (69, a69), (70, a70), (100, a100), (109, a109)]
theorem Ts_ok : ∀ p ∈ Ts, FnOK Tryd.prog L p.1 p.2 := by
  intro p hp
  simp only [Ts, List.mem_cons, List.not_mem_nil, or_false] at hp
  rcases hp with rfl | rfl | rfl | rfl | rfl | rfl | rfl | rfl | rfl | rfl | rfl | rfl | rfl | rfl | rfl | rfl | rfl | rfl | rfl | rfl | rfl | rfl | rfl | rfl | rfl | rfl | rfl | rfl | rfl | rfl | rfl | rfl | rfl | rfl | rfl | rfl | rfl | rfl | rfl | rfl | rfl | rfl | rfl | rfl | rfl | rfl | rfl | rfl | rfl | rfl | rfl | rfl | rfl | rfl | rfl | rfl | rfl | rfl | rfl | rfl | rfl | rfl | rfl | rfl | rfl | rfl | rfl | rfl | rfl | rfl
  · exact mkA_ok Tryd.func2 (by kernel_rfl)
  · exact mkA_ok Tryd.func3 (by kernel_rfl)
  · exact mkA_ok Tryd.func4 (by kernel_rfl)
  · exact mkA_ok Tryd.func5 (by kernel_rfl)
  · exact mkA_ok Tryd.func6 (by kernel_rfl)
  · exact mkA_ok Tryd.func7 (by kernel_rfl)
  · exact mkA_ok Tryd.func8 (by kernel_rfl)
  · exact mkA_ok Tryd.func9 (by kernel_rfl)
  · exact mkA_ok Tryd.func10 (by kernel_rfl)
  · exact mkA_ok Tryd.func11 (by kernel_rfl)
  · exact mkA_ok Tryd.func12 (by kernel_rfl)
  · exact mkA_ok Tryd.func13 (by kernel_rfl)
  · exact mkA_ok Tryd.func14 (by kernel_rfl)
  · exact mkA_ok Tryd.func15 (by kernel_rfl)
  · exact mkA_ok Tryd.func16 (by kernel_rfl)
  · exact mkA_ok Tryd.func17 (by kernel_rfl)
  · exact mkA_ok Tryd.func18 (by kernel_rfl)
  · exact mkA_ok Tryd.func19 (by kernel_rfl)
  · exact mkA_ok Tryd.func20 (by kernel_rfl)
  · exact mkA_ok Tryd.func21 (by kernel_rfl)
  · exact mkA_ok Tryd.func22 (by kernel_rfl)
  · exact mkA_ok Tryd.func23 (by kernel_rfl)
  · exact mkA_ok Tryd.func24 (by kernel_rfl)
  · exact mkA_ok Tryd.func25 (by kernel_rfl)
  · exact mkA_ok Tryd.func26 (by kernel_rfl)
  · exact mkA_ok Tryd.func27 (by kernel_rfl)
  · exact mkA_ok Tryd.func28 (by kernel_rfl)
  · exact mkA_ok Tryd.func29 (by kernel_rfl)
  · exact mkA_ok Tryd.func30 (by kernel_rfl)
  · exact mkA_ok Tryd.func31 (by kernel_rfl)
  · exact mkA_ok Tryd.func32 (by kernel_rfl)
  · exact mkA_ok Tryd.func33 (by kernel_rfl)
  · exact mkA_ok Tryd.func34 (by kernel_rfl)
  · exact mkA_ok Tryd.func35 (by kernel_rfl)
  · exact mkA_ok Tryd.func36 (by kernel_rfl)
  · exact mkA_ok Tryd.func37 (by kernel_rfl)
  · exact mkA_ok Tryd.func38 (by kernel_rfl)
  · exact mkA_ok Tryd.func39 (by kernel_rfl)
  · exact mkA_ok Tryd.func40 (by kernel_rfl)
  · exact mkA_ok Tryd.func41 (by kernel_rfl)
  · exact mkA_ok Tryd.func42 (by kernel_rfl)
  · exact mkA_ok Tryd.func43 (by kernel_rfl)
  · exact mkA_ok Tryd.func44 (by kernel_rfl)
  · exact mkA_ok Tryd.func45 (by kernel_rfl)
  · exact mkA_ok Tryd.func46 (by kernel_rfl)
  · exact mkA_ok Tryd.func47 (by kernel_rfl)
  · exact mkA_ok Tryd.func48 (by kernel_rfl)
  · exact mkA_ok Tryd.func49 (by kernel_rfl)
  · exact mkA_ok Tryd.func50 (by kernel_rfl)
  · exact mkA_ok Tryd.func51 (by kernel_rfl)
  · exact mkA_ok Tryd.func52 (by kernel_rfl)
  · exact mkA_ok Tryd.func53 (by kernel_rfl)
  · exact mkA_ok Tryd.func54 (by kernel_rfl)
  · exact mkA_ok Tryd.func55 (by kernel_rfl)
  · exact mkA_ok Tryd.func56 (by kernel_rfl)
  · exact mkA_ok Tryd.func57 (by kernel_rfl)
  · exact mkA_ok Tryd.func58 (by kernel_rfl)
  · exact mkA_ok Tryd.func59 (by kernel_rfl)
  · exact mkA_ok Tryd.func60 (by kernel_rfl)
  · exact mkA_ok Tryd.func62 (by kernel_rfl)
  · exact mkA_ok Tryd.func63 (by kernel_rfl)
  · exact mkA_ok Tryd.func64 (by kernel_rfl)
  · exact mkA_ok Tryd.func65 (by kernel_rfl)
  · exact mkA_ok Tryd.func66 (by kernel_rfl)
  · exact mkA_ok Tryd.func67 (by kernel_rfl)
  · exact mkA_ok Tryd.func68 (by kernel_rfl)
  · exact mkA_ok Tryd.func69 (by kernel_rfl)
  · exact mkA_ok Tryd.func70 (by kernel_rfl)
  · exact mkA_ok Tryd.func100 (by kernel_rfl)
  · exact mkA_ok Tryd.func109 (by kernel_rfl)
set_option maxHeartbeats 2000000 in
theorem mclone_calls49 (b : Nat) (es : Array MapEntry) (clock : Nat) (w : World) (hb : w.heap[b]? = some (.map es clock)) :
    Calls Tryd.prog 49 #[.map (some b)] w fun e w' => e = .returned (.map (some w.heap.size)) ∧ w' = w.alloc (.map es clock) := by
  have hq := fun w => run_eql_mapn (P := Tryd.prog) w 84 _ _ (some b) Tryd.underlying84
  go_enter Tryd.func49, Tryd.ntmps49
  go_wp2
  rw [run_callFunc_extern Tryd.func61 (by kernel_rfl) (by kernel_rfl) (by kernel_rfl) (e := Extern.MapsClone.clone) (by kernel_rfl), run_mclone w 84 hb]
  simp only [Result.andThen]
  rw [Oper.upon_value]
  go_wp2
  rw [run_asrt_map _ 84 _ _ _ _ Tryd.underlying84]
  simp only [Result.andThen]
  rw [Oper.upon_value]
  go_wp2
  go_ret
  exact ⟨rfl, rfl⟩

noncomputable def T : Nat → Option Entry := tabT [(43, cloneLaw 1 8)] [(49, mcloneLaw)] Ts Ts
theorem L_ok : LOK Tryd.prog L := lok (by kernel_rfl)
theorem T_ok : TableOK Tryd.prog L T := tokT (X := [(43, cloneLaw 1 8)]) (Y := [(49, mcloneLaw)]) (Ts := Ts) (Hs := Ts) (by
  intro p hp
  simp only [List.mem_cons, List.not_mem_nil, or_false] at hp
  rcases hp with rfl
  exact clone_ok (by kernel_rfl) L_ok (clone_fn (t := 22) Tryd.func43 (by kernel_rfl) (by kernel_rfl) (by kernel_rfl) (of_decide_eq_true (by kernel_rfl))) (show L 22 = some _ from rfl) rfl (show L 3 = some _ from rfl) rfl rfl (by decide) (by decide) (.inr rfl) rfl) (by
  intro p hp
  simp only [List.mem_cons, List.not_mem_nil, or_false] at hp
  rcases hp with rfl
  exact mclone_ok (show FnOK Tryd.prog L 49 a49 from mkA_ok Tryd.func49 (by kernel_rfl)).enter mclone_calls49) Ts_ok Ts_ok
theorem laid : laidOutB Tryd.prog = true := by kernel_rfl
theorem own : ownKnob Tryd.prog.godebug = none := by kernel_rfl

end Go.Proofs.YtmckiigefkfpaaaDoor
