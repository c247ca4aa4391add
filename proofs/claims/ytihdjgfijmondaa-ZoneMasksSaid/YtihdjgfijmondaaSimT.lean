/- The functions and types of this seat, as the interpreter has them. Written by program (tools/Gen.lean). -/
import Derived.Test.YtihdjgfijmondaaSimTab
import Derived.Test.YtihdjgfijmondaaRows
import Derived.KernelRfl
set_option linter.unusedVariables false
set_option maxRecDepth 100000
namespace Go.Proofs.Ytihdjgfijmondaa
open Go.Sim

def Ls : List (Nat × TI) := [
  (1, ⟨.func, 1, 8, [.nilF]⟩),
  (2, ⟨.int .i64, 1, 8, [.int .i64 0]⟩),
  (3, ⟨.int .i64, 1, 8, [.int .i64 0]⟩),
  (4, ⟨.bool, 1, 1, [.bool false]⟩),
  (5, ⟨.int .u8, 1, 1, [.int .u8 0]⟩),
  (6, ⟨.int .u8, 1, 1, [.int .u8 0]⟩),
  (7, ⟨.strct [(0, 2), (1, 3), (2, 4), (3, 6)], 4, 24, [.int .i64 0, .int .i64 0, .bool false, .int .u8 0]⟩),
  (8, ⟨.strct [(0, 2), (1, 3), (2, 4), (3, 6)], 4, 24, [.int .i64 0, .int .i64 0, .bool false, .int .u8 0]⟩),
  (9, ⟨.str, 1, 16, [.str ByteArray.empty]⟩),
  (10, ⟨.str, 1, 16, [.str ByteArray.empty]⟩),
  (11, ⟨.str, 1, 16, [.str ByteArray.empty]⟩),
  (12, ⟨.int .u64, 1, 8, [.int .u64 0]⟩),
  (13, ⟨.strct [(0, 9), (1, 12)], 2, 24, [.str ByteArray.empty, .int .u64 0]⟩),
  (14, ⟨.strct [(0, 9), (1, 12)], 2, 24, [.str ByteArray.empty, .int .u64 0]⟩),
  (15, ⟨.ptr 52, 1, 8, [.nilp]⟩),
  (16, ⟨.ptr 55, 1, 8, [.nilp]⟩),
  (17, ⟨.ptr 65, 1, 8, [.nilp]⟩),
  (18, ⟨.strct [(0, 17)], 1, 8, [.nilp]⟩),
  (19, ⟨.strct [(0, 17)], 1, 8, [.nilp]⟩),
  (20, ⟨.other, 1, 16, [.nilI]⟩),
  (21, ⟨.int .i32, 1, 4, [.int .i32 0]⟩),
  (22, ⟨.strct [(0, 3), (1, 3), (2, 4), (3, 4), (4, 3), (5, 3), (6, 4), (7, 3), (8, 4), (9, 4)], 10, 64, [.int .i64 0, .int .i64 0, .bool false, .bool false, .int .i64 0, .int .i64 0, .bool false, .int .i64 0, .bool false, .bool false]⟩),
  (23, ⟨.strct [(0, 3), (1, 3), (2, 4), (3, 4), (4, 3), (5, 3), (6, 4), (7, 3), (8, 4), (9, 4)], 10, 64, [.int .i64 0, .int .i64 0, .bool false, .bool false, .int .i64 0, .int .i64 0, .bool false, .int .i64 0, .bool false, .bool false]⟩),
  (24, ⟨.arr 40 23, 400, 2560, repl 40 ([.int .i64 0, .int .i64 0, .bool false, .bool false, .int .i64 0, .int .i64 0, .bool false, .int .i64 0, .bool false, .bool false])⟩),
  (25, ⟨.func, 1, 8, [.nilF]⟩),
  (26, ⟨.strct [(0, 3), (1, 3), (2, 4), (3, 4), (4, 3), (5, 3), (6, 4), (7, 3), (8, 4), (9, 4)], 10, 64, [.int .i64 0, .int .i64 0, .bool false, .bool false, .int .i64 0, .int .i64 0, .bool false, .int .i64 0, .bool false, .bool false]⟩),
  (27, ⟨.arr 40 26, 400, 2560, repl 40 ([.int .i64 0, .int .i64 0, .bool false, .bool false, .int .i64 0, .int .i64 0, .bool false, .int .i64 0, .bool false, .bool false])⟩),
  (28, ⟨.func, 1, 8, [.nilF]⟩),
  (29, ⟨.func, 1, 8, [.nilF]⟩),
  (30, ⟨.func, 1, 8, [.nilF]⟩),
  (31, ⟨.func, 1, 8, [.nilF]⟩),
  (32, ⟨.func, 1, 8, [.nilF]⟩),
  (33, ⟨.strct [(0, 3), (1, 3), (2, 3), (3, 4), (4, 4), (5, 4), (6, 4), (7, 4), (8, 3), (9, 3)], 10, 48, [.int .i64 0, .int .i64 0, .int .i64 0, .bool false, .bool false, .bool false, .bool false, .bool false, .int .i64 0, .int .i64 0]⟩),
  (34, ⟨.strct [(0, 3), (1, 3), (2, 3), (3, 4), (4, 4), (5, 4), (6, 4), (7, 4), (8, 3), (9, 3)], 10, 48, [.int .i64 0, .int .i64 0, .int .i64 0, .bool false, .bool false, .bool false, .bool false, .bool false, .int .i64 0, .int .i64 0]⟩),
  (35, ⟨.arr 40 34, 400, 1920, repl 40 ([.int .i64 0, .int .i64 0, .int .i64 0, .bool false, .bool false, .bool false, .bool false, .bool false, .int .i64 0, .int .i64 0])⟩),
  (36, ⟨.func, 1, 8, [.nilF]⟩),
  (37, ⟨.func, 1, 8, [.nilF]⟩),
  (38, ⟨.func, 1, 8, [.nilF]⟩),
  (39, ⟨.slice 3, 1, 24, [.nsl]⟩),
  (40, ⟨.func, 1, 8, [.nilF]⟩),
  (41, ⟨.func, 1, 8, [.nilF]⟩),
  (42, ⟨.arr 40 3, 40, 320, repl 40 ([.int .i64 0])⟩),
  (44, ⟨.func, 1, 8, [.nilF]⟩),
  (45, ⟨.func, 1, 8, [.nilF]⟩),
  (46, ⟨.func, 1, 8, [.nilF]⟩),
  (47, ⟨.func, 1, 8, [.nilF]⟩),
  (48, ⟨.func, 1, 8, [.nilF]⟩),
  (49, ⟨.func, 1, 8, [.nilF]⟩),
  (50, ⟨.func, 1, 8, [.nilF]⟩),
  (51, ⟨.strct [(0, 17), (1, 17), (2, 17), (3, 9)], 4, 40, [.nilp, .nilp, .nilp, .str ByteArray.empty]⟩),
  (52, ⟨.strct [(0, 17), (1, 17), (2, 17), (3, 9)], 4, 40, [.nilp, .nilp, .nilp, .str ByteArray.empty]⟩),
  (53, ⟨.arr 0 16, 0, 0, []⟩),
  (54, ⟨.strct [(0, 53)], 0, 0, []⟩),
  (55, ⟨.strct [(0, 53)], 0, 0, []⟩),
  (56, ⟨.func, 1, 8, [.nilF]⟩),
  (57, ⟨.int .u32, 1, 4, [.int .u32 0]⟩),
  (58, ⟨.int .u8, 1, 1, [.int .u8 0]⟩),
  (59, ⟨.int .u8, 1, 1, [.int .u8 0]⟩),
  (60, ⟨.func, 1, 8, [.nilF]⟩),
  (61, ⟨.ptr 5, 1, 8, [.nilp]⟩),
  (62, ⟨.int .i32, 1, 4, [.int .i32 0]⟩),
  (63, ⟨.int .i32, 1, 4, [.int .i32 0]⟩),
  (64, ⟨.strct [(0, 12), (1, 12), (2, 57), (3, 58), (4, 5), (5, 5), (6, 59), (7, 60), (8, 61), (9, 62), (10, 63)], 11, 48, [.int .u64 0, .int .u64 0, .int .u32 0, .int .u8 0, .int .u8 0, .int .u8 0, .int .u8 0, .nilF, .nilp, .int .i32 0, .int .i32 0]⟩),
  (65, ⟨.strct [(0, 12), (1, 12), (2, 57), (3, 58), (4, 5), (5, 5), (6, 59), (7, 60), (8, 61), (9, 62), (10, 63)], 11, 48, [.int .u64 0, .int .u64 0, .int .u32 0, .int .u8 0, .int .u8 0, .int .u8 0, .int .u8 0, .nilF, .nilp, .int .i32 0, .int .i32 0]⟩)]
noncomputable def L (t : Nat) : Option TI := aget t Ls
@[simp] theorem L1 : L 1 = some ⟨.func, 1, 8, [.nilF]⟩ := by kernel_rfl
@[simp] theorem L2 : L 2 = some ⟨.int .i64, 1, 8, [.int .i64 0]⟩ := by kernel_rfl
@[simp] theorem L3 : L 3 = some ⟨.int .i64, 1, 8, [.int .i64 0]⟩ := by kernel_rfl
@[simp] theorem L4 : L 4 = some ⟨.bool, 1, 1, [.bool false]⟩ := by kernel_rfl
@[simp] theorem L5 : L 5 = some ⟨.int .u8, 1, 1, [.int .u8 0]⟩ := by kernel_rfl
@[simp] theorem L6 : L 6 = some ⟨.int .u8, 1, 1, [.int .u8 0]⟩ := by kernel_rfl
@[simp] theorem L7 : L 7 = some ⟨.strct [(0, 2), (1, 3), (2, 4), (3, 6)], 4, 24, [.int .i64 0, .int .i64 0, .bool false, .int .u8 0]⟩ := by kernel_rfl
@[simp] theorem L8 : L 8 = some ⟨.strct [(0, 2), (1, 3), (2, 4), (3, 6)], 4, 24, [.int .i64 0, .int .i64 0, .bool false, .int .u8 0]⟩ := by kernel_rfl
@[simp] theorem L9 : L 9 = some ⟨.str, 1, 16, [.str ByteArray.empty]⟩ := by kernel_rfl
@[simp] theorem L10 : L 10 = some ⟨.str, 1, 16, [.str ByteArray.empty]⟩ := by kernel_rfl
@[simp] theorem L11 : L 11 = some ⟨.str, 1, 16, [.str ByteArray.empty]⟩ := by kernel_rfl
@[simp] theorem L12 : L 12 = some ⟨.int .u64, 1, 8, [.int .u64 0]⟩ := by kernel_rfl
@[simp] theorem L13 : L 13 = some ⟨.strct [(0, 9), (1, 12)], 2, 24, [.str ByteArray.empty, .int .u64 0]⟩ := by kernel_rfl
@[simp] theorem L14 : L 14 = some ⟨.strct [(0, 9), (1, 12)], 2, 24, [.str ByteArray.empty, .int .u64 0]⟩ := by kernel_rfl
@[simp] theorem L15 : L 15 = some ⟨.ptr 52, 1, 8, [.nilp]⟩ := by kernel_rfl
@[simp] theorem L16 : L 16 = some ⟨.ptr 55, 1, 8, [.nilp]⟩ := by kernel_rfl
@[simp] theorem L17 : L 17 = some ⟨.ptr 65, 1, 8, [.nilp]⟩ := by kernel_rfl
@[simp] theorem L18 : L 18 = some ⟨.strct [(0, 17)], 1, 8, [.nilp]⟩ := by kernel_rfl
@[simp] theorem L19 : L 19 = some ⟨.strct [(0, 17)], 1, 8, [.nilp]⟩ := by kernel_rfl
@[simp] theorem L20 : L 20 = some ⟨.other, 1, 16, [.nilI]⟩ := by kernel_rfl
@[simp] theorem L21 : L 21 = some ⟨.int .i32, 1, 4, [.int .i32 0]⟩ := by kernel_rfl
@[simp] theorem L22 : L 22 = some ⟨.strct [(0, 3), (1, 3), (2, 4), (3, 4), (4, 3), (5, 3), (6, 4), (7, 3), (8, 4), (9, 4)], 10, 64, [.int .i64 0, .int .i64 0, .bool false, .bool false, .int .i64 0, .int .i64 0, .bool false, .int .i64 0, .bool false, .bool false]⟩ := by kernel_rfl
@[simp] theorem L23 : L 23 = some ⟨.strct [(0, 3), (1, 3), (2, 4), (3, 4), (4, 3), (5, 3), (6, 4), (7, 3), (8, 4), (9, 4)], 10, 64, [.int .i64 0, .int .i64 0, .bool false, .bool false, .int .i64 0, .int .i64 0, .bool false, .int .i64 0, .bool false, .bool false]⟩ := by kernel_rfl
@[simp] theorem L24 : L 24 = some ⟨.arr 40 23, 400, 2560, repl 40 ([.int .i64 0, .int .i64 0, .bool false, .bool false, .int .i64 0, .int .i64 0, .bool false, .int .i64 0, .bool false, .bool false])⟩ := by kernel_rfl
@[simp] theorem L25 : L 25 = some ⟨.func, 1, 8, [.nilF]⟩ := by kernel_rfl
@[simp] theorem L26 : L 26 = some ⟨.strct [(0, 3), (1, 3), (2, 4), (3, 4), (4, 3), (5, 3), (6, 4), (7, 3), (8, 4), (9, 4)], 10, 64, [.int .i64 0, .int .i64 0, .bool false, .bool false, .int .i64 0, .int .i64 0, .bool false, .int .i64 0, .bool false, .bool false]⟩ := by kernel_rfl
@[simp] theorem L27 : L 27 = some ⟨.arr 40 26, 400, 2560, repl 40 ([.int .i64 0, .int .i64 0, .bool false, .bool false, .int .i64 0, .int .i64 0, .bool false, .int .i64 0, .bool false, .bool false])⟩ := by kernel_rfl
@[simp] theorem L28 : L 28 = some ⟨.func, 1, 8, [.nilF]⟩ := by kernel_rfl
@[simp] theorem L29 : L 29 = some ⟨.func, 1, 8, [.nilF]⟩ := by kernel_rfl
@[simp] theorem L30 : L 30 = some ⟨.func, 1, 8, [.nilF]⟩ := by kernel_rfl
@[simp] theorem L31 : L 31 = some ⟨.func, 1, 8, [.nilF]⟩ := by kernel_rfl
@[simp] theorem L32 : L 32 = some ⟨.func, 1, 8, [.nilF]⟩ := by kernel_rfl
@[simp] theorem L33 : L 33 = some ⟨.strct [(0, 3), (1, 3), (2, 3), (3, 4), (4, 4), (5, 4), (6, 4), (7, 4), (8, 3), (9, 3)], 10, 48, [.int .i64 0, .int .i64 0, .int .i64 0, .bool false, .bool false, .bool false, .bool false, .bool false, .int .i64 0, .int .i64 0]⟩ := by kernel_rfl
@[simp] theorem L34 : L 34 = some ⟨.strct [(0, 3), (1, 3), (2, 3), (3, 4), (4, 4), (5, 4), (6, 4), (7, 4), (8, 3), (9, 3)], 10, 48, [.int .i64 0, .int .i64 0, .int .i64 0, .bool false, .bool false, .bool false, .bool false, .bool false, .int .i64 0, .int .i64 0]⟩ := by kernel_rfl
@[simp] theorem L35 : L 35 = some ⟨.arr 40 34, 400, 1920, repl 40 ([.int .i64 0, .int .i64 0, .int .i64 0, .bool false, .bool false, .bool false, .bool false, .bool false, .int .i64 0, .int .i64 0])⟩ := by kernel_rfl
@[simp] theorem L36 : L 36 = some ⟨.func, 1, 8, [.nilF]⟩ := by kernel_rfl
@[simp] theorem L37 : L 37 = some ⟨.func, 1, 8, [.nilF]⟩ := by kernel_rfl
@[simp] theorem L38 : L 38 = some ⟨.func, 1, 8, [.nilF]⟩ := by kernel_rfl
@[simp] theorem L39 : L 39 = some ⟨.slice 3, 1, 24, [.nsl]⟩ := by kernel_rfl
@[simp] theorem L40 : L 40 = some ⟨.func, 1, 8, [.nilF]⟩ := by kernel_rfl
@[simp] theorem L41 : L 41 = some ⟨.func, 1, 8, [.nilF]⟩ := by kernel_rfl
@[simp] theorem L42 : L 42 = some ⟨.arr 40 3, 40, 320, repl 40 ([.int .i64 0])⟩ := by kernel_rfl
@[simp] theorem L44 : L 44 = some ⟨.func, 1, 8, [.nilF]⟩ := by kernel_rfl
@[simp] theorem L45 : L 45 = some ⟨.func, 1, 8, [.nilF]⟩ := by kernel_rfl
@[simp] theorem L46 : L 46 = some ⟨.func, 1, 8, [.nilF]⟩ := by kernel_rfl
@[simp] theorem L47 : L 47 = some ⟨.func, 1, 8, [.nilF]⟩ := by kernel_rfl
@[simp] theorem L48 : L 48 = some ⟨.func, 1, 8, [.nilF]⟩ := by kernel_rfl
@[simp] theorem L49 : L 49 = some ⟨.func, 1, 8, [.nilF]⟩ := by kernel_rfl
@[simp] theorem L50 : L 50 = some ⟨.func, 1, 8, [.nilF]⟩ := by kernel_rfl
@[simp] theorem L51 : L 51 = some ⟨.strct [(0, 17), (1, 17), (2, 17), (3, 9)], 4, 40, [.nilp, .nilp, .nilp, .str ByteArray.empty]⟩ := by kernel_rfl
@[simp] theorem L52 : L 52 = some ⟨.strct [(0, 17), (1, 17), (2, 17), (3, 9)], 4, 40, [.nilp, .nilp, .nilp, .str ByteArray.empty]⟩ := by kernel_rfl
@[simp] theorem L53 : L 53 = some ⟨.arr 0 16, 0, 0, []⟩ := by kernel_rfl
@[simp] theorem L54 : L 54 = some ⟨.strct [(0, 53)], 0, 0, []⟩ := by kernel_rfl
@[simp] theorem L55 : L 55 = some ⟨.strct [(0, 53)], 0, 0, []⟩ := by kernel_rfl
@[simp] theorem L56 : L 56 = some ⟨.func, 1, 8, [.nilF]⟩ := by kernel_rfl
@[simp] theorem L57 : L 57 = some ⟨.int .u32, 1, 4, [.int .u32 0]⟩ := by kernel_rfl
@[simp] theorem L58 : L 58 = some ⟨.int .u8, 1, 1, [.int .u8 0]⟩ := by kernel_rfl
@[simp] theorem L59 : L 59 = some ⟨.int .u8, 1, 1, [.int .u8 0]⟩ := by kernel_rfl
@[simp] theorem L60 : L 60 = some ⟨.func, 1, 8, [.nilF]⟩ := by kernel_rfl
@[simp] theorem L61 : L 61 = some ⟨.ptr 5, 1, 8, [.nilp]⟩ := by kernel_rfl
@[simp] theorem L62 : L 62 = some ⟨.int .i32, 1, 4, [.int .i32 0]⟩ := by kernel_rfl
@[simp] theorem L63 : L 63 = some ⟨.int .i32, 1, 4, [.int .i32 0]⟩ := by kernel_rfl
@[simp] theorem L64 : L 64 = some ⟨.strct [(0, 12), (1, 12), (2, 57), (3, 58), (4, 5), (5, 5), (6, 59), (7, 60), (8, 61), (9, 62), (10, 63)], 11, 48, [.int .u64 0, .int .u64 0, .int .u32 0, .int .u8 0, .int .u8 0, .int .u8 0, .int .u8 0, .nilF, .nilp, .int .i32 0, .int .i32 0]⟩ := by kernel_rfl
@[simp] theorem L65 : L 65 = some ⟨.strct [(0, 12), (1, 12), (2, 57), (3, 58), (4, 5), (5, 5), (6, 59), (7, 60), (8, 61), (9, 62), (10, 63)], 11, 48, [.int .u64 0, .int .u64 0, .int .u32 0, .int .u8 0, .int .u8 0, .int .u8 0, .int .u8 0, .nilF, .nilp, .int .i32 0, .int .i32 0]⟩ := by kernel_rfl
noncomputable def a2 : AFn := mkA Try.f2 [] [] [] [] [] []
noncomputable def a3 : AFn := mkA Try.f3 [2, 4, 5, 6, 7, 8, 11, 13, 30] [(6, [1, 2, 5, 6, 7], [2, 6])] [] [] [(23, [2]), (24, [2]), (25, []), (27, [6]), (28, [6]), (29, []), (35, [2]), (37, []), (38, [6]), (40, []), (41, []), (45, [8]), (50, [8]), (55, [8])] []
noncomputable def a4 : AFn := mkA Try.f4 [6, 7, 8, 9, 10, 11, 12, 13, 14, 15, 16, 19, 34, 37, 46, 68, 83, 92, 105, 138] [(8, [0, 1, 2, 7, 8, 9], [8]), (12, [0, 1, 2, 7, 8, 10], [8]), (18, [2, 7, 8, 12], [8]), (27, [7, 8, 14, 15, 16], [8, 14])] [] [] [] []
noncomputable def a5 : AFn := mkA Try.f5 [1, 2, 4, 8, 9, 10, 11, 12, 13, 14, 15, 16, 19, 22, 29, 47, 72, 95, 101, 127] [(8, [1, 2, 3, 4, 9, 10, 11], [4, 10]), (20, [1, 2, 3, 9, 10, 12, 13], [10, 12])] [] [] [] []
noncomputable def a6 : AFn := mkA Try.f6 [1, 3, 6, 7, 8, 9, 10, 11, 14, 18, 44, 49, 129] [(6, [1, 2, 3, 7, 8], [3]), (13, [1, 2, 3, 7, 9, 10], [3, 9])] [] [] [] []
noncomputable def a7 : AFn := mkA Try.f7 [0, 1] [] [] [] [] []
noncomputable def a8 : AFn := mkA Try.f8 [1, 2] [] [] [] [] []
noncomputable def a9 : AFn := mkA Try.f9 [1, 2, 5] [] [] [] [] []
noncomputable def a10 : AFn := mkA Try.f10 [1, 2] [] [] [] [] []
noncomputable def a11 : AFn := mkA Try.f11 [0] [] [] [] [] []
noncomputable def a12 : AFn := mkA Try.f12 [2, 3, 4, 5, 7, 17] [(2, [2, 3, 5], [2, 3])] [] [] [] []
noncomputable def a13 : AFn := mkA Try.f13 [2, 4, 5, 6, 7, 8, 9, 10, 11, 12, 14, 15, 16, 17, 21, 25, 53, 62] [(4, [1, 4, 5, 6, 7, 8, 15, 16], [4, 5])] [] [] [] []
noncomputable def a14 : AFn := mkA Try.f14 [2, 4, 5, 6, 7, 8, 9, 10, 11, 12, 14, 16, 23, 27, 55, 64] [(6, [1, 2, 4, 5, 6, 7, 8, 9], [2, 4, 5])] [] [] [] []
noncomputable def a15 : AFn := mkA Try.f15 [4, 5, 10] [] [] [] [] []
noncomputable def a16 : AFn := mkA Try.f16 [2, 3, 4, 5, 13] [] [] [] [] []
noncomputable def a17 : AFn := mkA Try.f17 [2, 3, 4, 5, 13] [] [] [] [] []
noncomputable def a18 : AFn := mkA Try.f18 [2, 5] [] [] [] [] []
noncomputable def a19 : AFn := mkA Try.f19 [2, 3, 4] [] [] [] [] []
noncomputable def a20 : AFn := mkA Try.f20 [4, 5, 9] [] [] [] [] []
noncomputable def a21 : AFn := mkA Try.f21 [4, 5, 9] [] [] [] [] []

noncomputable def Ts : List (Nat × AFn) := [(2, a2), (3, a3), (4, a4), (5, a5), (6, a6), (7, a7), (8, a8), (9, a9), (10, a10), (11, a11), (12, a12), (13, a13), (14, a14), (15, a15), (16, a16), (17, a17), (18, a18), (19, a19), (20, a20), (21, a21)]
theorem Ts_ok : ∀ p ∈ Ts, FnOK Try.prog L p.1 p.2 := by
  intro p hp
  simp only [Ts, List.mem_cons, List.not_mem_nil, or_false] at hp
  rcases hp with rfl | rfl | rfl | rfl | rfl | rfl | rfl | rfl | rfl | rfl | rfl | rfl | rfl | rfl | rfl | rfl | rfl | rfl | rfl | rfl
  · exact mkA_ok Try.func2 (by kernel_rfl)
  · exact mkA_ok Try.func3 (by kernel_rfl)
  · exact mkA_ok Try.func4 (by kernel_rfl)
  · exact mkA_ok Try.func5 (by kernel_rfl)
  · exact mkA_ok Try.func6 (by kernel_rfl)
  · exact mkA_ok Try.func7 (by kernel_rfl)
  · exact mkA_ok Try.func8 (by kernel_rfl)
  · exact mkA_ok Try.func9 (by kernel_rfl)
  · exact mkA_ok Try.func10 (by kernel_rfl)
  · exact mkA_ok Try.func11 (by kernel_rfl)
  · exact mkA_ok Try.func12 (by kernel_rfl)
  · exact mkA_ok Try.func13 (by kernel_rfl)
  · exact mkA_ok Try.func14 (by kernel_rfl)
  · exact mkA_ok Try.func15 (by kernel_rfl)
  · exact mkA_ok Try.func16 (by kernel_rfl)
  · exact mkA_ok Try.func17 (by kernel_rfl)
  · exact mkA_ok Try.func18 (by kernel_rfl)
  · exact mkA_ok Try.func19 (by kernel_rfl)
  · exact mkA_ok Try.func20 (by kernel_rfl)
  · exact mkA_ok Try.func21 (by kernel_rfl)
noncomputable def T (f : Nat) : Option Entry := (aget f Ts).map .code
theorem L_ok : LOK Try.prog L := lok (by kernel_rfl)
theorem T_ok : TableOK Try.prog L T := tok Ts_ok
theorem laid : laidOutB Try.prog = true := by kernel_rfl
theorem own : ownKnob Try.prog.godebug = none := by kernel_rfl

end Go.Proofs.Ytihdjgfijmondaa
