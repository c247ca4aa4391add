/- The functions and types of this seat, as the interpreter has them. Written by program (tools/Gen.lean). -/
import Derived.Test.YtaohdpebkongmaaSimExt
import Derived.Test.YtaohdpebkongmaaRows
import Derived.KernelRfl
set_option linter.unusedVariables false
set_option maxRecDepth 100000
namespace Go.Proofs.Ytaohdpebkongmaa
open Go.Sim

def Ls : List (Nat × TI) := [
  (1, ⟨.func, 1, 8, [.nilF]⟩),
  (2, ⟨.int .i64, 1, 8, [.int .i64 0]⟩),
  (3, ⟨.int .i64, 1, 8, [.int .i64 0]⟩),
  (4, ⟨.bool, 1, 1, [.bool false]⟩),
  (5, ⟨.int .u8, 1, 1, [.int .u8 0]⟩),
  (6, ⟨.int .u8, 1, 1, [.int .u8 0]⟩),
  (7, ⟨.strct [(0, 2), (1, 3), (2, 4), (3, 6)], 4, 24, [.int .i64 0, .int .i64 0, .bool false, .int .u8 0]⟩),
  (8, ⟨.strct [(0, 2), (1, 3), (2, 4), (3, 6)], 4, 24, [.int .i64 0, .int .i64 0, .bool false, .int .u8 0]⟩),
  (9, ⟨.str, 1, 16, [.str ByteArray.empty]⟩),
  (10, ⟨.str, 1, 16, [.str ByteArray.empty]⟩),
  (11, ⟨.str, 1, 16, [.str ByteArray.empty]⟩),
  (12, ⟨.int .u64, 1, 8, [.int .u64 0]⟩),
  (15, ⟨.ptr 75, 1, 8, [.nilp]⟩),
  (16, ⟨.ptr 78, 1, 8, [.nilp]⟩),
  (17, ⟨.ptr 87, 1, 8, [.nilp]⟩),
  (20, ⟨.other, 1, 16, [.nilI]⟩),
  (21, ⟨.int .i32, 1, 4, [.int .i32 0]⟩),
  (22, ⟨.strct [(0, 3), (1, 3), (2, 4), (3, 4), (4, 4), (5, 4), (6, 4), (7, 4), (8, 4), (9, 3), (10, 5)], 11, 40, [.int .i64 0, .int .i64 0, .bool false, .bool false, .bool false, .bool false, .bool false, .bool false, .bool false, .int .i64 0, .int .u8 0]⟩),
  (23, ⟨.strct [(0, 3), (1, 3), (2, 4), (3, 4), (4, 4), (5, 4), (6, 4), (7, 4), (8, 4), (9, 3), (10, 5)], 11, 40, [.int .i64 0, .int .i64 0, .bool false, .bool false, .bool false, .bool false, .bool false, .bool false, .bool false, .int .i64 0, .int .u8 0]⟩),
  (24, ⟨.slice 5, 1, 24, [.nsl]⟩),
  (25, ⟨.func, 1, 8, [.nilF]⟩),
  (26, ⟨.strct [(0, 3), (1, 3), (2, 3), (3, 4), (4, 4), (5, 4), (6, 4), (7, 4), (8, 3), (9, 3)], 10, 48, [.int .i64 0, .int .i64 0, .int .i64 0, .bool false, .bool false, .bool false, .bool false, .bool false, .int .i64 0, .int .i64 0]⟩),
  (27, ⟨.strct [(0, 3), (1, 3), (2, 3), (3, 4), (4, 4), (5, 4), (6, 4), (7, 4), (8, 3), (9, 3)], 10, 48, [.int .i64 0, .int .i64 0, .int .i64 0, .bool false, .bool false, .bool false, .bool false, .bool false, .int .i64 0, .int .i64 0]⟩),
  (29, ⟨.func, 1, 8, [.nilF]⟩),
  (30, ⟨.strct [(0, 3), (1, 3), (2, 4), (3, 4), (4, 4), (5, 4), (6, 4), (7, 4), (8, 4), (9, 3), (10, 5)], 11, 40, [.int .i64 0, .int .i64 0, .bool false, .bool false, .bool false, .bool false, .bool false, .bool false, .bool false, .int .i64 0, .int .u8 0]⟩),
  (32, ⟨.func, 1, 8, [.nilF]⟩),
  (33, ⟨.func, 1, 8, [.nilF]⟩),
  (34, ⟨.arr 40 27, 400, 1920, repl 40 ([.int .i64 0, .int .i64 0, .int .i64 0, .bool false, .bool false, .bool false, .bool false, .bool false, .int .i64 0, .int .i64 0])⟩),
  (36, ⟨.func, 1, 8, [.nilF]⟩),
  (37, ⟨.func, 1, 8, [.nilF]⟩),
  (38, ⟨.func, 1, 8, [.nilF]⟩),
  (39, ⟨.func, 1, 8, [.nilF]⟩),
  (40, ⟨.func, 1, 8, [.nilF]⟩),
  (41, ⟨.func, 1, 8, [.nilF]⟩),
  (42, ⟨.func, 1, 8, [.nilF]⟩),
  (43, ⟨.func, 1, 8, [.nilF]⟩),
  (44, ⟨.func, 1, 8, [.nilF]⟩),
  (45, ⟨.func, 1, 8, [.nilF]⟩),
  (46, ⟨.func, 1, 8, [.nilF]⟩),
  (47, ⟨.int .u64, 1, 8, [.int .u64 0]⟩),
  (48, ⟨.func, 1, 8, [.nilF]⟩),
  (49, ⟨.func, 1, 8, [.nilF]⟩),
  (50, ⟨.func, 1, 8, [.nilF]⟩),
  (51, ⟨.func, 1, 8, [.nilF]⟩),
  (52, ⟨.func, 1, 8, [.nilF]⟩),
  (53, ⟨.func, 1, 8, [.nilF]⟩),
  (54, ⟨.slice 3, 1, 24, [.nsl]⟩),
  (55, ⟨.slice 4, 1, 24, [.nsl]⟩),
  (56, ⟨.func, 1, 8, [.nilF]⟩),
  (57, ⟨.func, 1, 8, [.nilF]⟩),
  (59, ⟨.func, 1, 8, [.nilF]⟩),
  (60, ⟨.func, 1, 8, [.nilF]⟩),
  (61, ⟨.func, 1, 8, [.nilF]⟩),
  (62, ⟨.func, 1, 8, [.nilF]⟩),
  (63, ⟨.func, 1, 8, [.nilF]⟩),
  (64, ⟨.func, 1, 8, [.nilF]⟩),
  (65, ⟨.func, 1, 8, [.nilF]⟩),
  (66, ⟨.func, 1, 8, [.nilF]⟩),
  (67, ⟨.func, 1, 8, [.nilF]⟩),
  (68, ⟨.arr 13 3, 13, 104, repl 13 ([.int .i64 0])⟩),
  (69, ⟨.strct [(0, 9), (1, 68)], 14, 120, ([.str ByteArray.empty]) ++ (repl 13 ([.int .i64 0]))⟩),
  (70, ⟨.strct [(0, 9), (1, 68)], 14, 120, ([.str ByteArray.empty]) ++ (repl 13 ([.int .i64 0]))⟩),
  (71, ⟨.slice 70, 1, 24, [.nsl]⟩),
  (72, ⟨.func, 1, 8, [.nilF]⟩),
  (73, ⟨.func, 1, 8, [.nilF]⟩),
  (76, ⟨.arr 0 16, 0, 0, []⟩),
  (79, ⟨.int .u32, 1, 4, [.int .u32 0]⟩),
  (80, ⟨.int .u8, 1, 1, [.int .u8 0]⟩),
  (81, ⟨.int .u8, 1, 1, [.int .u8 0]⟩),
  (82, ⟨.func, 1, 8, [.nilF]⟩),
  (83, ⟨.ptr 5, 1, 8, [.nilp]⟩),
  (84, ⟨.int .i32, 1, 4, [.int .i32 0]⟩),
  (85, ⟨.int .i32, 1, 4, [.int .i32 0]⟩)]
noncomputable def L (t : Nat) : Option TI := aget t Ls
@[simp] theorem L1 : L 1 = some ⟨.func, 1, 8, [.nilF]⟩ := by kernel_rfl
@[simp] theorem L2 : L 2 = some ⟨.int .i64, 1, 8, [.int .i64 0]⟩ := by kernel_rfl
@[simp] theorem L3 : L 3 = some ⟨.int .i64, 1, 8, [.int .i64 0]⟩ := by kernel_rfl
@[simp] theorem L4 : L 4 = some ⟨.bool, 1, 1, [.bool false]⟩ := by kernel_rfl
@[simp] theorem L5 : L 5 = some ⟨.int .u8, 1, 1, [.int .u8 0]⟩ := by kernel_rfl
@[simp] theorem L6 : L 6 = some ⟨.int .u8, 1, 1, [.int .u8 0]⟩ := by kernel_rfl
@[simp] theorem L7 : L 7 = some ⟨.strct [(0, 2), (1, 3), (2, 4), (3, 6)], 4, 24, [.int .i64 0, .int .i64 0, .bool false, .int .u8 0]⟩ := by kernel_rfl
@[simp] theorem L8 : L 8 = some ⟨.strct [(0, 2), (1, 3), (2, 4), (3, 6)], 4, 24, [.int .i64 0, .int .i64 0, .bool false, .int .u8 0]⟩ := by kernel_rfl
@[simp] theorem L9 : L 9 = some ⟨.str, 1, 16, [.str ByteArray.empty]⟩ := by kernel_rfl
@[simp] theorem L10 : L 10 = some ⟨.str, 1, 16, [.str ByteArray.empty]⟩ := by kernel_rfl
@[simp] theorem L11 : L 11 = some ⟨.str, 1, 16, [.str ByteArray.empty]⟩ := by kernel_rfl
@[simp] theorem L12 : L 12 = some ⟨.int .u64, 1, 8, [.int .u64 0]⟩ := by kernel_rfl
@[simp] theorem L15 : L 15 = some ⟨.ptr 75, 1, 8, [.nilp]⟩ := by kernel_rfl
@[simp] theorem L16 : L 16 = some ⟨.ptr 78, 1, 8, [.nilp]⟩ := by kernel_rfl
@[simp] theorem L17 : L 17 = some ⟨.ptr 87, 1, 8, [.nilp]⟩ := by kernel_rfl
@[simp] theorem L20 : L 20 = some ⟨.other, 1, 16, [.nilI]⟩ := by kernel_rfl
@[simp] theorem L21 : L 21 = some ⟨.int .i32, 1, 4, [.int .i32 0]⟩ := by kernel_rfl
@[simp] theorem L22 : L 22 = some ⟨.strct [(0, 3), (1, 3), (2, 4), (3, 4), (4, 4), (5, 4), (6, 4), (7, 4), (8, 4), (9, 3), (10, 5)], 11, 40, [.int .i64 0, .int .i64 0, .bool false, .bool false, .bool false, .bool false, .bool false, .bool false, .bool false, .int .i64 0, .int .u8 0]⟩ := by kernel_rfl
@[simp] theorem L23 : L 23 = some ⟨.strct [(0, 3), (1, 3), (2, 4), (3, 4), (4, 4), (5, 4), (6, 4), (7, 4), (8, 4), (9, 3), (10, 5)], 11, 40, [.int .i64 0, .int .i64 0, .bool false, .bool false, .bool false, .bool false, .bool false, .bool false, .bool false, .int .i64 0, .int .u8 0]⟩ := by kernel_rfl
@[simp] theorem L24 : L 24 = some ⟨.slice 5, 1, 24, [.nsl]⟩ := by kernel_rfl
@[simp] theorem L25 : L 25 = some ⟨.func, 1, 8, [.nilF]⟩ := by kernel_rfl
@[simp] theorem L26 : L 26 = some ⟨.strct [(0, 3), (1, 3), (2, 3), (3, 4), (4, 4), (5, 4), (6, 4), (7, 4), (8, 3), (9, 3)], 10, 48, [.int .i64 0, .int .i64 0, .int .i64 0, .bool false, .bool false, .bool false, .bool false, .bool false, .int .i64 0, .int .i64 0]⟩ := by kernel_rfl
@[simp] theorem L27 : L 27 = some ⟨.strct [(0, 3), (1, 3), (2, 3), (3, 4), (4, 4), (5, 4), (6, 4), (7, 4), (8, 3), (9, 3)], 10, 48, [.int .i64 0, .int .i64 0, .int .i64 0, .bool false, .bool false, .bool false, .bool false, .bool false, .int .i64 0, .int .i64 0]⟩ := by kernel_rfl
@[simp] theorem L29 : L 29 = some ⟨.func, 1, 8, [.nilF]⟩ := by kernel_rfl
@[simp] theorem L30 : L 30 = some ⟨.strct [(0, 3), (1, 3), (2, 4), (3, 4), (4, 4), (5, 4), (6, 4), (7, 4), (8, 4), (9, 3), (10, 5)], 11, 40, [.int .i64 0, .int .i64 0, .bool false, .bool false, .bool false, .bool false, .bool false, .bool false, .bool false, .int .i64 0, .int .u8 0]⟩ := by kernel_rfl
@[simp] theorem L32 : L 32 = some ⟨.func, 1, 8, [.nilF]⟩ := by kernel_rfl
@[simp] theorem L33 : L 33 = some ⟨.func, 1, 8, [.nilF]⟩ := by kernel_rfl
@[simp] theorem L34 : L 34 = some ⟨.arr 40 27, 400, 1920, repl 40 ([.int .i64 0, .int .i64 0, .int .i64 0, .bool false, .bool false, .bool false, .bool false, .bool false, .int .i64 0, .int .i64 0])⟩ := by kernel_rfl
@[simp] theorem L36 : L 36 = some ⟨.func, 1, 8, [.nilF]⟩ := by kernel_rfl
@[simp] theorem L37 : L 37 = some ⟨.func, 1, 8, [.nilF]⟩ := by kernel_rfl
@[simp] theorem L38 : L 38 = some ⟨.func, 1, 8, [.nilF]⟩ := by kernel_rfl
@[simp] theorem L39 : L 39 = some ⟨.func, 1, 8, [.nilF]⟩ := by kernel_rfl
@[simp] theorem L40 : L 40 = some ⟨.func, 1, 8, [.nilF]⟩ := by kernel_rfl
@[simp] theorem L41 : L 41 = some ⟨.func, 1, 8, [.nilF]⟩ := by kernel_rfl
@[simp] theorem L42 : L 42 = some ⟨.func, 1, 8, [.nilF]⟩ := by kernel_rfl
@[simp] theorem L43 : L 43 = some ⟨.func, 1, 8, [.nilF]⟩ := by kernel_rfl
@[simp] theorem L44 : L 44 = some ⟨.func, 1, 8, [.nilF]⟩ := by kernel_rfl
@[simp] theorem L45 : L 45 = some ⟨.func, 1, 8, [.nilF]⟩ := by kernel_rfl
@[simp] theorem L46 : L 46 = some ⟨.func, 1, 8, [.nilF]⟩ := by kernel_rfl
@[simp] theorem L47 : L 47 = some ⟨.int .u64, 1, 8, [.int .u64 0]⟩ := by kernel_rfl
@[simp] theorem L48 : L 48 = some ⟨.func, 1, 8, [.nilF]⟩ := by kernel_rfl
@[simp] theorem L49 : L 49 = some ⟨.func, 1, 8, [.nilF]⟩ := by kernel_rfl
@[simp] theorem L50 : L 50 = some ⟨.func, 1, 8, [.nilF]⟩ := by kernel_rfl
@[simp] theorem L51 : L 51 = some ⟨.func, 1, 8, [.nilF]⟩ := by kernel_rfl
@[simp] theorem L52 : L 52 = some ⟨.func, 1, 8, [.nilF]⟩ := by kernel_rfl
@[simp] theorem L53 : L 53 = some ⟨.func, 1, 8, [.nilF]⟩ := by kernel_rfl
@[simp] theorem L54 : L 54 = some ⟨.slice 3, 1, 24, [.nsl]⟩ := by kernel_rfl
@[simp] theorem L55 : L 55 = some ⟨.slice 4, 1, 24, [.nsl]⟩ := by kernel_rfl
@[simp] theorem L56 : L 56 = some ⟨.func, 1, 8, [.nilF]⟩ := by kernel_rfl
@[simp] theorem L57 : L 57 = some ⟨.func, 1, 8, [.nilF]⟩ := by kernel_rfl
@[simp] theorem L59 : L 59 = some ⟨.func, 1, 8, [.nilF]⟩ := by kernel_rfl
@[simp] theorem L60 : L 60 = some ⟨.func, 1, 8, [.nilF]⟩ := by kernel_rfl
@[simp] theorem L61 : L 61 = some ⟨.func, 1, 8, [.nilF]⟩ := by kernel_rfl
@[simp] theorem L62 : L 62 = some ⟨.func, 1, 8, [.nilF]⟩ := by kernel_rfl
@[simp] theorem L63 : L 63 = some ⟨.func, 1, 8, [.nilF]⟩ := by kernel_rfl
@[simp] theorem L64 : L 64 = some ⟨.func, 1, 8, [.nilF]⟩ := by kernel_rfl
@[simp] theorem L65 : L 65 = some ⟨.func, 1, 8, [.nilF]⟩ := by kernel_rfl
@[simp] theorem L66 : L 66 = some ⟨.func, 1, 8, [.nilF]⟩ := by kernel_rfl
@[simp] theorem L67 : L 67 = some ⟨.func, 1, 8, [.nilF]⟩ := by kernel_rfl
@[simp] theorem L68 : L 68 = some ⟨.arr 13 3, 13, 104, repl 13 ([.int .i64 0])⟩ := by kernel_rfl
@[simp] theorem L69 : L 69 = some ⟨.strct [(0, 9), (1, 68)], 14, 120, ([.str ByteArray.empty]) ++ (repl 13 ([.int .i64 0]))⟩ := by kernel_rfl
@[simp] theorem L70 : L 70 = some ⟨.strct [(0, 9), (1, 68)], 14, 120, ([.str ByteArray.empty]) ++ (repl 13 ([.int .i64 0]))⟩ := by kernel_rfl
@[simp] theorem L71 : L 71 = some ⟨.slice 70, 1, 24, [.nsl]⟩ := by kernel_rfl
@[simp] theorem L72 : L 72 = some ⟨.func, 1, 8, [.nilF]⟩ := by kernel_rfl
@[simp] theorem L73 : L 73 = some ⟨.func, 1, 8, [.nilF]⟩ := by kernel_rfl
@[simp] theorem L76 : L 76 = some ⟨.arr 0 16, 0, 0, []⟩ := by kernel_rfl
@[simp] theorem L79 : L 79 = some ⟨.int .u32, 1, 4, [.int .u32 0]⟩ := by kernel_rfl
@[simp] theorem L80 : L 80 = some ⟨.int .u8, 1, 1, [.int .u8 0]⟩ := by kernel_rfl
@[simp] theorem L81 : L 81 = some ⟨.int .u8, 1, 1, [.int .u8 0]⟩ := by kernel_rfl
@[simp] theorem L82 : L 82 = some ⟨.func, 1, 8, [.nilF]⟩ := by kernel_rfl
@[simp] theorem L83 : L 83 = some ⟨.ptr 5, 1, 8, [.nilp]⟩ := by kernel_rfl
@[simp] theorem L84 : L 84 = some ⟨.int .i32, 1, 4, [.int .i32 0]⟩ := by kernel_rfl
@[simp] theorem L85 : L 85 = some ⟨.int .i32, 1, 4, [.int .i32 0]⟩ := by kernel_rfl
noncomputable def a2 : AFn := mkA Try.f2 [] [] [] [] [] []
noncomputable def a3 : AFn := mkA Try.f3 [4, 8, 9, 10, 11, 12, 13, 14, 15, 16, 17, 20, 23] [] [] [] [] []
noncomputable def a4 : AFn := mkA Try.f4 [2, 8, 9, 10, 11, 13, 15, 18, 26, 58, 68] [(11, [2, 9, 11, 13, 15], [11, 13])] [39] [] [(38, []), (39, []), (42, [])] []
noncomputable def a5 : AFn := mkA Try.f5 [4, 5, 6, 8, 9, 10, 11, 14, 17, 28, 37, 40, 54, 64] [(10, [0, 5, 6, 8, 9, 10], [6])] [] [] [] []
noncomputable def a6 : AFn := mkA Try.f6 [0, 2, 8, 9, 10, 11, 12, 13, 14, 15, 18, 24, 28, 57, 60] [] [] [] [] []
noncomputable def a7 : AFn := mkA Try.f7 [0, 6, 7, 8, 9, 10, 11, 12, 13, 16, 20, 24, 33, 45, 64] [(9, [0, 1, 2, 7, 8, 9], [19, 21, 29, 32, 36]), (17, [0, 1, 2, 7, 8, 10, 11, 12], [10, 19, 21, 29, 32, 36])] [] [] [] []
noncomputable def a8 : AFn := mkA Try.f8 [8, 9, 10, 11, 12, 13, 14, 15, 16, 17, 18, 21, 24, 27, 31, 40, 49, 66, 76, 82, 103] [(13, [0, 1, 2, 3, 9, 10, 11, 12], [26, 30, 34, 55]), (21, [1, 2, 3, 9, 10, 14, 15, 16], [14, 26, 30, 34, 55])] [] [] [] []
noncomputable def a9 : AFn := mkA Try.f9 [1, 4, 5, 6, 7, 8, 9, 10, 11, 12, 13, 15, 16, 19, 45, 63, 101] [(12, [1, 5, 6, 8, 9, 10, 11, 12], [42, 50, 54]), (18, [1, 5, 6, 9, 10, 11, 13, 15], [13, 42, 50, 54])] [] [] [] []
noncomputable def a10 : AFn := mkA Try.f10 [0, 1, 2] [] [] [] [] []
noncomputable def a11 : AFn := mkA Try.f11 [1, 3, 6, 7, 8, 26] [] [] [] [(42, [3]), (43, [8])] [(6, 6), (7, 7)]
noncomputable def a12 : AFn := mkA Try.f12 [1, 3, 6, 7, 8, 26, 32, 40, 44] [] [] [] [(60, [3]), (62, []), (63, [8])] [(6, 6), (7, 7)]
noncomputable def a13 : AFn := mkA Try.f13 [1, 2] [] [] [] [] []
noncomputable def a14 : AFn := mkA Try.f14 [4, 5, 6, 7, 8, 9, 10, 12, 13, 18] [(5, [0, 1, 4, 6, 7, 8, 12], [4, 6, 7])] [] [] [] []
noncomputable def a15 : AFn := mkA Try.f15 [4, 5, 6, 7, 8, 9, 10, 13, 19] [(5, [0, 1, 4, 6, 7, 8, 9], [4, 6, 7])] [] [] [] []
noncomputable def a16 : AFn := mkA Try.f16 [2, 3, 4] [] [] [] [] []
noncomputable def a17 : AFn := mkA Try.f17 [2, 3, 4] [] [] [] [] []
noncomputable def a18 : AFn := mkA Try.f18 [2, 3, 4, 5, 7, 17] [(2, [2, 3, 5], [2, 3])] [] [] [] []
noncomputable def a19 : AFn := mkA Try.f19 [0] [] [] [] [] []
noncomputable def a20 : AFn := mkA Try.f20 [0] [] [] [] [] []
noncomputable def a21 : AFn := mkA Try.f21 [4, 5, 10] [] [] [] [] []
noncomputable def a22 : AFn := mkA Try.f22 [2, 3, 4, 11] [(3, [0, 3, 4], [7, 20])] [2] [] [] []
noncomputable def a23 : AFn := mkA Try.f23 [2, 3, 7] [] [] [] [] []
noncomputable def a24 : AFn := mkA Try.f24 [4, 5, 6, 11, 20] [(3, [0, 1, 5, 6], [7])] [] [] [] []
noncomputable def a25 : AFn := mkA Try.f25 [4, 5, 9] [] [] [] [] []
noncomputable def a26 : AFn := mkA Try.f26 [2, 5] [] [] [] [] []
noncomputable def a27 : AFn := mkA Try.f27 [2, 4, 5, 6, 9, 13, 16, 22, 25, 30, 33, 39] [] [] [] [] []
noncomputable def a28 : AFn := mkA Try.f28 [3, 6, 7, 8, 9, 24, 29] [] [] [] [] []
noncomputable def a29 : AFn := mkA Try.f29 [2, 4, 5, 11, 22, 23, 26, 30] [] [] [] [] []
noncomputable def a30 : AFn := mkA Try.f30 [2, 4, 5, 6, 9, 12, 15, 18, 21, 24, 27, 32, 35, 45] [] [] [] [] []
noncomputable def a31 : AFn := mkA Try.f31 [2] [] [] [] [] []
noncomputable def a32 : AFn := mkA Try.f32 [2, 4, 5, 6, 20, 29, 33, 38, 41] [] [] [] [] []
noncomputable def a33 : AFn := mkA Try.f33 [0] [] [0] [] [] []
noncomputable def a34 : AFn := mkA Try.f34 [2, 3, 4, 7, 10, 13, 16, 19, 22, 25, 28, 31, 34, 37] [] [2] [] [] []
noncomputable def a35 : AFn := mkA Try.f35 [2, 4, 8] [] [] [] [] []
noncomputable def a36 : AFn := mkA Try.f36 [2] [] [] [] [] []
noncomputable def a37 : AFn := mkA Try.f37 [4, 5, 9] [] [] [] [] []
noncomputable def a38 : AFn := mkA Try.f38 [2, 5] [] [] [] [] []
noncomputable def a39 : AFn := mkA Try.f39 [0, 4, 5, 11, 20] [] [] [] [] []
noncomputable def a40 : AFn := mkA Try.f40 [3, 6, 10] [] [] [] [] []
noncomputable def a41 : AFn := mkA Try.f41 [0, 2, 3, 7, 13] [] [] [] [] []
noncomputable def a42 : AFn := mkA Try.f42 [4] [] [] [] [] []
noncomputable def a43 : AFn := mkA Try.f43 [0] [] [0] [] [] []
noncomputable def a44 : AFn := mkA Try.f44 [0, 2, 5, 8] [] [] [] [] []
noncomputable def a45 : AFn := mkA Try.f45 [0] [] [] [] [] []
noncomputable def a46 : AFn := mkA Try.f46 [0] [] [0] [] [] []

noncomputable def Ts : List (Nat × AFn) := [(2, a2), (3, a3), (4, a4), (5, a5), (6, a6), (7, a7), (8, a8), (9, a9), (10, a10), (11, a11), (12, a12), (13, a13), (14, a14), (15, a15), (16, a16), (17, a17), (18, a18), (19, a19), (20, a20), (21, a21), (22, a22), (23, a23), (24, a24), (25, a25), (26, a26), (27, a27), (28, a28), (29, a29), (30, a30), (31, a31), (32, a32), (33, a33), (34, a34), (35, a35), (36, a36), (37, a37), (38, a38), (39, a39), (40, a40), (41, a41), (42, a42), (43, a43), (44, a44), (45, a45), (46, a46)]
theorem Ts_ok : ∀ p ∈ Ts, FnOK Try.prog L p.1 p.2 := by
  intro p hp
  simp only [Ts, List.mem_cons, List.not_mem_nil, or_false] at hp
  rcases hp with rfl | rfl | rfl | rfl | rfl | rfl | rfl | rfl | rfl | rfl | rfl | rfl | rfl | rfl | rfl | rfl | rfl | rfl | rfl | rfl | rfl | rfl | rfl | rfl | rfl | rfl | rfl | rfl | rfl | rfl | rfl | rfl | rfl | rfl | rfl | rfl | rfl | rfl | rfl | rfl | rfl | rfl | rfl | rfl | rfl
  · exact mkA_ok Try.func2 (by kernel_rfl)
  · exact mkA_ok Try.func3 (by kernel_rfl)
  · exact mkA_ok Try.func4 (by kernel_rfl)
  · exact mkA_ok Try.func5 (by kernel_rfl)
  · exact mkA_ok Try.func6 (by kernel_rfl)
  · exact mkA_ok Try.func7 (by kernel_rfl)
  · exact mkA_ok Try.func8 (by kernel_rfl)
  · exact mkA_ok Try.func9 (by kernel_rfl)
  · exact mkA_ok Try.func10 (by kernel_rfl)
  · exact mkA_ok Try.func11 (by kernel_rfl)
  · exact mkA_ok Try.func12 (by kernel_rfl)
  · exact mkA_ok Try.func13 (by kernel_rfl)
  · exact mkA_ok Try.func14 (by kernel_rfl)
  · exact mkA_ok Try.func15 (by kernel_rfl)
  · exact mkA_ok Try.func16 (by kernel_rfl)
  · exact mkA_ok Try.func17 (by kernel_rfl)
  · exact mkA_ok Try.func18 (by kernel_rfl)
  · exact mkA_ok Try.func19 (by kernel_rfl)
  · exact mkA_ok Try.func20 (by kernel_rfl)
  · exact mkA_ok Try.func21 (by kernel_rfl)
  · exact mkA_ok Try.func22 (by kernel_rfl)
  · exact mkA_ok Try.func23 (by kernel_rfl)
  · exact mkA_ok Try.func24 (by kernel_rfl)
  · exact mkA_ok Try.func25 (by kernel_rfl)
  · exact mkA_ok Try.func26 (by kernel_rfl)
  · exact mkA_ok Try.func27 (by kernel_rfl)
  · exact mkA_ok Try.func28 (by kernel_rfl)
  · exact mkA_ok Try.func29 (by kernel_rfl)
  · exact mkA_ok Try.func30 (by kernel_rfl)
  · exact mkA_ok Try.func31 (by kernel_rfl)
  · exact mkA_ok Try.func32 (by kernel_rfl)
  · exact mkA_ok Try.func33 (by kernel_rfl)
  · exact mkA_ok Try.func34 (by kernel_rfl)
  · exact mkA_ok Try.func35 (by kernel_rfl)
  · exact mkA_ok Try.func36 (by kernel_rfl)
  · exact mkA_ok Try.func37 (by kernel_rfl)
  · exact mkA_ok Try.func38 (by kernel_rfl)
  · exact mkA_ok Try.func39 (by kernel_rfl)
  · exact mkA_ok Try.func40 (by kernel_rfl)
  · exact mkA_ok Try.func41 (by kernel_rfl)
  · exact mkA_ok Try.func42 (by kernel_rfl)
  · exact mkA_ok Try.func43 (by kernel_rfl)
  · exact mkA_ok Try.func44 (by kernel_rfl)
  · exact mkA_ok Try.func45 (by kernel_rfl)
  · exact mkA_ok Try.func46 (by kernel_rfl)
noncomputable def T (f : Nat) : Option Entry := withLaws [(47, idxLaw)] Ts f
theorem L_ok : LOK Try.prog L := lok (by kernel_rfl)
theorem T_ok : TableOK Try.prog L T := tokX (by
  intro p hp
  simp only [List.mem_cons, List.not_mem_nil, or_false] at hp
  rcases hp with rfl
  exact idx_ok Try.func47 (by kernel_rfl) (by kernel_rfl) (by kernel_rfl) (by kernel_rfl)) Ts_ok
theorem laid : laidOutB Try.prog = true := by kernel_rfl
theorem own : ownKnob Try.prog.godebug = none := by kernel_rfl

end Go.Proofs.Ytaohdpebkongmaa
