/- The functions and types of this seat, as the interpreter has them. Written by program (tools/Gen.lean). -/
import Derived.Test.YtnkpmgefeijffaaSimNil
import Derived.Test.YtnkpmgefeijffaaRows
import Derived.KernelRfl
set_option linter.unusedVariables false
set_option maxRecDepth 100000
namespace Go.Proofs.Ytnkpmgefeijffaa
open Go.Sim

def Ls : List (Nat × TI) := [
  (1, ⟨.func, 1, 8, [.nilF]⟩),
  (2, ⟨.int .i64, 1, 8, [.int .i64 0]⟩),
  (3, ⟨.int .i64, 1, 8, [.int .i64 0]⟩),
  (4, ⟨.bool, 1, 1, [.bool false]⟩),
  (5, ⟨.int .u8, 1, 1, [.int .u8 0]⟩),
  (6, ⟨.int .u8, 1, 1, [.int .u8 0]⟩),
  (7, ⟨.strct [(0, 2), (1, 3), (2, 4), (3, 6)], 4, 24, [.int .i64 0, .int .i64 0, .bool false, .int .u8 0]⟩),
  (8, ⟨.strct [(0, 2), (1, 3), (2, 4), (3, 6)], 4, 24, [.int .i64 0, .int .i64 0, .bool false, .int .u8 0]⟩),
  (9, ⟨.str, 1, 16, [.str ByteArray.empty]⟩),
  (10, ⟨.str, 1, 16, [.str ByteArray.empty]⟩),
  (11, ⟨.str, 1, 16, [.str ByteArray.empty]⟩),
  (12, ⟨.int .u64, 1, 8, [.int .u64 0]⟩),
  (15, ⟨.ptr 78, 1, 8, [.nilp]⟩),
  (16, ⟨.ptr 81, 1, 8, [.nilp]⟩),
  (17, ⟨.ptr 91, 1, 8, [.nilp]⟩),
  (20, ⟨.other, 1, 16, [.nilI]⟩),
  (21, ⟨.int .i32, 1, 4, [.int .i32 0]⟩),
  (22, ⟨.slice 42, 1, 24, [.nsl]⟩),
  (23, ⟨.func, 1, 8, [.nilF]⟩),
  (24, ⟨.arr 4 4, 4, 4, [.bool false, .bool false, .bool false, .bool false]⟩),
  (25, ⟨.arr 4 24, 16, 16, repl 4 ([.bool false, .bool false, .bool false, .bool false])⟩),
  (26, ⟨.strct [(0, 25)], 16, 16, (repl 4 ([.bool false, .bool false, .bool false, .bool false]))⟩),
  (27, ⟨.strct [(0, 25)], 16, 16, (repl 4 ([.bool false, .bool false, .bool false, .bool false]))⟩),
  (28, ⟨.strct [(0, 27), (16, 4), (17, 4), (18, 4), (19, 4), (20, 5), (21, 4)], 22, 22, ((repl 4 ([.bool false, .bool false, .bool false, .bool false]))) ++ ([.bool false]) ++ ([.bool false]) ++ ([.bool false]) ++ ([.bool false]) ++ ([.int .u8 0]) ++ ([.bool false])⟩),
  (29, ⟨.strct [(0, 27), (16, 4), (17, 4), (18, 4), (19, 4), (20, 5), (21, 4)], 22, 22, ((repl 4 ([.bool false, .bool false, .bool false, .bool false]))) ++ ([.bool false]) ++ ([.bool false]) ++ ([.bool false]) ++ ([.bool false]) ++ ([.int .u8 0]) ++ ([.bool false])⟩),
  (30, ⟨.func, 1, 8, [.nilF]⟩),
  (31, ⟨.strct [(0, 25)], 16, 16, (repl 4 ([.bool false, .bool false, .bool false, .bool false]))⟩),
  (32, ⟨.strct [(0, 25)], 16, 16, (repl 4 ([.bool false, .bool false, .bool false, .bool false]))⟩),
  (33, ⟨.strct [(0, 32), (16, 4), (17, 4), (18, 4), (19, 4), (20, 5), (21, 4)], 22, 22, ((repl 4 ([.bool false, .bool false, .bool false, .bool false]))) ++ ([.bool false]) ++ ([.bool false]) ++ ([.bool false]) ++ ([.bool false]) ++ ([.int .u8 0]) ++ ([.bool false])⟩),
  (34, ⟨.strct [(0, 32), (16, 4), (17, 4), (18, 4), (19, 4), (20, 5), (21, 4)], 22, 22, ((repl 4 ([.bool false, .bool false, .bool false, .bool false]))) ++ ([.bool false]) ++ ([.bool false]) ++ ([.bool false]) ++ ([.bool false]) ++ ([.int .u8 0]) ++ ([.bool false])⟩),
  (35, ⟨.func, 1, 8, [.nilF]⟩),
  (36, ⟨.func, 1, 8, [.nilF]⟩),
  (37, ⟨.func, 1, 8, [.nilF]⟩),
  (38, ⟨.slice 5, 1, 24, [.nsl]⟩),
  (40, ⟨.func, 1, 8, [.nilF]⟩),
  (41, ⟨.strct [(0, 3), (1, 3), (2, 3), (3, 3), (4, 3), (5, 3), (6, 3)], 7, 56, [.int .i64 0, .int .i64 0, .int .i64 0, .int .i64 0, .int .i64 0, .int .i64 0, .int .i64 0]⟩),
  (42, ⟨.strct [(0, 3), (1, 3), (2, 3), (3, 3), (4, 3), (5, 3), (6, 3)], 7, 56, [.int .i64 0, .int .i64 0, .int .i64 0, .int .i64 0, .int .i64 0, .int .i64 0, .int .i64 0]⟩),
  (44, ⟨.func, 1, 8, [.nilF]⟩),
  (45, ⟨.func, 1, 8, [.nilF]⟩),
  (46, ⟨.func, 1, 8, [.nilF]⟩),
  (47, ⟨.func, 1, 8, [.nilF]⟩),
  (48, ⟨.func, 1, 8, [.nilF]⟩),
  (49, ⟨.slice 3, 1, 24, [.nsl]⟩),
  (50, ⟨.func, 1, 8, [.nilF]⟩),
  (51, ⟨.func, 1, 8, [.nilF]⟩),
  (52, ⟨.func, 1, 8, [.nilF]⟩),
  (53, ⟨.func, 1, 8, [.nilF]⟩),
  (54, ⟨.func, 1, 8, [.nilF]⟩),
  (55, ⟨.func, 1, 8, [.nilF]⟩),
  (56, ⟨.func, 1, 8, [.nilF]⟩),
  (57, ⟨.arr 2 4, 2, 2, [.bool false, .bool false]⟩),
  (58, ⟨.int .u64, 1, 8, [.int .u64 0]⟩),
  (59, ⟨.func, 1, 8, [.nilF]⟩),
  (60, ⟨.func, 1, 8, [.nilF]⟩),
  (61, ⟨.func, 1, 8, [.nilF]⟩),
  (62, ⟨.func, 1, 8, [.nilF]⟩),
  (64, ⟨.func, 1, 8, [.nilF]⟩),
  (65, ⟨.func, 1, 8, [.nilF]⟩),
  (66, ⟨.func, 1, 8, [.nilF]⟩),
  (67, ⟨.ptr 27, 1, 8, [.nilp]⟩),
  (68, ⟨.func, 1, 8, [.nilF]⟩),
  (69, ⟨.func, 1, 8, [.nilF]⟩),
  (70, ⟨.func, 1, 8, [.nilF]⟩),
  (71, ⟨.func, 1, 8, [.nilF]⟩),
  (72, ⟨.func, 1, 8, [.nilF]⟩),
  (73, ⟨.ptr 32, 1, 8, [.nilp]⟩),
  (74, ⟨.func, 1, 8, [.nilF]⟩),
  (75, ⟨.func, 1, 8, [.nilF]⟩),
  (76, ⟨.func, 1, 8, [.nilF]⟩),
  (79, ⟨.arr 0 16, 0, 0, []⟩),
  (82, ⟨.func, 1, 8, [.nilF]⟩),
  (83, ⟨.int .u32, 1, 4, [.int .u32 0]⟩),
  (84, ⟨.int .u8, 1, 1, [.int .u8 0]⟩),
  (85, ⟨.int .u8, 1, 1, [.int .u8 0]⟩),
  (86, ⟨.func, 1, 8, [.nilF]⟩),
  (87, ⟨.ptr 5, 1, 8, [.nilp]⟩),
  (88, ⟨.int .i32, 1, 4, [.int .i32 0]⟩),
  (89, ⟨.int .i32, 1, 4, [.int .i32 0]⟩)]
noncomputable def L (t : Nat) : Option TI := aget t Ls
@[simp] theorem L1 : L 1 = some ⟨.func, 1, 8, [.nilF]⟩ := by kernel_rfl
@[simp] theorem L2 : L 2 = some ⟨.int .i64, 1, 8, [.int .i64 0]⟩ := by kernel_rfl
@[simp] theorem L3 : L 3 = some ⟨.int .i64, 1, 8, [.int .i64 0]⟩ := by kernel_rfl
@[simp] theorem L4 : L 4 = some ⟨.bool, 1, 1, [.bool false]⟩ := by kernel_rfl
@[simp] theorem L5 : L 5 = some ⟨.int .u8, 1, 1, [.int .u8 0]⟩ := by kernel_rfl
@[simp] theorem L6 : L 6 = some ⟨.int .u8, 1, 1, [.int .u8 0]⟩ := by kernel_rfl
@[simp] theorem L7 : L 7 = some ⟨.strct [(0, 2), (1, 3), (2, 4), (3, 6)], 4, 24, [.int .i64 0, .int .i64 0, .bool false, .int .u8 0]⟩ := by kernel_rfl
@[simp] theorem L8 : L 8 = some ⟨.strct [(0, 2), (1, 3), (2, 4), (3, 6)], 4, 24, [.int .i64 0, .int .i64 0, .bool false, .int .u8 0]⟩ := by kernel_rfl
@[simp] theorem L9 : L 9 = some ⟨.str, 1, 16, [.str ByteArray.empty]⟩ := by kernel_rfl
@[simp] theorem L10 : L 10 = some ⟨.str, 1, 16, [.str ByteArray.empty]⟩ := by kernel_rfl
@[simp] theorem L11 : L 11 = some ⟨.str, 1, 16, [.str ByteArray.empty]⟩ := by kernel_rfl
@[simp] theorem L12 : L 12 = some ⟨.int .u64, 1, 8, [.int .u64 0]⟩ := by kernel_rfl
@[simp] theorem L15 : L 15 = some ⟨.ptr 78, 1, 8, [.nilp]⟩ := by kernel_rfl
@[simp] theorem L16 : L 16 = some ⟨.ptr 81, 1, 8, [.nilp]⟩ := by kernel_rfl
@[simp] theorem L17 : L 17 = some ⟨.ptr 91, 1, 8, [.nilp]⟩ := by kernel_rfl
@[simp] theorem L20 : L 20 = some ⟨.other, 1, 16, [.nilI]⟩ := by kernel_rfl
@[simp] theorem L21 : L 21 = some ⟨.int .i32, 1, 4, [.int .i32 0]⟩ := by kernel_rfl
@[simp] theorem L22 : L 22 = some ⟨.slice 42, 1, 24, [.nsl]⟩ := by kernel_rfl
@[simp] theorem L23 : L 23 = some ⟨.func, 1, 8, [.nilF]⟩ := by kernel_rfl
@[simp] theorem L24 : L 24 = some ⟨.arr 4 4, 4, 4, [.bool false, .bool false, .bool false, .bool false]⟩ := by kernel_rfl
@[simp] theorem L25 : L 25 = some ⟨.arr 4 24, 16, 16, repl 4 ([.bool false, .bool false, .bool false, .bool false])⟩ := by kernel_rfl
@[simp] theorem L26 : L 26 = some ⟨.strct [(0, 25)], 16, 16, (repl 4 ([.bool false, .bool false, .bool false, .bool false]))⟩ := by kernel_rfl
@[simp] theorem L27 : L 27 = some ⟨.strct [(0, 25)], 16, 16, (repl 4 ([.bool false, .bool false, .bool false, .bool false]))⟩ := by kernel_rfl
@[simp] theorem L28 : L 28 = some ⟨.strct [(0, 27), (16, 4), (17, 4), (18, 4), (19, 4), (20, 5), (21, 4)], 22, 22, ((repl 4 ([.bool false, .bool false, .bool false, .bool false]))) ++ ([.bool false]) ++ ([.bool false]) ++ ([.bool false]) ++ ([.bool false]) ++ ([.int .u8 0]) ++ ([.bool false])⟩ := by kernel_rfl
@[simp] theorem L29 : L 29 = some ⟨.strct [(0, 27), (16, 4), (17, 4), (18, 4), (19, 4), (20, 5), (21, 4)], 22, 22, ((repl 4 ([.bool false, .bool false, .bool false, .bool false]))) ++ ([.bool false]) ++ ([.bool false]) ++ ([.bool false]) ++ ([.bool false]) ++ ([.int .u8 0]) ++ ([.bool false])⟩ := by kernel_rfl
@[simp] theorem L30 : L 30 = some ⟨.func, 1, 8, [.nilF]⟩ := by kernel_rfl
@[simp] theorem L31 : L 31 = some ⟨.strct [(0, 25)], 16, 16, (repl 4 ([.bool false, .bool false, .bool false, .bool false]))⟩ := by kernel_rfl
@[simp] theorem L32 : L 32 = some ⟨.strct [(0, 25)], 16, 16, (repl 4 ([.bool false, .bool false, .bool false, .bool false]))⟩ := by kernel_rfl
@[simp] theorem L33 : L 33 = some ⟨.strct [(0, 32), (16, 4), (17, 4), (18, 4), (19, 4), (20, 5), (21, 4)], 22, 22, ((repl 4 ([.bool false, .bool false, .bool false, .bool false]))) ++ ([.bool false]) ++ ([.bool false]) ++ ([.bool false]) ++ ([.bool false]) ++ ([.int .u8 0]) ++ ([.bool false])⟩ := by kernel_rfl
@[simp] theorem L34 : L 34 = some ⟨.strct [(0, 32), (16, 4), (17, 4), (18, 4), (19, 4), (20, 5), (21, 4)], 22, 22, ((repl 4 ([.bool false, .bool false, .bool false, .bool false]))) ++ ([.bool false]) ++ ([.bool false]) ++ ([.bool false]) ++ ([.bool false]) ++ ([.int .u8 0]) ++ ([.bool false])⟩ := by kernel_rfl
@[simp] theorem L35 : L 35 = some ⟨.func, 1, 8, [.nilF]⟩ := by kernel_rfl
@[simp] theorem L36 : L 36 = some ⟨.func, 1, 8, [.nilF]⟩ := by kernel_rfl
@[simp] theorem L37 : L 37 = some ⟨.func, 1, 8, [.nilF]⟩ := by kernel_rfl
@[simp] theorem L38 : L 38 = some ⟨.slice 5, 1, 24, [.nsl]⟩ := by kernel_rfl
@[simp] theorem L40 : L 40 = some ⟨.func, 1, 8, [.nilF]⟩ := by kernel_rfl
@[simp] theorem L41 : L 41 = some ⟨.strct [(0, 3), (1, 3), (2, 3), (3, 3), (4, 3), (5, 3), (6, 3)], 7, 56, [.int .i64 0, .int .i64 0, .int .i64 0, .int .i64 0, .int .i64 0, .int .i64 0, .int .i64 0]⟩ := by kernel_rfl
@[simp] theorem L42 : L 42 = some ⟨.strct [(0, 3), (1, 3), (2, 3), (3, 3), (4, 3), (5, 3), (6, 3)], 7, 56, [.int .i64 0, .int .i64 0, .int .i64 0, .int .i64 0, .int .i64 0, .int .i64 0, .int .i64 0]⟩ := by kernel_rfl
@[simp] theorem L44 : L 44 = some ⟨.func, 1, 8, [.nilF]⟩ := by kernel_rfl
@[simp] theorem L45 : L 45 = some ⟨.func, 1, 8, [.nilF]⟩ := by kernel_rfl
@[simp] theorem L46 : L 46 = some ⟨.func, 1, 8, [.nilF]⟩ := by kernel_rfl
@[simp] theorem L47 : L 47 = some ⟨.func, 1, 8, [.nilF]⟩ := by kernel_rfl
@[simp] theorem L48 : L 48 = some ⟨.func, 1, 8, [.nilF]⟩ := by kernel_rfl
@[simp] theorem L49 : L 49 = some ⟨.slice 3, 1, 24, [.nsl]⟩ := by kernel_rfl
@[simp] theorem L50 : L 50 = some ⟨.func, 1, 8, [.nilF]⟩ := by kernel_rfl
@[simp] theorem L51 : L 51 = some ⟨.func, 1, 8, [.nilF]⟩ := by kernel_rfl
@[simp] theorem L52 : L 52 = some ⟨.func, 1, 8, [.nilF]⟩ := by kernel_rfl
@[simp] theorem L53 : L 53 = some ⟨.func, 1, 8, [.nilF]⟩ := by kernel_rfl
@[simp] theorem L54 : L 54 = some ⟨.func, 1, 8, [.nilF]⟩ := by kernel_rfl
@[simp] theorem L55 : L 55 = some ⟨.func, 1, 8, [.nilF]⟩ := by kernel_rfl
@[simp] theorem L56 : L 56 = some ⟨.func, 1, 8, [.nilF]⟩ := by kernel_rfl
@[simp] theorem L57 : L 57 = some ⟨.arr 2 4, 2, 2, [.bool false, .bool false]⟩ := by kernel_rfl
@[simp] theorem L58 : L 58 = some ⟨.int .u64, 1, 8, [.int .u64 0]⟩ := by kernel_rfl
@[simp] theorem L59 : L 59 = some ⟨.func, 1, 8, [.nilF]⟩ := by kernel_rfl
@[simp] theorem L60 : L 60 = some ⟨.func, 1, 8, [.nilF]⟩ := by kernel_rfl
@[simp] theorem L61 : L 61 = some ⟨.func, 1, 8, [.nilF]⟩ := by kernel_rfl
@[simp] theorem L62 : L 62 = some ⟨.func, 1, 8, [.nilF]⟩ := by kernel_rfl
@[simp] theorem L64 : L 64 = some ⟨.func, 1, 8, [.nilF]⟩ := by kernel_rfl
@[simp] theorem L65 : L 65 = some ⟨.func, 1, 8, [.nilF]⟩ := by kernel_rfl
@[simp] theorem L66 : L 66 = some ⟨.func, 1, 8, [.nilF]⟩ := by kernel_rfl
@[simp] theorem L67 : L 67 = some ⟨.ptr 27, 1, 8, [.nilp]⟩ := by kernel_rfl
@[simp] theorem L68 : L 68 = some ⟨.func, 1, 8, [.nilF]⟩ := by kernel_rfl
@[simp] theorem L69 : L 69 = some ⟨.func, 1, 8, [.nilF]⟩ := by kernel_rfl
@[simp] theorem L70 : L 70 = some ⟨.func, 1, 8, [.nilF]⟩ := by kernel_rfl
@[simp] theorem L71 : L 71 = some ⟨.func, 1, 8, [.nilF]⟩ := by kernel_rfl
@[simp] theorem L72 : L 72 = some ⟨.func, 1, 8, [.nilF]⟩ := by kernel_rfl
@[simp] theorem L73 : L 73 = some ⟨.ptr 32, 1, 8, [.nilp]⟩ := by kernel_rfl
@[simp] theorem L74 : L 74 = some ⟨.func, 1, 8, [.nilF]⟩ := by kernel_rfl
@[simp] theorem L75 : L 75 = some ⟨.func, 1, 8, [.nilF]⟩ := by kernel_rfl
@[simp] theorem L76 : L 76 = some ⟨.func, 1, 8, [.nilF]⟩ := by kernel_rfl
@[simp] theorem L79 : L 79 = some ⟨.arr 0 16, 0, 0, []⟩ := by kernel_rfl
@[simp] theorem L82 : L 82 = some ⟨.func, 1, 8, [.nilF]⟩ := by kernel_rfl
@[simp] theorem L83 : L 83 = some ⟨.int .u32, 1, 4, [.int .u32 0]⟩ := by kernel_rfl
@[simp] theorem L84 : L 84 = some ⟨.int .u8, 1, 1, [.int .u8 0]⟩ := by kernel_rfl
@[simp] theorem L85 : L 85 = some ⟨.int .u8, 1, 1, [.int .u8 0]⟩ := by kernel_rfl
@[simp] theorem L86 : L 86 = some ⟨.func, 1, 8, [.nilF]⟩ := by kernel_rfl
@[simp] theorem L87 : L 87 = some ⟨.ptr 5, 1, 8, [.nilp]⟩ := by kernel_rfl
@[simp] theorem L88 : L 88 = some ⟨.int .i32, 1, 4, [.int .i32 0]⟩ := by kernel_rfl
@[simp] theorem L89 : L 89 = some ⟨.int .i32, 1, 4, [.int .i32 0]⟩ := by kernel_rfl
noncomputable def a2 : AFn := mkA Try.f2 [] [] [] [] [] [] []
noncomputable def a3 : AFn := mkA Try.f3 [2, 3, 4, 5, 6, 7, 8, 9, 10, 13, 16, 24, 28, 75] [(11, [0, 3, 4, 5, 6], [4, 5])] [] [] [(20, [4]), (21, []), (22, [5]), (23, []), (32, [4]), (35, []), (36, []), (37, []), (41, [5]), (44, []), (45, []), (46, []), (51, [4]), (52, []), (53, [5]), (54, []), (59, []), (63, [4]), (64, []), (65, [5]), (66, []), (70, [4]), (71, []), (72, [5]), (73, [])] [(7, 7), (9, 9)] []
noncomputable def a4 : AFn := mkA Try.f4 [2, 3, 4, 5, 6, 7, 8, 9, 10, 11, 12, 13, 14, 17, 20, 26, 43, 62, 65, 98] [(10, [0, 3, 4, 5, 6, 7], [4])] [] [] [(71, [70]), (76, []), (81, [12]), (87, [12]), (92, [10]), (93, []), (94, [12]), (95, []), (96, [])] [] []
noncomputable def a5 : AFn := mkA Try.f5 [0, 1, 8, 9, 10, 11, 12, 13, 14, 15, 16, 17, 18, 21, 26, 58, 60] [] [] [] [(77, [11]), (88, []), (89, []), (94, []), (95, []), (100, []), (101, []), (106, []), (107, []), (115, []), (116, []), (119, [11]), (125, []), (128, [13]), (129, []), (130, [11]), (131, []), (132, []), (136, [11]), (138, [11])] [] [77, 119, 125, 129, 131, 132, 138]
noncomputable def a6 : AFn := mkA Try.f6 [2, 4, 5, 6, 7, 8, 9, 10, 11, 12, 13, 14, 15, 18, 21, 27] [(8, [1, 2, 5, 6, 7], [2, 6])] [] [] [(77, [9]), (78, []), (79, [6]), (80, []), (81, []), (85, [12]), (87, [6]), (92, [12]), (94, [6]), (98, [14]), (99, []), (100, []), (101, []), (102, [])] [] []
noncomputable def a7 : AFn := mkA Try.f7 [2, 3, 4, 5, 6, 7, 8, 9, 11, 12, 15, 18, 24, 40, 79] [(9, [0, 3, 4, 5, 6], [4])] [] [] [] [] []
noncomputable def a8 : AFn := mkA Try.f8 [2, 3, 4, 5, 6, 7, 8, 9, 11, 12, 15, 18, 24, 57, 61, 88] [(9, [0, 3, 4, 5, 6], [4, 5])] [] [] [] [] []
noncomputable def a9 : AFn := mkA Try.f9 [0, 2] [] [] [] [] [] []
noncomputable def a10 : AFn := mkA Try.f10 [0] [] [] [] [] [] []
noncomputable def a11 : AFn := mkA Try.f11 [0] [] [] [] [] [] []
noncomputable def a12 : AFn := mkA Try.f12 [2, 3, 4, 5, 6, 8, 12, 29] [(2, [2, 3, 5], [2, 3]), (5, [2, 3, 5, 6], [2, 3])] [] [] [] [] []
noncomputable def a13 : AFn := mkA Try.f13 [1, 2, 3, 4, 5, 20, 24] [(3, [1, 2, 3, 4], [1, 2, 3]), (6, [1, 2, 3, 4, 5], [1, 2, 3])] [] [] [(32, [1]), (35, [3]), (36, [3])] [(36, 3)] []
noncomputable def a14 : AFn := mkA Try.f14 [2, 3, 4, 5, 6, 9, 12, 13, 22, 33] [] [5, 6] [] [] [] []
noncomputable def a15 : AFn := mkA Try.f15 [2, 3, 4, 5, 6, 7, 8, 9, 10, 11, 14, 62, 72, 84, 96, 106, 116, 126, 150, 174, 200, 219, 236, 268, 297] [] [5, 6] [] [(213, [3]), (217, [2]), (262, [3]), (266, [2])] [] []
noncomputable def a16 : AFn := mkA Try.f16 [4, 5, 6, 11, 15, 28] [(4, [0, 1, 5], [])] [] [] [] [] []
noncomputable def a17 : AFn := mkA Try.f17 [1, 2] [] [] [] [] [] []
noncomputable def a18 : AFn := mkA Try.f18 [1, 2, 3, 5, 9] [] [] [] [] [] []
noncomputable def a19 : AFn := mkA Try.f19 [1, 2] [] [] [] [] [] []
noncomputable def a20 : AFn := mkA Try.f20 [1, 2, 3, 5, 9] [] [] [] [] [] []
noncomputable def a21 : AFn := mkA Try.f21 [4, 5, 10] [] [] [] [] [] []
noncomputable def a22 : AFn := mkA Try.f22 [0, 1] [] [] [] [] [] []
noncomputable def a23 : AFn := mkA Try.f23 [6] [] [] [] [] [] []
noncomputable def a24 : AFn := mkA Try.f24 [4, 5, 6, 7, 8, 13] [(3, [0, 1, 5, 7], [0])] [] [] [] [] []
noncomputable def a25 : AFn := mkA Try.f25 [0, 1] [] [] [] [] [] []
noncomputable def a26 : AFn := mkA Try.f26 [2, 4, 5, 6, 7, 11, 17, 23, 27, 31] [] [5] [] [(13, [2]), (14, [2]), (15, []), (16, [])] [(4, 4)] []
noncomputable def a27 : AFn := mkA Try.f27 [3, 6, 7, 8, 9, 10, 11, 14, 16, 21, 30, 37, 46, 53, 58, 61] [] [7] [] [(26, [3]), (27, [3]), (28, []), (29, []), (54, [3]), (55, [3]), (57, []), (62, [3]), (63, [3]), (64, []), (65, [])] [(6, 6)] []
noncomputable def a28 : AFn := mkA Try.f28 [4, 8, 9, 10, 11, 12, 13, 14, 31, 40, 52, 56, 66] [] [9] [] [(48, [4]), (49, [4]), (51, []), (76, [4]), (77, [4]), (78, []), (79, [])] [(8, 8)] []
noncomputable def a29 : AFn := mkA Try.f29 [2, 3, 9] [] [] [] [] [] []
noncomputable def a30 : AFn := mkA Try.f30 [2, 3, 9] [] [] [] [] [] []
noncomputable def a31 : AFn := mkA Try.f31 [4, 5, 6, 8, 14] [(3, [0, 1, 5, 6], [0])] [] [] [] [] []
noncomputable def a32 : AFn := mkA Try.f32 [8, 25] [] [] [] [] [] []
noncomputable def a33 : AFn := mkA Try.f33 [6] [] [] [] [] [] []
noncomputable def a34 : AFn := mkA Try.f34 [4, 5] [] [] [] [] [] []
noncomputable def a35 : AFn := mkA Try.f35 [2] [] [] [] [] [] []
noncomputable def a36 : AFn := mkA Try.f36 [4] [] [4] [] [] [] []
noncomputable def a37 : AFn := mkA Try.f37 [2, 3, 9] [] [] [] [] [] []
noncomputable def a38 : AFn := mkA Try.f38 [2, 4] [] [4] [] [] [] []
noncomputable def a39 : AFn := mkA Try.f39 [6] [] [6] [] [] [] []
noncomputable def a40 : AFn := mkA Try.f40 [2, 3] [] [] [] [] [] []
noncomputable def a41 : AFn := mkA Try.f41 [8, 25] [] [] [] [] [] []
noncomputable def a42 : AFn := mkA Try.f42 [2] [] [] [] [] [] []
noncomputable def a43 : AFn := mkA Try.f43 [2, 3] [] [] [] [] [] []
noncomputable def a44 : AFn := mkA Try.f44 [4, 5, 9] [] [] [] [] [] []
noncomputable def a45 : AFn := mkA Try.f45 [4, 5, 6, 12] [] [] [] [] [] []

noncomputable def Ts : List (Nat × AFn) := [(2, a2), (3, a3), (4, a4), (5, a5), (6, a6), (7, a7), (8, a8), (9, a9), (10, a10), (11, a11), (12, a12), (13, a13), (14, a14), (15, a15), (16, a16), (17, a17), (18, a18), (19, a19), (20, a20), (21, a21), (22, a22), (23, a23), (24, a24), (25, a25), (26, a26), (27, a27), (28, a28), (29, a29), (30, a30), (31, a31), (32, a32), (33, a33), (34, a34), (35, a35), (36, a36), (37, a37), (38, a38), (39, a39), (40, a40), (41, a41), (42, a42), (43, a43), (44, a44), (45, a45)]
theorem Ts_ok : ∀ p ∈ Ts, FnOK Try.prog L p.1 p.2 := by
  intro p hp
  simp only [Ts, List.mem_cons, List.not_mem_nil, or_false] at hp
  rcases hp with rfl | rfl | rfl | rfl | rfl | rfl | rfl | rfl | rfl | rfl | rfl | rfl | rfl | rfl | rfl | rfl | rfl | rfl | rfl | rfl | rfl | rfl | rfl | rfl | rfl | rfl | rfl | rfl | rfl | rfl | rfl | rfl | rfl | rfl | rfl | rfl | rfl | rfl | rfl | rfl | rfl | rfl | rfl | rfl
  · exact mkA_ok Try.func2 (by kernel_rfl)
  · exact mkA_ok Try.func3 (by kernel_rfl)
  · exact mkA_ok Try.func4 (by kernel_rfl)
  · exact mkA_ok Try.func5 (by kernel_rfl)
  · exact mkA_ok Try.func6 (by kernel_rfl)
  · exact mkA_ok Try.func7 (by kernel_rfl)
  · exact mkA_ok Try.func8 (by kernel_rfl)
  · exact mkA_ok Try.func9 (by kernel_rfl)
  · exact mkA_ok Try.func10 (by kernel_rfl)
  · exact mkA_ok Try.func11 (by kernel_rfl)
  · exact mkA_ok Try.func12 (by kernel_rfl)
  · exact mkA_ok Try.func13 (by kernel_rfl)
  · exact mkA_ok Try.func14 (by kernel_rfl)
  · exact mkA_ok Try.func15 (by kernel_rfl)
  · exact mkA_ok Try.func16 (by kernel_rfl)
  · exact mkA_ok Try.func17 (by kernel_rfl)
  · exact mkA_ok Try.func18 (by kernel_rfl)
  · exact mkA_ok Try.func19 (by kernel_rfl)
  · exact mkA_ok Try.func20 (by kernel_rfl)
  · exact mkA_ok Try.func21 (by kernel_rfl)
  · exact mkA_ok Try.func22 (by kernel_rfl)
  · exact mkA_ok Try.func23 (by kernel_rfl)
  · exact mkA_ok Try.func24 (by kernel_rfl)
  · exact mkA_ok Try.func25 (by kernel_rfl)
  · exact mkA_ok Try.func26 (by kernel_rfl)
  · exact mkA_ok Try.func27 (by kernel_rfl)
  · exact mkA_ok Try.func28 (by kernel_rfl)
  · exact mkA_ok Try.func29 (by kernel_rfl)
  · exact mkA_ok Try.func30 (by kernel_rfl)
  · exact mkA_ok Try.func31 (by kernel_rfl)
  · exact mkA_ok Try.func32 (by kernel_rfl)
  · exact mkA_ok Try.func33 (by kernel_rfl)
  · exact mkA_ok Try.func34 (by kernel_rfl)
  · exact mkA_ok Try.func35 (by kernel_rfl)
  · exact mkA_ok Try.func36 (by kernel_rfl)
  · exact mkA_ok Try.func37 (by kernel_rfl)
  · exact mkA_ok Try.func38 (by kernel_rfl)
  · exact mkA_ok Try.func39 (by kernel_rfl)
  · exact mkA_ok Try.func40 (by kernel_rfl)
  · exact mkA_ok Try.func41 (by kernel_rfl)
  · exact mkA_ok Try.func42 (by kernel_rfl)
  · exact mkA_ok Try.func43 (by kernel_rfl)
  · exact mkA_ok Try.func44 (by kernel_rfl)
  · exact mkA_ok Try.func45 (by kernel_rfl)
noncomputable def T (f : Nat) : Option Entry := (aget f Ts).map .code
theorem L_ok : LOK Try.prog L := lok (by kernel_rfl)
theorem T_ok : TableOK Try.prog L T := tok Ts_ok
theorem laid : laidOutB Try.prog = true := by kernel_rfl
theorem own : ownKnob Try.prog.godebug = none := by kernel_rfl

end Go.Proofs.Ytnkpmgefeijffaa
