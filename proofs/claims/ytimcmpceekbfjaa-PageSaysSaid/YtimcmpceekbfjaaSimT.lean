/- The functions and types of this seat, as the interpreter has them. Written by program (tools/Gen.lean). -/
import Derived.Test.YtimcmpceekbfjaaSimNil
import Derived.Test.YtimcmpceekbfjaaRows
import Derived.KernelRfl
set_option linter.unusedVariables false
set_option maxRecDepth 100000
namespace Go.Proofs.Ytimcmpceekbfjaa
open Go.Sim

def Ls : List (Nat × TI) := [
  (1, ⟨.func, 1, 8, [.nilF]⟩),
  (2, ⟨.int .i64, 1, 8, [.int .i64 0]⟩),
  (3, ⟨.int .i64, 1, 8, [.int .i64 0]⟩),
  (4, ⟨.bool, 1, 1, [.bool false]⟩),
  (5, ⟨.int .u8, 1, 1, [.int .u8 0]⟩),
  (6, ⟨.int .u8, 1, 1, [.int .u8 0]⟩),
  (7, ⟨.strct [(0, 2), (1, 3), (2, 4), (3, 6)], 4, 24, [.int .i64 0, .int .i64 0, .bool false, .int .u8 0]⟩),
  (8, ⟨.strct [(0, 2), (1, 3), (2, 4), (3, 6)], 4, 24, [.int .i64 0, .int .i64 0, .bool false, .int .u8 0]⟩),
  (9, ⟨.str, 1, 16, [.str ByteArray.empty]⟩),
  (10, ⟨.str, 1, 16, [.str ByteArray.empty]⟩),
  (11, ⟨.str, 1, 16, [.str ByteArray.empty]⟩),
  (12, ⟨.int .u64, 1, 8, [.int .u64 0]⟩),
  (15, ⟨.ptr 77, 1, 8, [.nilp]⟩),
  (16, ⟨.ptr 80, 1, 8, [.nilp]⟩),
  (17, ⟨.ptr 89, 1, 8, [.nilp]⟩),
  (20, ⟨.other, 1, 16, [.nilI]⟩),
  (21, ⟨.int .i32, 1, 4, [.int .i32 0]⟩),
  (22, ⟨.arr 40 5, 40, 40, repl 40 ([.int .u8 0])⟩),
  (23, ⟨.slice 5, 1, 24, [.nsl]⟩),
  (24, ⟨.func, 1, 8, [.nilF]⟩),
  (25, ⟨.func, 1, 8, [.nilF]⟩),
  (26, ⟨.func, 1, 8, [.nilF]⟩),
  (27, ⟨.func, 1, 8, [.nilF]⟩),
  (28, ⟨.slice 3, 1, 24, [.nsl]⟩),
  (29, ⟨.strct [(0, 3), (1, 3), (2, 3)], 3, 24, [.int .i64 0, .int .i64 0, .int .i64 0]⟩),
  (30, ⟨.strct [(0, 3), (1, 3), (2, 3)], 3, 24, [.int .i64 0, .int .i64 0, .int .i64 0]⟩),
  (31, ⟨.arr 11 4, 11, 11, [.bool false, .bool false, .bool false, .bool false, .bool false, .bool false, .bool false, .bool false, .bool false, .bool false, .bool false]⟩),
  (32, ⟨.strct [(0, 30), (3, 31), (14, 3)], 15, 48, ([.int .i64 0, .int .i64 0, .int .i64 0]) ++ ([.bool false, .bool false, .bool false, .bool false, .bool false, .bool false, .bool false, .bool false, .bool false, .bool false, .bool false]) ++ ([.int .i64 0])⟩),
  (33, ⟨.strct [(0, 30), (3, 31), (14, 3)], 15, 48, ([.int .i64 0, .int .i64 0, .int .i64 0]) ++ ([.bool false, .bool false, .bool false, .bool false, .bool false, .bool false, .bool false, .bool false, .bool false, .bool false, .bool false]) ++ ([.int .i64 0])⟩),
  (34, ⟨.arr 25 22, 1000, 1000, repl 25 (repl 40 ([.int .u8 0]))⟩),
  (35, ⟨.arr 25 4, 25, 25, repl 25 ([.bool false])⟩),
  (36, ⟨.slice 42, 1, 24, [.nsl]⟩),
  (37, ⟨.arr 6 30, 18, 144, repl 6 ([.int .i64 0, .int .i64 0, .int .i64 0])⟩),
  (38, ⟨.strct [(0, 33), (15, 34), (1015, 35), (1040, 36), (1041, 37), (1059, 4), (1060, 3)], 1061, 1264, (([.int .i64 0, .int .i64 0, .int .i64 0]) ++ ([.bool false, .bool false, .bool false, .bool false, .bool false, .bool false, .bool false, .bool false, .bool false, .bool false, .bool false]) ++ ([.int .i64 0])) ++ (repl 25 (repl 40 ([.int .u8 0]))) ++ (repl 25 ([.bool false])) ++ [.nsl] ++ (repl 6 ([.int .i64 0, .int .i64 0, .int .i64 0])) ++ ([.bool false]) ++ ([.int .i64 0])⟩),
  (39, ⟨.strct [(0, 33), (15, 34), (1015, 35), (1040, 36), (1041, 37), (1059, 4), (1060, 3)], 1061, 1264, (([.int .i64 0, .int .i64 0, .int .i64 0]) ++ ([.bool false, .bool false, .bool false, .bool false, .bool false, .bool false, .bool false, .bool false, .bool false, .bool false, .bool false]) ++ ([.int .i64 0])) ++ (repl 25 (repl 40 ([.int .u8 0]))) ++ (repl 25 ([.bool false])) ++ [.nsl] ++ (repl 6 ([.int .i64 0, .int .i64 0, .int .i64 0])) ++ ([.bool false]) ++ ([.int .i64 0])⟩),
  (40, ⟨.func, 1, 8, [.nilF]⟩),
  (41, ⟨.strct [(0, 3), (1, 3), (2, 3)], 3, 24, [.int .i64 0, .int .i64 0, .int .i64 0]⟩),
  (42, ⟨.strct [(0, 3), (1, 3), (2, 3)], 3, 24, [.int .i64 0, .int .i64 0, .int .i64 0]⟩),
  (43, ⟨.func, 1, 8, [.nilF]⟩),
  (44, ⟨.func, 1, 8, [.nilF]⟩),
  (45, ⟨.func, 1, 8, [.nilF]⟩),
  (46, ⟨.func, 1, 8, [.nilF]⟩),
  (47, ⟨.arr 40 4, 40, 40, repl 40 ([.bool false])⟩),
  (48, ⟨.func, 1, 8, [.nilF]⟩),
  (49, ⟨.func, 1, 8, [.nilF]⟩),
  (50, ⟨.func, 1, 8, [.nilF]⟩),
  (51, ⟨.func, 1, 8, [.nilF]⟩),
  (52, ⟨.func, 1, 8, [.nilF]⟩),
  (53, ⟨.func, 1, 8, [.nilF]⟩),
  (54, ⟨.func, 1, 8, [.nilF]⟩),
  (55, ⟨.func, 1, 8, [.nilF]⟩),
  (56, ⟨.func, 1, 8, [.nilF]⟩),
  (57, ⟨.func, 1, 8, [.nilF]⟩),
  (58, ⟨.func, 1, 8, [.nilF]⟩),
  (59, ⟨.func, 1, 8, [.nilF]⟩),
  (60, ⟨.func, 1, 8, [.nilF]⟩),
  (61, ⟨.func, 1, 8, [.nilF]⟩),
  (62, ⟨.func, 1, 8, [.nilF]⟩),
  (63, ⟨.func, 1, 8, [.nilF]⟩),
  (64, ⟨.func, 1, 8, [.nilF]⟩),
  (65, ⟨.func, 1, 8, [.nilF]⟩),
  (66, ⟨.int .u64, 1, 8, [.int .u64 0]⟩),
  (68, ⟨.func, 1, 8, [.nilF]⟩),
  (69, ⟨.int .u32, 1, 4, [.int .u32 0]⟩),
  (71, ⟨.func, 1, 8, [.nilF]⟩),
  (72, ⟨.int .u64, 1, 8, [.int .u64 0]⟩),
  (74, ⟨.func, 1, 8, [.nilF]⟩),
  (75, ⟨.func, 1, 8, [.nilF]⟩),
  (78, ⟨.arr 0 16, 0, 0, []⟩),
  (81, ⟨.func, 1, 8, [.nilF]⟩),
  (82, ⟨.int .u8, 1, 1, [.int .u8 0]⟩),
  (83, ⟨.int .u8, 1, 1, [.int .u8 0]⟩),
  (84, ⟨.func, 1, 8, [.nilF]⟩),
  (85, ⟨.ptr 5, 1, 8, [.nilp]⟩),
  (86, ⟨.int .i32, 1, 4, [.int .i32 0]⟩),
  (87, ⟨.int .i32, 1, 4, [.int .i32 0]⟩)]
noncomputable def L (t : Nat) : Option TI := aget t Ls
@[simp] theorem L1 : L 1 = some ⟨.func, 1, 8, [.nilF]⟩ := by kernel_rfl
@[simp] theorem L2 : L 2 = some ⟨.int .i64, 1, 8, [.int .i64 0]⟩ := by kernel_rfl
@[simp] theorem L3 : L 3 = some ⟨.int .i64, 1, 8, [.int .i64 0]⟩ := by kernel_rfl
@[simp] theorem L4 : L 4 = some ⟨.bool, 1, 1, [.bool false]⟩ := by kernel_rfl
@[simp] theorem L5 : L 5 = some ⟨.int .u8, 1, 1, [.int .u8 0]⟩ := by kernel_rfl
@[simp] theorem L6 : L 6 = some ⟨.int .u8, 1, 1, [.int .u8 0]⟩ := by kernel_rfl
@[simp] theorem L7 : L 7 = some ⟨.strct [(0, 2), (1, 3), (2, 4), (3, 6)], 4, 24, [.int .i64 0, .int .i64 0, .bool false, .int .u8 0]⟩ := by kernel_rfl
@[simp] theorem L8 : L 8 = some ⟨.strct [(0, 2), (1, 3), (2, 4), (3, 6)], 4, 24, [.int .i64 0, .int .i64 0, .bool false, .int .u8 0]⟩ := by kernel_rfl
@[simp] theorem L9 : L 9 = some ⟨.str, 1, 16, [.str ByteArray.empty]⟩ := by kernel_rfl
@[simp] theorem L10 : L 10 = some ⟨.str, 1, 16, [.str ByteArray.empty]⟩ := by kernel_rfl
@[simp] theorem L11 : L 11 = some ⟨.str, 1, 16, [.str ByteArray.empty]⟩ := by kernel_rfl
@[simp] theorem L12 : L 12 = some ⟨.int .u64, 1, 8, [.int .u64 0]⟩ := by kernel_rfl
@[simp] theorem L15 : L 15 = some ⟨.ptr 77, 1, 8, [.nilp]⟩ := by kernel_rfl
@[simp] theorem L16 : L 16 = some ⟨.ptr 80, 1, 8, [.nilp]⟩ := by kernel_rfl
@[simp] theorem L17 : L 17 = some ⟨.ptr 89, 1, 8, [.nilp]⟩ := by kernel_rfl
@[simp] theorem L20 : L 20 = some ⟨.other, 1, 16, [.nilI]⟩ := by kernel_rfl
@[simp] theorem L21 : L 21 = some ⟨.int .i32, 1, 4, [.int .i32 0]⟩ := by kernel_rfl
@[simp] theorem L22 : L 22 = some ⟨.arr 40 5, 40, 40, repl 40 ([.int .u8 0])⟩ := by kernel_rfl
@[simp] theorem L23 : L 23 = some ⟨.slice 5, 1, 24, [.nsl]⟩ := by kernel_rfl
@[simp] theorem L24 : L 24 = some ⟨.func, 1, 8, [.nilF]⟩ := by kernel_rfl
@[simp] theorem L25 : L 25 = some ⟨.func, 1, 8, [.nilF]⟩ := by kernel_rfl
@[simp] theorem L26 : L 26 = some ⟨.func, 1, 8, [.nilF]⟩ := by kernel_rfl
@[simp] theorem L27 : L 27 = some ⟨.func, 1, 8, [.nilF]⟩ := by kernel_rfl
@[simp] theorem L28 : L 28 = some ⟨.slice 3, 1, 24, [.nsl]⟩ := by kernel_rfl
@[simp] theorem L29 : L 29 = some ⟨.strct [(0, 3), (1, 3), (2, 3)], 3, 24, [.int .i64 0, .int .i64 0, .int .i64 0]⟩ := by kernel_rfl
@[simp] theorem L30 : L 30 = some ⟨.strct [(0, 3), (1, 3), (2, 3)], 3, 24, [.int .i64 0, .int .i64 0, .int .i64 0]⟩ := by kernel_rfl
@[simp] theorem L31 : L 31 = some ⟨.arr 11 4, 11, 11, [.bool false, .bool false, .bool false, .bool false, .bool false, .bool false, .bool false, .bool false, .bool false, .bool false, .bool false]⟩ := by kernel_rfl
@[simp] theorem L32 : L 32 = some ⟨.strct [(0, 30), (3, 31), (14, 3)], 15, 48, ([.int .i64 0, .int .i64 0, .int .i64 0]) ++ ([.bool false, .bool false, .bool false, .bool false, .bool false, .bool false, .bool false, .bool false, .bool false, .bool false, .bool false]) ++ ([.int .i64 0])⟩ := by kernel_rfl
@[simp] theorem L33 : L 33 = some ⟨.strct [(0, 30), (3, 31), (14, 3)], 15, 48, ([.int .i64 0, .int .i64 0, .int .i64 0]) ++ ([.bool false, .bool false, .bool false, .bool false, .bool false, .bool false, .bool false, .bool false, .bool false, .bool false, .bool false]) ++ ([.int .i64 0])⟩ := by kernel_rfl
@[simp] theorem L34 : L 34 = some ⟨.arr 25 22, 1000, 1000, repl 25 (repl 40 ([.int .u8 0]))⟩ := by kernel_rfl
@[simp] theorem L35 : L 35 = some ⟨.arr 25 4, 25, 25, repl 25 ([.bool false])⟩ := by kernel_rfl
@[simp] theorem L36 : L 36 = some ⟨.slice 42, 1, 24, [.nsl]⟩ := by kernel_rfl
@[simp] theorem L37 : L 37 = some ⟨.arr 6 30, 18, 144, repl 6 ([.int .i64 0, .int .i64 0, .int .i64 0])⟩ := by kernel_rfl
@[simp] theorem L38 : L 38 = some ⟨.strct [(0, 33), (15, 34), (1015, 35), (1040, 36), (1041, 37), (1059, 4), (1060, 3)], 1061, 1264, (([.int .i64 0, .int .i64 0, .int .i64 0]) ++ ([.bool false, .bool false, .bool false, .bool false, .bool false, .bool false, .bool false, .bool false, .bool false, .bool false, .bool false]) ++ ([.int .i64 0])) ++ (repl 25 (repl 40 ([.int .u8 0]))) ++ (repl 25 ([.bool false])) ++ [.nsl] ++ (repl 6 ([.int .i64 0, .int .i64 0, .int .i64 0])) ++ ([.bool false]) ++ ([.int .i64 0])⟩ := by kernel_rfl
@[simp] theorem L39 : L 39 = some ⟨.strct [(0, 33), (15, 34), (1015, 35), (1040, 36), (1041, 37), (1059, 4), (1060, 3)], 1061, 1264, (([.int .i64 0, .int .i64 0, .int .i64 0]) ++ ([.bool false, .bool false, .bool false, .bool false, .bool false, .bool false, .bool false, .bool false, .bool false, .bool false, .bool false]) ++ ([.int .i64 0])) ++ (repl 25 (repl 40 ([.int .u8 0]))) ++ (repl 25 ([.bool false])) ++ [.nsl] ++ (repl 6 ([.int .i64 0, .int .i64 0, .int .i64 0])) ++ ([.bool false]) ++ ([.int .i64 0])⟩ := by kernel_rfl
@[simp] theorem L40 : L 40 = some ⟨.func, 1, 8, [.nilF]⟩ := by kernel_rfl
@[simp] theorem L41 : L 41 = some ⟨.strct [(0, 3), (1, 3), (2, 3)], 3, 24, [.int .i64 0, .int .i64 0, .int .i64 0]⟩ := by kernel_rfl
@[simp] theorem L42 : L 42 = some ⟨.strct [(0, 3), (1, 3), (2, 3)], 3, 24, [.int .i64 0, .int .i64 0, .int .i64 0]⟩ := by kernel_rfl
@[simp] theorem L43 : L 43 = some ⟨.func, 1, 8, [.nilF]⟩ := by kernel_rfl
@[simp] theorem L44 : L 44 = some ⟨.func, 1, 8, [.nilF]⟩ := by kernel_rfl
@[simp] theorem L45 : L 45 = some ⟨.func, 1, 8, [.nilF]⟩ := by kernel_rfl
@[simp] theorem L46 : L 46 = some ⟨.func, 1, 8, [.nilF]⟩ := by kernel_rfl
@[simp] theorem L47 : L 47 = some ⟨.arr 40 4, 40, 40, repl 40 ([.bool false])⟩ := by kernel_rfl
@[simp] theorem L48 : L 48 = some ⟨.func, 1, 8, [.nilF]⟩ := by kernel_rfl
@[simp] theorem L49 : L 49 = some ⟨.func, 1, 8, [.nilF]⟩ := by kernel_rfl
@[simp] theorem L50 : L 50 = some ⟨.func, 1, 8, [.nilF]⟩ := by kernel_rfl
@[simp] theorem L51 : L 51 = some ⟨.func, 1, 8, [.nilF]⟩ := by kernel_rfl
@[simp] theorem L52 : L 52 = some ⟨.func, 1, 8, [.nilF]⟩ := by kernel_rfl
@[simp] theorem L53 : L 53 = some ⟨.func, 1, 8, [.nilF]⟩ := by kernel_rfl
@[simp] theorem L54 : L 54 = some ⟨.func, 1, 8, [.nilF]⟩ := by kernel_rfl
@[simp] theorem L55 : L 55 = some ⟨.func, 1, 8, [.nilF]⟩ := by kernel_rfl
@[simp] theorem L56 : L 56 = some ⟨.func, 1, 8, [.nilF]⟩ := by kernel_rfl
@[simp] theorem L57 : L 57 = some ⟨.func, 1, 8, [.nilF]⟩ := by kernel_rfl
@[simp] theorem L58 : L 58 = some ⟨.func, 1, 8, [.nilF]⟩ := by kernel_rfl
@[simp] theorem L59 : L 59 = some ⟨.func, 1, 8, [.nilF]⟩ := by kernel_rfl
@[simp] theorem L60 : L 60 = some ⟨.func, 1, 8, [.nilF]⟩ := by kernel_rfl
@[simp] theorem L61 : L 61 = some ⟨.func, 1, 8, [.nilF]⟩ := by kernel_rfl
@[simp] theorem L62 : L 62 = some ⟨.func, 1, 8, [.nilF]⟩ := by kernel_rfl
@[simp] theorem L63 : L 63 = some ⟨.func, 1, 8, [.nilF]⟩ := by kernel_rfl
@[simp] theorem L64 : L 64 = some ⟨.func, 1, 8, [.nilF]⟩ := by kernel_rfl
@[simp] theorem L65 : L 65 = some ⟨.func, 1, 8, [.nilF]⟩ := by kernel_rfl
@[simp] theorem L66 : L 66 = some ⟨.int .u64, 1, 8, [.int .u64 0]⟩ := by kernel_rfl
@[simp] theorem L68 : L 68 = some ⟨.func, 1, 8, [.nilF]⟩ := by kernel_rfl
@[simp] theorem L69 : L 69 = some ⟨.int .u32, 1, 4, [.int .u32 0]⟩ := by kernel_rfl
@[simp] theorem L71 : L 71 = some ⟨.func, 1, 8, [.nilF]⟩ := by kernel_rfl
@[simp] theorem L72 : L 72 = some ⟨.int .u64, 1, 8, [.int .u64 0]⟩ := by kernel_rfl
@[simp] theorem L74 : L 74 = some ⟨.func, 1, 8, [.nilF]⟩ := by kernel_rfl
@[simp] theorem L75 : L 75 = some ⟨.func, 1, 8, [.nilF]⟩ := by kernel_rfl
@[simp] theorem L78 : L 78 = some ⟨.arr 0 16, 0, 0, []⟩ := by kernel_rfl
@[simp] theorem L81 : L 81 = some ⟨.func, 1, 8, [.nilF]⟩ := by kernel_rfl
@[simp] theorem L82 : L 82 = some ⟨.int .u8, 1, 1, [.int .u8 0]⟩ := by kernel_rfl
@[simp] theorem L83 : L 83 = some ⟨.int .u8, 1, 1, [.int .u8 0]⟩ := by kernel_rfl
@[simp] theorem L84 : L 84 = some ⟨.func, 1, 8, [.nilF]⟩ := by kernel_rfl
@[simp] theorem L85 : L 85 = some ⟨.ptr 5, 1, 8, [.nilp]⟩ := by kernel_rfl
@[simp] theorem L86 : L 86 = some ⟨.int .i32, 1, 4, [.int .i32 0]⟩ := by kernel_rfl
@[simp] theorem L87 : L 87 = some ⟨.int .i32, 1, 4, [.int .i32 0]⟩ := by kernel_rfl
noncomputable def a2 : AFn := mkA Try.f2 [] [] [] [] [] []
noncomputable def a3 : AFn := mkA Try.f3 [3, 6, 7, 8, 9, 12, 15] [] [] [] [] []
noncomputable def a4 : AFn := mkA Try.f4 [2, 3, 4, 5, 6, 7, 8, 9, 10, 11, 12, 13, 14, 17, 20, 26, 36, 65, 68, 72, 86, 98] [(10, [0, 3, 4, 5, 6, 7], [4, 22]), (15, [0, 3, 4, 5, 6, 7, 8, 9, 10], [4, 22, 34]), (24, [3, 4, 5, 6, 11], [4, 22]), (27, [3, 4, 5, 6, 11, 12], [4, 22])] [] [] [] []
noncomputable def a5 : AFn := mkA Try.f5 [2, 3, 4, 6, 7, 8, 9, 10, 11, 12, 13, 14, 15, 16, 19, 26, 45, 90, 92, 102, 116] [(8, [2, 3, 4, 7, 8, 9, 10], [3, 4, 23, 24]), (23, [3, 4, 7, 12, 13, 14], [3, 4, 68, 75])] [] [] [] []
noncomputable def a6 : AFn := mkA Try.f6 [3, 4, 6, 7, 8, 9, 10, 11, 14, 22, 41, 80] [(12, [3, 4, 7, 8, 9, 10, 11], [3, 4, 8, 9, 10])] [] [] [(46, [8]), (47, [8]), (51, [10]), (52, [10]), (57, [9]), (58, [9]), (61, [4]), (62, [4]), (68, [9]), (69, [9]), (71, [9]), (73, []), (74, [4]), (76, []), (77, [73, 76])] []
noncomputable def a7 : AFn := mkA Try.f7 [8, 10, 16, 17, 18, 19, 20, 21, 22, 23, 26, 44, 59] [] [] [] [(78, [20]), (79, [21]), (80, []), (83, [22]), (84, [23]), (85, []), (88, [22]), (90, []), (91, [23]), (93, []), (94, [90, 93]), (97, [20]), (98, [22]), (99, []), (100, [21]), (101, [23]), (102, []), (106, [18]), (107, [19]), (108, [])] []
noncomputable def a8 : AFn := mkA Try.f8 [0, 1] [] [] [] [] []
noncomputable def a9 : AFn := mkA Try.f9 [3, 6, 7, 8, 9, 10, 11, 16, 23, 30] [(3, [1, 2, 3, 6, 7, 10], [3, 6, 7])] [] [] [] []
noncomputable def a10 : AFn := mkA Try.f10 [3, 6, 7, 8, 9, 11, 17, 24, 31] [(3, [1, 2, 3, 6, 7, 8], [3, 6, 7])] [] [] [] []
noncomputable def a11 : AFn := mkA Try.f11 [4, 5, 6, 11, 15, 28] [(4, [0, 1, 5], [])] [] [] [] []
noncomputable def a12 : AFn := mkA Try.f12 [4, 5, 10] [] [] [] [] []
noncomputable def a13 : AFn := mkA Try.f13 [3, 6, 7, 17, 25] [(4, [1, 2, 3, 6], [3, 6, 10, 30])] [10] [1040] [] []
noncomputable def a14 : AFn := mkA Try.f14 [2, 3, 4] [] [] [] [] []
noncomputable def a15 : AFn := mkA Try.f15 [2, 3, 4] [] [] [] [] []
noncomputable def a16 : AFn := mkA Try.f16 [2, 3, 7] [] [] [] [] []
noncomputable def a17 : AFn := mkA Try.f17 [3, 6, 16] [] [9] [1040] [] []
noncomputable def a18 : AFn := mkA Try.f18 [2, 4, 17] [] [4] [] [] []
noncomputable def a19 : AFn := mkA Try.f19 [1, 2] [] [] [] [] []
noncomputable def a20 : AFn := mkA Try.f20 [4, 6, 8, 9, 10, 18] [] [22, 28] [1040] [] []
noncomputable def a21 : AFn := mkA Try.f21 [4, 5, 6, 11, 15, 28] [(4, [0, 1, 5], [])] [] [] [] []
noncomputable def a22 : AFn := mkA Try.f22 [2, 3, 4, 5, 7, 18] [(2, [2, 3, 5], [2, 3])] [] [] [] []
noncomputable def a23 : AFn := mkA Try.f23 [4, 6, 8, 9, 10, 11, 18, 27] [(8, [1, 8, 9, 10, 11], [8, 9, 10, 22, 33, 36])] [10, 22] [1040] [] []
noncomputable def a24 : AFn := mkA Try.f24 [2, 3, 4, 5, 6, 8, 19, 21, 36] [(2, [2, 3, 5], [2, 3]), (7, [2, 3, 5, 6], [2, 3])] [] [] [] []
noncomputable def a25 : AFn := mkA Try.f25 [3, 6, 16] [] [9] [1040] [] []
noncomputable def a26 : AFn := mkA Try.f26 [3, 6, 7, 8, 18, 26, 34, 41] [(4, [1, 2, 3, 6], [3, 6, 11, 31]), (7, [1, 2, 3, 6, 7], [3, 6, 11, 31])] [11] [1040] [] []
noncomputable def a27 : AFn := mkA Try.f27 [2, 4, 5, 6, 7, 9, 23] [(3, [1, 2, 5, 6], [2, 5, 33])] [4, 5] [] [] []
noncomputable def a28 : AFn := mkA Try.f28 [2] [] [] [] [] []
noncomputable def a29 : AFn := mkA Try.f29 [2] [] [] [] [] []
noncomputable def a30 : AFn := mkA Try.f30 [2, 4] [] [2] [] [] []
noncomputable def a31 : AFn := mkA Try.f31 [4, 5, 10, 12, 13, 14, 24] [(4, [0, 1, 12, 13], [])] [] [] [] []
noncomputable def a32 : AFn := mkA Try.f32 [4, 5, 6, 7, 8, 10, 26, 37] [(8, [7, 8], [30])] [4] [] [] []
noncomputable def a33 : AFn := mkA Try.f33 [2, 4] [] [2] [] [] []
noncomputable def a34 : AFn := mkA Try.f34 [0, 2, 6] [] [] [] [] []
noncomputable def a35 : AFn := mkA Try.f35 [2, 3, 4] [] [] [] [] []
noncomputable def a36 : AFn := mkA Try.f36 [2, 3, 4, 11] [(3, [0, 3, 4], [7, 20])] [2] [] [] []
noncomputable def a37 : AFn := mkA Try.f37 [2, 3, 4, 5, 7, 17] [(2, [2, 3, 5], [2, 3])] [] [] [] []
noncomputable def a38 : AFn := mkA Try.f38 [2] [] [] [] [] []
noncomputable def a39 : AFn := mkA Try.f39 [0, 2, 3, 5] [(2, [0, 3], [])] [] [] [] []
noncomputable def a40 : AFn := mkA Try.f40 [4, 5, 6, 7, 8, 9] [] [] [] [] []
noncomputable def a41 : AFn := mkA Try.f41 [4, 5, 6] [] [] [] [] []
noncomputable def a42 : AFn := mkA Try.f42 [4, 5, 6, 7, 8, 9, 10, 11, 12, 13] [] [] [] [] []

noncomputable def Ts : List (Nat × AFn) := [(2, a2), (3, a3), (4, a4), (5, a5), (6, a6), (7, a7), (8, a8), (9, a9), (10, a10), (11, a11), (12, a12), (13, a13), (14, a14), (15, a15), (16, a16), (17, a17), (18, a18), (19, a19), (20, a20), (21, a21), (22, a22), (23, a23), (24, a24), (25, a25), (26, a26), (27, a27), (28, a28), (29, a29), (30, a30), (31, a31), (32, a32), (33, a33), (34, a34), (35, a35), (36, a36), (37, a37), (38, a38), (39, a39), (40, a40), (41, a41), (42, a42)]
theorem Ts_ok : ∀ p ∈ Ts, FnOK Try.prog L p.1 p.2 := by
  intro p hp
  simp only [Ts, List.mem_cons, List.not_mem_nil, or_false] at hp
  rcases hp with rfl | rfl | rfl | rfl | rfl | rfl | rfl | rfl | rfl | rfl | rfl | rfl | rfl | rfl | rfl | rfl | rfl | rfl | rfl | rfl | rfl | rfl | rfl | rfl | rfl | rfl | rfl | rfl | rfl | rfl | rfl | rfl | rfl | rfl | rfl | rfl | rfl | rfl | rfl | rfl | rfl
  · exact mkA_ok Try.func2 (by kernel_rfl)
  · exact mkA_ok Try.func3 (by kernel_rfl)
  · exact mkA_ok Try.func4 (by kernel_rfl)
  · exact mkA_ok Try.func5 (by kernel_rfl)
  · exact mkA_ok Try.func6 (by kernel_rfl)
  · exact mkA_ok Try.func7 (by kernel_rfl)
  · exact mkA_ok Try.func8 (by kernel_rfl)
  · exact mkA_ok Try.func9 (by kernel_rfl)
  · exact mkA_ok Try.func10 (by kernel_rfl)
  · exact mkA_ok Try.func11 (by kernel_rfl)
  · exact mkA_ok Try.func12 (by kernel_rfl)
  · exact mkA_ok Try.func13 (by kernel_rfl)
  · exact mkA_ok Try.func14 (by kernel_rfl)
  · exact mkA_ok Try.func15 (by kernel_rfl)
  · exact mkA_ok Try.func16 (by kernel_rfl)
  · exact mkA_ok Try.func17 (by kernel_rfl)
  · exact mkA_ok Try.func18 (by kernel_rfl)
  · exact mkA_ok Try.func19 (by kernel_rfl)
  · exact mkA_ok Try.func20 (by kernel_rfl)
  · exact mkA_ok Try.func21 (by kernel_rfl)
  · exact mkA_ok Try.func22 (by kernel_rfl)
  · exact mkA_ok Try.func23 (by kernel_rfl)
  · exact mkA_ok Try.func24 (by kernel_rfl)
  · exact mkA_ok Try.func25 (by kernel_rfl)
  · exact mkA_ok Try.func26 (by kernel_rfl)
  · exact mkA_ok Try.func27 (by kernel_rfl)
  · exact mkA_ok Try.func28 (by kernel_rfl)
  · exact mkA_ok Try.func29 (by kernel_rfl)
  · exact mkA_ok Try.func30 (by kernel_rfl)
  · exact mkA_ok Try.func31 (by kernel_rfl)
  · exact mkA_ok Try.func32 (by kernel_rfl)
  · exact mkA_ok Try.func33 (by kernel_rfl)
  · exact mkA_ok Try.func34 (by kernel_rfl)
  · exact mkA_ok Try.func35 (by kernel_rfl)
  · exact mkA_ok Try.func36 (by kernel_rfl)
  · exact mkA_ok Try.func37 (by kernel_rfl)
  · exact mkA_ok Try.func38 (by kernel_rfl)
  · exact mkA_ok Try.func39 (by kernel_rfl)
  · exact mkA_ok Try.func40 (by kernel_rfl)
  · exact mkA_ok Try.func41 (by kernel_rfl)
  · exact mkA_ok Try.func42 (by kernel_rfl)
noncomputable def T (f : Nat) : Option Entry := withLaws [(30, cloneLaw 3 24), (33, cloneLaw 1 1)] Ts f
theorem L_ok : LOK Try.prog L := lok (by kernel_rfl)
theorem T_ok : TableOK Try.prog L T := tokX (by
  intro p hp
  simp only [List.mem_cons, List.not_mem_nil, or_false] at hp
  rcases hp with rfl | rfl
  exact clone_ok (by kernel_rfl) L_ok (clone_fn (t := 36) Try.func30 (by kernel_rfl) (by kernel_rfl) (by kernel_rfl) (of_decide_eq_true (by kernel_rfl))) (show L 36 = some _ from rfl) rfl (show L 42 = some _ from rfl) rfl rfl (by decide) (by decide) (.inr rfl) rfl
  exact clone_ok (by kernel_rfl) L_ok (clone_fn (t := 23) Try.func33 (by kernel_rfl) (by kernel_rfl) (by kernel_rfl) (of_decide_eq_true (by kernel_rfl))) (show L 23 = some _ from rfl) rfl (show L 5 = some _ from rfl) rfl rfl (by decide) (by decide) (.inr rfl) rfl) Ts_ok
theorem laid : laidOutB Try.prog = true := by kernel_rfl
theorem own : ownKnob Try.prog.godebug = none := by kernel_rfl

end Go.Proofs.Ytimcmpceekbfjaa
