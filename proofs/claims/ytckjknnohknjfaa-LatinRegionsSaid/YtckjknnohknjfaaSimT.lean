/- The functions and types of this seat, as the interpreter has them. Written by program (tools/Gen.lean). -/
import Derived.Test.YtckjknnohknjfaaSimExt
import Derived.Test.YtckjknnohknjfaaRows
import Derived.KernelRfl
set_option linter.unusedVariables false
set_option maxRecDepth 100000
namespace Go.Proofs.Ytckjknnohknjfaa
open Go.Sim

def Ls : List (Nat × TI) := [
  (1, ⟨.func, 1, 8, [.nilF]⟩),
  (2, ⟨.int .i64, 1, 8, [.int .i64 0]⟩),
  (3, ⟨.int .i64, 1, 8, [.int .i64 0]⟩),
  (4, ⟨.bool, 1, 1, [.bool false]⟩),
  (5, ⟨.int .u8, 1, 1, [.int .u8 0]⟩),
  (6, ⟨.int .u8, 1, 1, [.int .u8 0]⟩),
  (7, ⟨.strct [(0, 2), (1, 3), (2, 4), (3, 6)], 4, 24, [.int .i64 0, .int .i64 0, .bool false, .int .u8 0]⟩),
  (8, ⟨.strct [(0, 2), (1, 3), (2, 4), (3, 6)], 4, 24, [.int .i64 0, .int .i64 0, .bool false, .int .u8 0]⟩),
  (9, ⟨.str, 1, 16, [.str ByteArray.empty]⟩),
  (10, ⟨.str, 1, 16, [.str ByteArray.empty]⟩),
  (11, ⟨.str, 1, 16, [.str ByteArray.empty]⟩),
  (12, ⟨.int .u64, 1, 8, [.int .u64 0]⟩),
  (13, ⟨.strct [(0, 9), (1, 12)], 2, 24, [.str ByteArray.empty, .int .u64 0]⟩),
  (14, ⟨.strct [(0, 9), (1, 12)], 2, 24, [.str ByteArray.empty, .int .u64 0]⟩),
  (15, ⟨.ptr 42, 1, 8, [.nilp]⟩),
  (16, ⟨.ptr 45, 1, 8, [.nilp]⟩),
  (17, ⟨.ptr 54, 1, 8, [.nilp]⟩),
  (18, ⟨.strct [(0, 17)], 1, 8, [.nilp]⟩),
  (19, ⟨.strct [(0, 17)], 1, 8, [.nilp]⟩),
  (20, ⟨.other, 1, 16, [.nilI]⟩),
  (21, ⟨.int .i32, 1, 4, [.int .i32 0]⟩),
  (22, ⟨.func, 1, 8, [.nilF]⟩),
  (23, ⟨.func, 1, 8, [.nilF]⟩),
  (24, ⟨.func, 1, 8, [.nilF]⟩),
  (25, ⟨.func, 1, 8, [.nilF]⟩),
  (26, ⟨.func, 1, 8, [.nilF]⟩),
  (27, ⟨.func, 1, 8, [.nilF]⟩),
  (28, ⟨.func, 1, 8, [.nilF]⟩),
  (29, ⟨.slice 5, 1, 24, [.nsl]⟩),
  (30, ⟨.func, 1, 8, [.nilF]⟩),
  (31, ⟨.func, 1, 8, [.nilF]⟩),
  (32, ⟨.arr 13 3, 13, 104, repl 13 ([.int .i64 0])⟩),
  (33, ⟨.strct [(0, 9), (1, 32)], 14, 120, ([.str ByteArray.empty]) ++ (repl 13 ([.int .i64 0]))⟩),
  (34, ⟨.strct [(0, 9), (1, 32)], 14, 120, ([.str ByteArray.empty]) ++ (repl 13 ([.int .i64 0]))⟩),
  (35, ⟨.slice 34, 1, 24, [.nsl]⟩),
  (36, ⟨.func, 1, 8, [.nilF]⟩),
  (37, ⟨.arr 8 3, 8, 64, [.int .i64 0, .int .i64 0, .int .i64 0, .int .i64 0, .int .i64 0, .int .i64 0, .int .i64 0, .int .i64 0]⟩),
  (38, ⟨.arr 7 37, 56, 448, repl 7 ([.int .i64 0, .int .i64 0, .int .i64 0, .int .i64 0, .int .i64 0, .int .i64 0, .int .i64 0, .int .i64 0])⟩),
  (39, ⟨.func, 1, 8, [.nilF]⟩),
  (40, ⟨.func, 1, 8, [.nilF]⟩),
  (41, ⟨.strct [(0, 17), (1, 17), (2, 17), (3, 9)], 4, 40, [.nilp, .nilp, .nilp, .str ByteArray.empty]⟩),
  (42, ⟨.strct [(0, 17), (1, 17), (2, 17), (3, 9)], 4, 40, [.nilp, .nilp, .nilp, .str ByteArray.empty]⟩),
  (43, ⟨.arr 0 16, 0, 0, []⟩),
  (44, ⟨.strct [(0, 43)], 0, 0, []⟩),
  (45, ⟨.strct [(0, 43)], 0, 0, []⟩),
  (46, ⟨.int .u32, 1, 4, [.int .u32 0]⟩),
  (47, ⟨.int .u8, 1, 1, [.int .u8 0]⟩),
  (48, ⟨.int .u8, 1, 1, [.int .u8 0]⟩),
  (49, ⟨.func, 1, 8, [.nilF]⟩),
  (50, ⟨.ptr 5, 1, 8, [.nilp]⟩),
  (51, ⟨.int .i32, 1, 4, [.int .i32 0]⟩),
  (52, ⟨.int .i32, 1, 4, [.int .i32 0]⟩),
  (53, ⟨.strct [(0, 12), (1, 12), (2, 46), (3, 47), (4, 5), (5, 5), (6, 48), (7, 49), (8, 50), (9, 51), (10, 52)], 11, 48, [.int .u64 0, .int .u64 0, .int .u32 0, .int .u8 0, .int .u8 0, .int .u8 0, .int .u8 0, .nilF, .nilp, .int .i32 0, .int .i32 0]⟩),
  (54, ⟨.strct [(0, 12), (1, 12), (2, 46), (3, 47), (4, 5), (5, 5), (6, 48), (7, 49), (8, 50), (9, 51), (10, 52)], 11, 48, [.int .u64 0, .int .u64 0, .int .u32 0, .int .u8 0, .int .u8 0, .int .u8 0, .int .u8 0, .nilF, .nilp, .int .i32 0, .int .i32 0]⟩)]
noncomputable def L (t : Nat) : Option TI := aget t Ls
@[simp] theorem L1 : L 1 = some ⟨.func, 1, 8, [.nilF]⟩ := by kernel_rfl
@[simp] theorem L2 : L 2 = some ⟨.int .i64, 1, 8, [.int .i64 0]⟩ := by kernel_rfl
@[simp] theorem L3 : L 3 = some ⟨.int .i64, 1, 8, [.int .i64 0]⟩ := by kernel_rfl
@[simp] theorem L4 : L 4 = some ⟨.bool, 1, 1, [.bool false]⟩ := by kernel_rfl
@[simp] theorem L5 : L 5 = some ⟨.int .u8, 1, 1, [.int .u8 0]⟩ := by kernel_rfl
@[simp] theorem L6 : L 6 = some ⟨.int .u8, 1, 1, [.int .u8 0]⟩ := by kernel_rfl
@[simp] theorem L7 : L 7 = some ⟨.strct [(0, 2), (1, 3), (2, 4), (3, 6)], 4, 24, [.int .i64 0, .int .i64 0, .bool false, .int .u8 0]⟩ := by kernel_rfl
@[simp] theorem L8 : L 8 = some ⟨.strct [(0, 2), (1, 3), (2, 4), (3, 6)], 4, 24, [.int .i64 0, .int .i64 0, .bool false, .int .u8 0]⟩ := by kernel_rfl
@[simp] theorem L9 : L 9 = some ⟨.str, 1, 16, [.str ByteArray.empty]⟩ := by kernel_rfl
@[simp] theorem L10 : L 10 = some ⟨.str, 1, 16, [.str ByteArray.empty]⟩ := by kernel_rfl
@[simp] theorem L11 : L 11 = some ⟨.str, 1, 16, [.str ByteArray.empty]⟩ := by kernel_rfl
@[simp] theorem L12 : L 12 = some ⟨.int .u64, 1, 8, [.int .u64 0]⟩ := by kernel_rfl
@[simp] theorem L13 : L 13 = some ⟨.strct [(0, 9), (1, 12)], 2, 24, [.str ByteArray.empty, .int .u64 0]⟩ := by kernel_rfl
@[simp] theorem L14 : L 14 = some ⟨.strct [(0, 9), (1, 12)], 2, 24, [.str ByteArray.empty, .int .u64 0]⟩ := by kernel_rfl
@[simp] theorem L15 : L 15 = some ⟨.ptr 42, 1, 8, [.nilp]⟩ := by kernel_rfl
@[simp] theorem L16 : L 16 = some ⟨.ptr 45, 1, 8, [.nilp]⟩ := by kernel_rfl
@[simp] theorem L17 : L 17 = some ⟨.ptr 54, 1, 8, [.nilp]⟩ := by kernel_rfl
@[simp] theorem L18 : L 18 = some ⟨.strct [(0, 17)], 1, 8, [.nilp]⟩ := by kernel_rfl
@[simp] theorem L19 : L 19 = some ⟨.strct [(0, 17)], 1, 8, [.nilp]⟩ := by kernel_rfl
@[simp] theorem L20 : L 20 = some ⟨.other, 1, 16, [.nilI]⟩ := by kernel_rfl
@[simp] theorem L21 : L 21 = some ⟨.int .i32, 1, 4, [.int .i32 0]⟩ := by kernel_rfl
@[simp] theorem L22 : L 22 = some ⟨.func, 1, 8, [.nilF]⟩ := by kernel_rfl
@[simp] theorem L23 : L 23 = some ⟨.func, 1, 8, [.nilF]⟩ := by kernel_rfl
@[simp] theorem L24 : L 24 = some ⟨.func, 1, 8, [.nilF]⟩ := by kernel_rfl
@[simp] theorem L25 : L 25 = some ⟨.func, 1, 8, [.nilF]⟩ := by kernel_rfl
@[simp] theorem L26 : L 26 = some ⟨.func, 1, 8, [.nilF]⟩ := by kernel_rfl
@[simp] theorem L27 : L 27 = some ⟨.func, 1, 8, [.nilF]⟩ := by kernel_rfl
@[simp] theorem L28 : L 28 = some ⟨.func, 1, 8, [.nilF]⟩ := by kernel_rfl
@[simp] theorem L29 : L 29 = some ⟨.slice 5, 1, 24, [.nsl]⟩ := by kernel_rfl
@[simp] theorem L30 : L 30 = some ⟨.func, 1, 8, [.nilF]⟩ := by kernel_rfl
@[simp] theorem L31 : L 31 = some ⟨.func, 1, 8, [.nilF]⟩ := by kernel_rfl
@[simp] theorem L32 : L 32 = some ⟨.arr 13 3, 13, 104, repl 13 ([.int .i64 0])⟩ := by kernel_rfl
@[simp] theorem L33 : L 33 = some ⟨.strct [(0, 9), (1, 32)], 14, 120, ([.str ByteArray.empty]) ++ (repl 13 ([.int .i64 0]))⟩ := by kernel_rfl
@[simp] theorem L34 : L 34 = some ⟨.strct [(0, 9), (1, 32)], 14, 120, ([.str ByteArray.empty]) ++ (repl 13 ([.int .i64 0]))⟩ := by kernel_rfl
@[simp] theorem L35 : L 35 = some ⟨.slice 34, 1, 24, [.nsl]⟩ := by kernel_rfl
@[simp] theorem L36 : L 36 = some ⟨.func, 1, 8, [.nilF]⟩ := by kernel_rfl
@[simp] theorem L37 : L 37 = some ⟨.arr 8 3, 8, 64, [.int .i64 0, .int .i64 0, .int .i64 0, .int .i64 0, .int .i64 0, .int .i64 0, .int .i64 0, .int .i64 0]⟩ := by kernel_rfl
@[simp] theorem L38 : L 38 = some ⟨.arr 7 37, 56, 448, repl 7 ([.int .i64 0, .int .i64 0, .int .i64 0, .int .i64 0, .int .i64 0, .int .i64 0, .int .i64 0, .int .i64 0])⟩ := by kernel_rfl
@[simp] theorem L39 : L 39 = some ⟨.func, 1, 8, [.nilF]⟩ := by kernel_rfl
@[simp] theorem L40 : L 40 = some ⟨.func, 1, 8, [.nilF]⟩ := by kernel_rfl
@[simp] theorem L41 : L 41 = some ⟨.strct [(0, 17), (1, 17), (2, 17), (3, 9)], 4, 40, [.nilp, .nilp, .nilp, .str ByteArray.empty]⟩ := by kernel_rfl
@[simp] theorem L42 : L 42 = some ⟨.strct [(0, 17), (1, 17), (2, 17), (3, 9)], 4, 40, [.nilp, .nilp, .nilp, .str ByteArray.empty]⟩ := by kernel_rfl
@[simp] theorem L43 : L 43 = some ⟨.arr 0 16, 0, 0, []⟩ := by kernel_rfl
@[simp] theorem L44 : L 44 = some ⟨.strct [(0, 43)], 0, 0, []⟩ := by kernel_rfl
@[simp] theorem L45 : L 45 = some ⟨.strct [(0, 43)], 0, 0, []⟩ := by kernel_rfl
@[simp] theorem L46 : L 46 = some ⟨.int .u32, 1, 4, [.int .u32 0]⟩ := by kernel_rfl
@[simp] theorem L47 : L 47 = some ⟨.int .u8, 1, 1, [.int .u8 0]⟩ := by kernel_rfl
@[simp] theorem L48 : L 48 = some ⟨.int .u8, 1, 1, [.int .u8 0]⟩ := by kernel_rfl
@[simp] theorem L49 : L 49 = some ⟨.func, 1, 8, [.nilF]⟩ := by kernel_rfl
@[simp] theorem L50 : L 50 = some ⟨.ptr 5, 1, 8, [.nilp]⟩ := by kernel_rfl
@[simp] theorem L51 : L 51 = some ⟨.int .i32, 1, 4, [.int .i32 0]⟩ := by kernel_rfl
@[simp] theorem L52 : L 52 = some ⟨.int .i32, 1, 4, [.int .i32 0]⟩ := by kernel_rfl
@[simp] theorem L53 : L 53 = some ⟨.strct [(0, 12), (1, 12), (2, 46), (3, 47), (4, 5), (5, 5), (6, 48), (7, 49), (8, 50), (9, 51), (10, 52)], 11, 48, [.int .u64 0, .int .u64 0, .int .u32 0, .int .u8 0, .int .u8 0, .int .u8 0, .int .u8 0, .nilF, .nilp, .int .i32 0, .int .i32 0]⟩ := by kernel_rfl
@[simp] theorem L54 : L 54 = some ⟨.strct [(0, 12), (1, 12), (2, 46), (3, 47), (4, 5), (5, 5), (6, 48), (7, 49), (8, 50), (9, 51), (10, 52)], 11, 48, [.int .u64 0, .int .u64 0, .int .u32 0, .int .u8 0, .int .u8 0, .int .u8 0, .int .u8 0, .nilF, .nilp, .int .i32 0, .int .i32 0]⟩ := by kernel_rfl
noncomputable def a2 : AFn := mkA Try.f2 [] [] [] [] [] []
noncomputable def a3 : AFn := mkA Try.f3 [1, 2, 6, 7, 10, 20] [] [] [] [] []
noncomputable def a4 : AFn := mkA Try.f4 [4, 5, 6, 7, 10] [] [] [] [] []
noncomputable def a5 : AFn := mkA Try.f5 [0] [] [] [] [] []
noncomputable def a6 : AFn := mkA Try.f6 [0, 4, 5, 11, 20] [] [] [] [] []
noncomputable def a7 : AFn := mkA Try.f7 [4, 5, 20] [] [] [] [] []
noncomputable def a8 : AFn := mkA Try.f8 [0] [] [] [] [] []
noncomputable def a9 : AFn := mkA Try.f9 [4] [] [] [] [] []
noncomputable def a10 : AFn := mkA Try.f10 [0] [] [0] [] [] []
noncomputable def a11 : AFn := mkA Try.f11 [0, 2, 5, 8] [] [] [] [] []
noncomputable def a12 : AFn := mkA Try.f12 [0] [] [0] [] [] []
noncomputable def a13 : AFn := mkA Try.f13 [0] [] [] [] [] []

noncomputable def Ts : List (Nat × AFn) := [(2, a2), (3, a3), (4, a4), (5, a5), (6, a6), (7, a7), (8, a8), (9, a9), (10, a10), (11, a11), (12, a12), (13, a13)]
theorem Ts_ok : ∀ p ∈ Ts, FnOK Try.prog L p.1 p.2 := by
  intro p hp
  simp only [Ts, List.mem_cons, List.not_mem_nil, or_false] at hp
  rcases hp with rfl | rfl | rfl | rfl | rfl | rfl | rfl | rfl | rfl | rfl | rfl | rfl
  · exact mkA_ok Try.func2 (by kernel_rfl)
  · exact mkA_ok Try.func3 (by kernel_rfl)
  · exact mkA_ok Try.func4 (by kernel_rfl)
  · exact mkA_ok Try.func5 (by kernel_rfl)
  · exact mkA_ok Try.func6 (by kernel_rfl)
  · exact mkA_ok Try.func7 (by kernel_rfl)
  · exact mkA_ok Try.func8 (by kernel_rfl)
  · exact mkA_ok Try.func9 (by kernel_rfl)
  · exact mkA_ok Try.func10 (by kernel_rfl)
  · exact mkA_ok Try.func11 (by kernel_rfl)
  · exact mkA_ok Try.func12 (by kernel_rfl)
  · exact mkA_ok Try.func13 (by kernel_rfl)
noncomputable def T (f : Nat) : Option Entry := withLaws [(14, idxLaw)] Ts f
theorem L_ok : LOK Try.prog L := lok (by kernel_rfl)
theorem T_ok : TableOK Try.prog L T := tokX (by
  intro p hp
  simp only [List.mem_cons, List.not_mem_nil, or_false] at hp
  rcases hp with rfl
  exact idx_ok Try.func14 (by kernel_rfl) (by kernel_rfl) (by kernel_rfl) (by kernel_rfl)) Ts_ok
theorem laid : laidOutB Try.prog = true := by kernel_rfl
theorem own : ownKnob Try.prog.godebug = none := by kernel_rfl

end Go.Proofs.Ytckjknnohknjfaa
