/- The functions and types of this seat, as the interpreter has them. Written by program (tools/Gen.lean). -/
import Derived.Test.YtafgafpclbcflaaSimTab
import Derived.Test.YtafgafpclbcflaaRows
import Derived.KernelRfl
set_option linter.unusedVariables false
set_option maxRecDepth 100000
namespace Go.Proofs.Ytafgafpclbcflaa
open Go.Sim

def Ls : List (Nat × TI) := [
  (1, ⟨.func, 1, 8, [.nilF]⟩),
  (2, ⟨.int .i64, 1, 8, [.int .i64 0]⟩),
  (3, ⟨.int .i64, 1, 8, [.int .i64 0]⟩),
  (4, ⟨.bool, 1, 1, [.bool false]⟩),
  (5, ⟨.int .u8, 1, 1, [.int .u8 0]⟩),
  (6, ⟨.int .u8, 1, 1, [.int .u8 0]⟩),
  (7, ⟨.strct [(0, 2), (1, 3), (2, 4), (3, 6)], 4, 24, [.int .i64 0, .int .i64 0, .bool false, .int .u8 0]⟩),
  (8, ⟨.strct [(0, 2), (1, 3), (2, 4), (3, 6)], 4, 24, [.int .i64 0, .int .i64 0, .bool false, .int .u8 0]⟩),
  (9, ⟨.str, 1, 16, [.str ByteArray.empty]⟩),
  (10, ⟨.str, 1, 16, [.str ByteArray.empty]⟩),
  (11, ⟨.str, 1, 16, [.str ByteArray.empty]⟩),
  (12, ⟨.int .u64, 1, 8, [.int .u64 0]⟩),
  (13, ⟨.strct [(0, 9), (1, 12)], 2, 24, [.str ByteArray.empty, .int .u64 0]⟩),
  (14, ⟨.strct [(0, 9), (1, 12)], 2, 24, [.str ByteArray.empty, .int .u64 0]⟩),
  (15, ⟨.ptr 44, 1, 8, [.nilp]⟩),
  (16, ⟨.ptr 47, 1, 8, [.nilp]⟩),
  (17, ⟨.ptr 57, 1, 8, [.nilp]⟩),
  (18, ⟨.strct [(0, 17)], 1, 8, [.nilp]⟩),
  (19, ⟨.strct [(0, 17)], 1, 8, [.nilp]⟩),
  (20, ⟨.other, 1, 16, [.nilI]⟩),
  (21, ⟨.int .i32, 1, 4, [.int .i32 0]⟩),
  (22, ⟨.func, 1, 8, [.nilF]⟩),
  (24, ⟨.func, 1, 8, [.nilF]⟩),
  (25, ⟨.func, 1, 8, [.nilF]⟩),
  (26, ⟨.func, 1, 8, [.nilF]⟩),
  (27, ⟨.func, 1, 8, [.nilF]⟩),
  (28, ⟨.func, 1, 8, [.nilF]⟩),
  (29, ⟨.func, 1, 8, [.nilF]⟩),
  (30, ⟨.func, 1, 8, [.nilF]⟩),
  (31, ⟨.func, 1, 8, [.nilF]⟩),
  (32, ⟨.func, 1, 8, [.nilF]⟩),
  (33, ⟨.slice 5, 1, 24, [.nsl]⟩),
  (34, ⟨.slice 3, 1, 24, [.nsl]⟩),
  (35, ⟨.func, 1, 8, [.nilF]⟩),
  (36, ⟨.slice 39, 1, 24, [.nsl]⟩),
  (37, ⟨.func, 1, 8, [.nilF]⟩),
  (38, ⟨.strct [(0, 5), (1, 3)], 2, 16, [.int .u8 0, .int .i64 0]⟩),
  (39, ⟨.strct [(0, 5), (1, 3)], 2, 16, [.int .u8 0, .int .i64 0]⟩),
  (40, ⟨.func, 1, 8, [.nilF]⟩),
  (41, ⟨.int .u64, 1, 8, [.int .u64 0]⟩),
  (42, ⟨.func, 1, 8, [.nilF]⟩),
  (43, ⟨.strct [(0, 17), (1, 17), (2, 17), (3, 9)], 4, 40, [.nilp, .nilp, .nilp, .str ByteArray.empty]⟩),
  (44, ⟨.strct [(0, 17), (1, 17), (2, 17), (3, 9)], 4, 40, [.nilp, .nilp, .nilp, .str ByteArray.empty]⟩),
  (45, ⟨.arr 0 16, 0, 0, []⟩),
  (46, ⟨.strct [(0, 45)], 0, 0, []⟩),
  (47, ⟨.strct [(0, 45)], 0, 0, []⟩),
  (48, ⟨.func, 1, 8, [.nilF]⟩),
  (49, ⟨.int .u32, 1, 4, [.int .u32 0]⟩),
  (50, ⟨.int .u8, 1, 1, [.int .u8 0]⟩),
  (51, ⟨.int .u8, 1, 1, [.int .u8 0]⟩),
  (52, ⟨.func, 1, 8, [.nilF]⟩),
  (53, ⟨.ptr 5, 1, 8, [.nilp]⟩),
  (54, ⟨.int .i32, 1, 4, [.int .i32 0]⟩),
  (55, ⟨.int .i32, 1, 4, [.int .i32 0]⟩),
  (56, ⟨.strct [(0, 12), (1, 12), (2, 49), (3, 50), (4, 5), (5, 5), (6, 51), (7, 52), (8, 53), (9, 54), (10, 55)], 11, 48, [.int .u64 0, .int .u64 0, .int .u32 0, .int .u8 0, .int .u8 0, .int .u8 0, .int .u8 0, .nilF, .nilp, .int .i32 0, .int .i32 0]⟩),
  (57, ⟨.strct [(0, 12), (1, 12), (2, 49), (3, 50), (4, 5), (5, 5), (6, 51), (7, 52), (8, 53), (9, 54), (10, 55)], 11, 48, [.int .u64 0, .int .u64 0, .int .u32 0, .int .u8 0, .int .u8 0, .int .u8 0, .int .u8 0, .nilF, .nilp, .int .i32 0, .int .i32 0]⟩)]
noncomputable def L (t : Nat) : Option TI := aget t Ls
@[simp] theorem L1 : L 1 = some ⟨.func, 1, 8, [.nilF]⟩ := by kernel_rfl
@[simp] theorem L2 : L 2 = some ⟨.int .i64, 1, 8, [.int .i64 0]⟩ := by kernel_rfl
@[simp] theorem L3 : L 3 = some ⟨.int .i64, 1, 8, [.int .i64 0]⟩ := by kernel_rfl
@[simp] theorem L4 : L 4 = some ⟨.bool, 1, 1, [.bool false]⟩ := by kernel_rfl
@[simp] theorem L5 : L 5 = some ⟨.int .u8, 1, 1, [.int .u8 0]⟩ := by kernel_rfl
@[simp] theorem L6 : L 6 = some ⟨.int .u8, 1, 1, [.int .u8 0]⟩ := by kernel_rfl
@[simp] theorem L7 : L 7 = some ⟨.strct [(0, 2), (1, 3), (2, 4), (3, 6)], 4, 24, [.int .i64 0, .int .i64 0, .bool false, .int .u8 0]⟩ := by kernel_rfl
@[simp] theorem L8 : L 8 = some ⟨.strct [(0, 2), (1, 3), (2, 4), (3, 6)], 4, 24, [.int .i64 0, .int .i64 0, .bool false, .int .u8 0]⟩ := by kernel_rfl
@[simp] theorem L9 : L 9 = some ⟨.str, 1, 16, [.str ByteArray.empty]⟩ := by kernel_rfl
@[simp] theorem L10 : L 10 = some ⟨.str, 1, 16, [.str ByteArray.empty]⟩ := by kernel_rfl
@[simp] theorem L11 : L 11 = some ⟨.str, 1, 16, [.str ByteArray.empty]⟩ := by kernel_rfl
@[simp] theorem L12 : L 12 = some ⟨.int .u64, 1, 8, [.int .u64 0]⟩ := by kernel_rfl
@[simp] theorem L13 : L 13 = some ⟨.strct [(0, 9), (1, 12)], 2, 24, [.str ByteArray.empty, .int .u64 0]⟩ := by kernel_rfl
@[simp] theorem L14 : L 14 = some ⟨.strct [(0, 9), (1, 12)], 2, 24, [.str ByteArray.empty, .int .u64 0]⟩ := by kernel_rfl
@[simp] theorem L15 : L 15 = some ⟨.ptr 44, 1, 8, [.nilp]⟩ := by kernel_rfl
@[simp] theorem L16 : L 16 = some ⟨.ptr 47, 1, 8, [.nilp]⟩ := by kernel_rfl
@[simp] theorem L17 : L 17 = some ⟨.ptr 57, 1, 8, [.nilp]⟩ := by kernel_rfl
@[simp] theorem L18 : L 18 = some ⟨.strct [(0, 17)], 1, 8, [.nilp]⟩ := by kernel_rfl
@[simp] theorem L19 : L 19 = some ⟨.strct [(0, 17)], 1, 8, [.nilp]⟩ := by kernel_rfl
@[simp] theorem L20 : L 20 = some ⟨.other, 1, 16, [.nilI]⟩ := by kernel_rfl
@[simp] theorem L21 : L 21 = some ⟨.int .i32, 1, 4, [.int .i32 0]⟩ := by kernel_rfl
@[simp] theorem L22 : L 22 = some ⟨.func, 1, 8, [.nilF]⟩ := by kernel_rfl
@[simp] theorem L24 : L 24 = some ⟨.func, 1, 8, [.nilF]⟩ := by kernel_rfl
@[simp] theorem L25 : L 25 = some ⟨.func, 1, 8, [.nilF]⟩ := by kernel_rfl
@[simp] theorem L26 : L 26 = some ⟨.func, 1, 8, [.nilF]⟩ := by kernel_rfl
@[simp] theorem L27 : L 27 = some ⟨.func, 1, 8, [.nilF]⟩ := by kernel_rfl
@[simp] theorem L28 : L 28 = some ⟨.func, 1, 8, [.nilF]⟩ := by kernel_rfl
@[simp] theorem L29 : L 29 = some ⟨.func, 1, 8, [.nilF]⟩ := by kernel_rfl
@[simp] theorem L30 : L 30 = some ⟨.func, 1, 8, [.nilF]⟩ := by kernel_rfl
@[simp] theorem L31 : L 31 = some ⟨.func, 1, 8, [.nilF]⟩ := by kernel_rfl
@[simp] theorem L32 : L 32 = some ⟨.func, 1, 8, [.nilF]⟩ := by kernel_rfl
@[simp] theorem L33 : L 33 = some ⟨.slice 5, 1, 24, [.nsl]⟩ := by kernel_rfl
@[simp] theorem L34 : L 34 = some ⟨.slice 3, 1, 24, [.nsl]⟩ := by kernel_rfl
@[simp] theorem L35 : L 35 = some ⟨.func, 1, 8, [.nilF]⟩ := by kernel_rfl
@[simp] theorem L36 : L 36 = some ⟨.slice 39, 1, 24, [.nsl]⟩ := by kernel_rfl
@[simp] theorem L37 : L 37 = some ⟨.func, 1, 8, [.nilF]⟩ := by kernel_rfl
@[simp] theorem L38 : L 38 = some ⟨.strct [(0, 5), (1, 3)], 2, 16, [.int .u8 0, .int .i64 0]⟩ := by kernel_rfl
@[simp] theorem L39 : L 39 = some ⟨.strct [(0, 5), (1, 3)], 2, 16, [.int .u8 0, .int .i64 0]⟩ := by kernel_rfl
@[simp] theorem L40 : L 40 = some ⟨.func, 1, 8, [.nilF]⟩ := by kernel_rfl
@[simp] theorem L41 : L 41 = some ⟨.int .u64, 1, 8, [.int .u64 0]⟩ := by kernel_rfl
@[simp] theorem L42 : L 42 = some ⟨.func, 1, 8, [.nilF]⟩ := by kernel_rfl
@[simp] theorem L43 : L 43 = some ⟨.strct [(0, 17), (1, 17), (2, 17), (3, 9)], 4, 40, [.nilp, .nilp, .nilp, .str ByteArray.empty]⟩ := by kernel_rfl
@[simp] theorem L44 : L 44 = some ⟨.strct [(0, 17), (1, 17), (2, 17), (3, 9)], 4, 40, [.nilp, .nilp, .nilp, .str ByteArray.empty]⟩ := by kernel_rfl
@[simp] theorem L45 : L 45 = some ⟨.arr 0 16, 0, 0, []⟩ := by kernel_rfl
@[simp] theorem L46 : L 46 = some ⟨.strct [(0, 45)], 0, 0, []⟩ := by kernel_rfl
@[simp] theorem L47 : L 47 = some ⟨.strct [(0, 45)], 0, 0, []⟩ := by kernel_rfl
@[simp] theorem L48 : L 48 = some ⟨.func, 1, 8, [.nilF]⟩ := by kernel_rfl
@[simp] theorem L49 : L 49 = some ⟨.int .u32, 1, 4, [.int .u32 0]⟩ := by kernel_rfl
@[simp] theorem L50 : L 50 = some ⟨.int .u8, 1, 1, [.int .u8 0]⟩ := by kernel_rfl
@[simp] theorem L51 : L 51 = some ⟨.int .u8, 1, 1, [.int .u8 0]⟩ := by kernel_rfl
@[simp] theorem L52 : L 52 = some ⟨.func, 1, 8, [.nilF]⟩ := by kernel_rfl
@[simp] theorem L53 : L 53 = some ⟨.ptr 5, 1, 8, [.nilp]⟩ := by kernel_rfl
@[simp] theorem L54 : L 54 = some ⟨.int .i32, 1, 4, [.int .i32 0]⟩ := by kernel_rfl
@[simp] theorem L55 : L 55 = some ⟨.int .i32, 1, 4, [.int .i32 0]⟩ := by kernel_rfl
@[simp] theorem L56 : L 56 = some ⟨.strct [(0, 12), (1, 12), (2, 49), (3, 50), (4, 5), (5, 5), (6, 51), (7, 52), (8, 53), (9, 54), (10, 55)], 11, 48, [.int .u64 0, .int .u64 0, .int .u32 0, .int .u8 0, .int .u8 0, .int .u8 0, .int .u8 0, .nilF, .nilp, .int .i32 0, .int .i32 0]⟩ := by kernel_rfl
@[simp] theorem L57 : L 57 = some ⟨.strct [(0, 12), (1, 12), (2, 49), (3, 50), (4, 5), (5, 5), (6, 51), (7, 52), (8, 53), (9, 54), (10, 55)], 11, 48, [.int .u64 0, .int .u64 0, .int .u32 0, .int .u8 0, .int .u8 0, .int .u8 0, .int .u8 0, .nilF, .nilp, .int .i32 0, .int .i32 0]⟩ := by kernel_rfl
noncomputable def a2 : AFn := mkA Try.f2 [] [] [] [] [] []
noncomputable def a3 : AFn := mkA Try.f3 [10, 11, 12, 13, 14, 15, 16, 17, 18, 19, 22] [] [] [] [] []
noncomputable def a4 : AFn := mkA Try.f4 [0, 1, 6, 7, 8, 9, 10, 11, 14, 46, 56] [] [] [] [] []
noncomputable def a5 : AFn := mkA Try.f5 [4, 5, 6, 7, 8, 9, 10, 13, 25] [] [] [] [] []
noncomputable def a6 : AFn := mkA Try.f6 [6, 7, 8, 9, 10, 11, 12, 13, 14, 15, 18, 32, 36] [] [] [] [] []
noncomputable def a7 : AFn := mkA Try.f7 [0] [] [] [] [] []
noncomputable def a8 : AFn := mkA Try.f8 [2, 3, 4, 5, 6, 7, 10, 11, 12, 13, 20] [(4, [0, 5, 10, 11, 12], [8, 9])] [] [] [] []
noncomputable def a9 : AFn := mkA Try.f9 [2, 3, 4, 5, 6, 12, 21] [(4, [0, 4, 5, 6], [7, 8])] [] [] [] []
noncomputable def a10 : AFn := mkA Try.f10 [0, 2, 3, 6, 7] [] [] [] [] []
noncomputable def a11 : AFn := mkA Try.f11 [2, 3, 5, 6, 8, 10, 12, 14] [] [] [] [] []
noncomputable def a12 : AFn := mkA Try.f12 [1, 6, 7, 8, 12, 13, 14, 18, 24, 31] [] [] [] [] []
noncomputable def a13 : AFn := mkA Try.f13 [1, 6, 7, 8, 12, 13, 14, 18, 24, 31] [] [] [] [] []
noncomputable def a14 : AFn := mkA Try.f14 [4, 5, 6, 7, 13, 20] [] [] [] [] []
noncomputable def a15 : AFn := mkA Try.f15 [4, 5, 6, 7, 13, 20] [] [] [] [] []
noncomputable def a16 : AFn := mkA Try.f16 [4, 5, 10] [] [] [] [] []
noncomputable def a17 : AFn := mkA Try.f17 [1, 4, 6, 14, 16, 17, 18, 19, 25, 34] [(5, [0, 1, 16, 17, 18], [16])] [] [] [] []
noncomputable def a18 : AFn := mkA Try.f18 [2, 3, 7] [] [] [] [] []
noncomputable def a19 : AFn := mkA Try.f19 [4, 5, 6, 12, 19, 26, 36] [(7, [1, 5, 6], [21])] [] [] [] []
noncomputable def a20 : AFn := mkA Try.f20 [2, 3, 4, 6, 8, 10, 12, 14] [] [] [] [] []
noncomputable def a21 : AFn := mkA Try.f21 [4, 5, 9] [] [] [] [] []
noncomputable def a22 : AFn := mkA Try.f22 [0, 2, 3, 7, 13] [] [] [] [] []
noncomputable def a23 : AFn := mkA Try.f23 [2, 3, 4, 6, 8, 10, 12, 14] [] [] [] [] []
noncomputable def a24 : AFn := mkA Try.f24 [4, 5, 9] [] [] [] [] []
noncomputable def a25 : AFn := mkA Try.f25 [2, 5] [] [] [] [] []
noncomputable def a26 : AFn := mkA Try.f26 [0, 2, 5, 8] [] [] [] [] []
noncomputable def a27 : AFn := mkA Try.f27 [2, 3, 4, 17, 40, 53, 62, 69] [] [2] [] [] []
noncomputable def a28 : AFn := mkA Try.f28 [2, 3, 4, 7, 10, 13, 16, 19, 22, 25, 28, 31, 34, 37] [] [2] [] [] []
noncomputable def a29 : AFn := mkA Try.f29 [2, 3, 4, 18, 25, 34, 41, 48] [] [2] [] [] []

noncomputable def Ts : List (Nat × AFn) := [(2, a2), (3, a3), (4, a4), (5, a5), (6, a6), (7, a7), (8, a8), (9, a9), (10, a10), (11, a11), (12, a12), (13, a13), (14, a14), (15, a15), (16, a16), (17, a17), (18, a18), (19, a19), (20, a20), (21, a21), (22, a22), (23, a23), (24, a24), (25, a25), (26, a26), (27, a27), (28, a28), (29, a29)]
theorem Ts_ok : ∀ p ∈ Ts, FnOK Try.prog L p.1 p.2 := by
  intro p hp
  simp only [Ts, List.mem_cons, List.not_mem_nil, or_false] at hp
  rcases hp with rfl | rfl | rfl | rfl | rfl | rfl | rfl | rfl | rfl | rfl | rfl | rfl | rfl | rfl | rfl | rfl | rfl | rfl | rfl | rfl | rfl | rfl | rfl | rfl | rfl | rfl | rfl | rfl
  · exact mkA_ok Try.func2 (by kernel_rfl)
  · exact mkA_ok Try.func3 (by kernel_rfl)
  · exact mkA_ok Try.func4 (by kernel_rfl)
  · exact mkA_ok Try.func5 (by kernel_rfl)
  · exact mkA_ok Try.func6 (by kernel_rfl)
  · exact mkA_ok Try.func7 (by kernel_rfl)
  · exact mkA_ok Try.func8 (by kernel_rfl)
  · exact mkA_ok Try.func9 (by kernel_rfl)
  · exact mkA_ok Try.func10 (by kernel_rfl)
  · exact mkA_ok Try.func11 (by kernel_rfl)
  · exact mkA_ok Try.func12 (by kernel_rfl)
  · exact mkA_ok Try.func13 (by kernel_rfl)
  · exact mkA_ok Try.func14 (by kernel_rfl)
  · exact mkA_ok Try.func15 (by kernel_rfl)
  · exact mkA_ok Try.func16 (by kernel_rfl)
  · exact mkA_ok Try.func17 (by kernel_rfl)
  · exact mkA_ok Try.func18 (by kernel_rfl)
  · exact mkA_ok Try.func19 (by kernel_rfl)
  · exact mkA_ok Try.func20 (by kernel_rfl)
  · exact mkA_ok Try.func21 (by kernel_rfl)
  · exact mkA_ok Try.func22 (by kernel_rfl)
  · exact mkA_ok Try.func23 (by kernel_rfl)
  · exact mkA_ok Try.func24 (by kernel_rfl)
  · exact mkA_ok Try.func25 (by kernel_rfl)
  · exact mkA_ok Try.func26 (by kernel_rfl)
  · exact mkA_ok Try.func27 (by kernel_rfl)
  · exact mkA_ok Try.func28 (by kernel_rfl)
  · exact mkA_ok Try.func29 (by kernel_rfl)
noncomputable def T (f : Nat) : Option Entry := (aget f Ts).map .code
theorem L_ok : LOK Try.prog L := lok (by kernel_rfl)
theorem T_ok : TableOK Try.prog L T := tok Ts_ok
theorem laid : laidOutB Try.prog = true := by kernel_rfl
theorem own : ownKnob Try.prog.godebug = none := by kernel_rfl

end Go.Proofs.Ytafgafpclbcflaa
