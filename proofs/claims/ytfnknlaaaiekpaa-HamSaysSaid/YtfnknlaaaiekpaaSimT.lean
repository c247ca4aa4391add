/- The functions and types of this seat, as the interpreter has them. Written by program (tools/Gen.lean). -/
import Derived.Test.YtfnknlaaaiekpaaSimTab
import Derived.Test.YtfnknlaaaiekpaaRows
import Derived.KernelRfl
set_option linter.unusedVariables false
set_option maxRecDepth 100000
namespace Go.Proofs.Ytfnknlaaaiekpaa
open Go.Sim

def Ls : List (Nat × TI) := [
  (1, ⟨.func, 1, 8, [.nilF]⟩),
  (2, ⟨.int .i64, 1, 8, [.int .i64 0]⟩),
  (3, ⟨.int .i64, 1, 8, [.int .i64 0]⟩),
  (4, ⟨.bool, 1, 1, [.bool false]⟩),
  (5, ⟨.int .u8, 1, 1, [.int .u8 0]⟩),
  (6, ⟨.int .u8, 1, 1, [.int .u8 0]⟩),
  (7, ⟨.strct [(0, 2), (1, 3), (2, 4), (3, 6)], 4, 24, [.int .i64 0, .int .i64 0, .bool false, .int .u8 0]⟩),
  (8, ⟨.strct [(0, 2), (1, 3), (2, 4), (3, 6)], 4, 24, [.int .i64 0, .int .i64 0, .bool false, .int .u8 0]⟩),
  (9, ⟨.str, 1, 16, [.str ByteArray.empty]⟩),
  (10, ⟨.str, 1, 16, [.str ByteArray.empty]⟩),
  (11, ⟨.str, 1, 16, [.str ByteArray.empty]⟩),
  (12, ⟨.int .u64, 1, 8, [.int .u64 0]⟩),
  (13, ⟨.strct [(0, 9), (1, 12)], 2, 24, [.str ByteArray.empty, .int .u64 0]⟩),
  (14, ⟨.strct [(0, 9), (1, 12)], 2, 24, [.str ByteArray.empty, .int .u64 0]⟩),
  (15, ⟨.ptr 42, 1, 8, [.nilp]⟩),
  (16, ⟨.ptr 45, 1, 8, [.nilp]⟩),
  (17, ⟨.ptr 55, 1, 8, [.nilp]⟩),
  (18, ⟨.strct [(0, 17)], 1, 8, [.nilp]⟩),
  (19, ⟨.strct [(0, 17)], 1, 8, [.nilp]⟩),
  (20, ⟨.other, 1, 16, [.nilI]⟩),
  (21, ⟨.int .i32, 1, 4, [.int .i32 0]⟩),
  (22, ⟨.func, 1, 8, [.nilF]⟩),
  (23, ⟨.func, 1, 8, [.nilF]⟩),
  (24, ⟨.int .u64, 1, 8, [.int .u64 0]⟩),
  (25, ⟨.func, 1, 8, [.nilF]⟩),
  (26, ⟨.func, 1, 8, [.nilF]⟩),
  (28, ⟨.func, 1, 8, [.nilF]⟩),
  (29, ⟨.func, 1, 8, [.nilF]⟩),
  (30, ⟨.slice 3, 1, 24, [.nsl]⟩),
  (31, ⟨.slice 5, 1, 24, [.nsl]⟩),
  (32, ⟨.func, 1, 8, [.nilF]⟩),
  (34, ⟨.func, 1, 8, [.nilF]⟩),
  (35, ⟨.func, 1, 8, [.nilF]⟩),
  (36, ⟨.func, 1, 8, [.nilF]⟩),
  (37, ⟨.func, 1, 8, [.nilF]⟩),
  (38, ⟨.func, 1, 8, [.nilF]⟩),
  (39, ⟨.func, 1, 8, [.nilF]⟩),
  (40, ⟨.func, 1, 8, [.nilF]⟩),
  (41, ⟨.strct [(0, 17), (1, 17), (2, 17), (3, 9)], 4, 40, [.nilp, .nilp, .nilp, .str ByteArray.empty]⟩),
  (42, ⟨.strct [(0, 17), (1, 17), (2, 17), (3, 9)], 4, 40, [.nilp, .nilp, .nilp, .str ByteArray.empty]⟩),
  (43, ⟨.arr 0 16, 0, 0, []⟩),
  (44, ⟨.strct [(0, 43)], 0, 0, []⟩),
  (45, ⟨.strct [(0, 43)], 0, 0, []⟩),
  (46, ⟨.func, 1, 8, [.nilF]⟩),
  (47, ⟨.int .u32, 1, 4, [.int .u32 0]⟩),
  (48, ⟨.int .u8, 1, 1, [.int .u8 0]⟩),
  (49, ⟨.int .u8, 1, 1, [.int .u8 0]⟩),
  (50, ⟨.func, 1, 8, [.nilF]⟩),
  (51, ⟨.ptr 5, 1, 8, [.nilp]⟩),
  (52, ⟨.int .i32, 1, 4, [.int .i32 0]⟩),
  (53, ⟨.int .i32, 1, 4, [.int .i32 0]⟩),
  (54, ⟨.strct [(0, 12), (1, 12), (2, 47), (3, 48), (4, 5), (5, 5), (6, 49), (7, 50), (8, 51), (9, 52), (10, 53)], 11, 48, [.int .u64 0, .int .u64 0, .int .u32 0, .int .u8 0, .int .u8 0, .int .u8 0, .int .u8 0, .nilF, .nilp, .int .i32 0, .int .i32 0]⟩),
  (55, ⟨.strct [(0, 12), (1, 12), (2, 47), (3, 48), (4, 5), (5, 5), (6, 49), (7, 50), (8, 51), (9, 52), (10, 53)], 11, 48, [.int .u64 0, .int .u64 0, .int .u32 0, .int .u8 0, .int .u8 0, .int .u8 0, .int .u8 0, .nilF, .nilp, .int .i32 0, .int .i32 0]⟩)]
noncomputable def L (t : Nat) : Option TI := aget t Ls
noncomputable def a2 : AFn := mkA Try.f2 [] [] [] [] [] []
noncomputable def a3 : AFn := mkA Try.f3 [4, 5, 6, 7, 8, 9, 12, 18] [(8, [0, 1, 5, 6, 7, 8, 9], [])] [] [] [] []
noncomputable def a4 : AFn := mkA Try.f4 [1, 2, 6, 7, 8, 9, 10, 11, 12, 14, 17] [] [] [] [] []
noncomputable def a5 : AFn := mkA Try.f5 [8, 9, 10, 11, 12, 13, 14, 15, 16, 17, 18, 19, 21, 22, 23, 27, 35, 70, 74, 86, 95, 116, 132, 136, 152] [(12, [2, 3, 9, 14, 15], [48]), (19, [3, 9, 16, 17, 18, 19], []), (28, [3, 9, 16, 22], [])] [] [] [] []
noncomputable def a6 : AFn := mkA Try.f6 [6, 7, 8, 9, 10, 11, 12, 13, 14, 15, 18, 26, 34, 44, 52, 81, 85, 97] [(10, [0, 1, 2, 7, 8, 9], [29]), (18, [0, 2, 7, 8, 10, 12], [29])] [29] [] [] []
noncomputable def a7 : AFn := mkA Try.f7 [0] [] [] [] [] []
noncomputable def a8 : AFn := mkA Try.f8 [1, 2, 3, 4, 56] [] [] [] [] []
noncomputable def a9 : AFn := mkA Try.f9 [2] [] [] [] [] []
noncomputable def a10 : AFn := mkA Try.f10 [2, 3, 4, 5, 6, 13] [(2, [0, 5], [])] [] [] [] []
noncomputable def a11 : AFn := mkA Try.f11 [2, 3, 4, 6, 15] [(2, [0, 4], [])] [] [] [] []
noncomputable def a12 : AFn := mkA Try.f12 [2, 3, 5, 6, 7, 8, 9] [(3, [3, 6, 7, 8], [3, 16])] [2, 3] [] [] []
noncomputable def a13 : AFn := mkA Try.f13 [2, 3, 4, 81] [] [] [] [] []
noncomputable def a14 : AFn := mkA Try.f14 [2, 3, 4, 6, 7, 8, 9, 10, 11, 12, 21] [(3, [4, 9, 10, 11], [4, 25])] [2, 4] [] [] []
noncomputable def a15 : AFn := mkA Try.f15 [4, 5, 10] [] [] [] [] []
noncomputable def a16 : AFn := mkA Try.f16 [3] [] [] [] [] []
noncomputable def a17 : AFn := mkA Try.f17 [2] [] [] [] [] []
noncomputable def a18 : AFn := mkA Try.f18 [0, 2, 3, 5] [(2, [0, 3], [])] [] [] [] []
noncomputable def a19 : AFn := mkA Try.f19 [2] [] [] [] [] []
noncomputable def a20 : AFn := mkA Try.f20 [2] [] [] [] [] []

noncomputable def Ts : List (Nat × AFn) := [(2, a2), (3, a3), (4, a4), (5, a5), (6, a6), (7, a7), (8, a8), (9, a9), (10, a10), (11, a11), (12, a12), (13, a13), (14, a14), (15, a15), (16, a16), (17, a17), (18, a18), (19, a19), (20, a20)]
theorem Ts_ok : ∀ p ∈ Ts, FnOK Try.prog L p.1 p.2 := by
  intro p hp
  simp only [Ts, List.mem_cons, List.not_mem_nil, or_false] at hp
  rcases hp with rfl | rfl | rfl | rfl | rfl | rfl | rfl | rfl | rfl | rfl | rfl | rfl | rfl | rfl | rfl | rfl | rfl | rfl | rfl
  · exact mkA_ok Try.func2 (by kernel_rfl)
  · exact mkA_ok Try.func3 (by kernel_rfl)
  · exact mkA_ok Try.func4 (by kernel_rfl)
  · exact mkA_ok Try.func5 (by kernel_rfl)
  · exact mkA_ok Try.func6 (by kernel_rfl)
  · exact mkA_ok Try.func7 (by kernel_rfl)
  · exact mkA_ok Try.func8 (by kernel_rfl)
  · exact mkA_ok Try.func9 (by kernel_rfl)
  · exact mkA_ok Try.func10 (by kernel_rfl)
  · exact mkA_ok Try.func11 (by kernel_rfl)
  · exact mkA_ok Try.func12 (by kernel_rfl)
  · exact mkA_ok Try.func13 (by kernel_rfl)
  · exact mkA_ok Try.func14 (by kernel_rfl)
  · exact mkA_ok Try.func15 (by kernel_rfl)
  · exact mkA_ok Try.func16 (by kernel_rfl)
  · exact mkA_ok Try.func17 (by kernel_rfl)
  · exact mkA_ok Try.func18 (by kernel_rfl)
  · exact mkA_ok Try.func19 (by kernel_rfl)
  · exact mkA_ok Try.func20 (by kernel_rfl)
noncomputable def T (f : Nat) : Option Entry := (aget f Ts).map .code
theorem L_ok : LOK Try.prog L := lok (by kernel_rfl)
theorem T_ok : TableOK Try.prog L T := tok Ts_ok
theorem laid : laidOutB Try.prog = true := by kernel_rfl
theorem own : ownKnob Try.prog.godebug = none := by kernel_rfl

end Go.Proofs.Ytfnknlaaaiekpaa
