/- The functions and types of this seat, as the interpreter has them. Written by program (tools/Gen.lean). -/
import Derived.Test.YtpnkngnpdfhbgaaSimTab
import Derived.Test.YtpnkngnpdfhbgaaRows
import Derived.KernelRfl
set_option linter.unusedVariables false
set_option maxRecDepth 100000
namespace Go.Proofs.Ytpnkngnpdfhbgaa
open Go.Sim

def Ls : List (Nat × TI) := [
  (1, ⟨.func, 1, 8, [.nilF]⟩),
  (2, ⟨.int .i64, 1, 8, [.int .i64 0]⟩),
  (3, ⟨.int .i64, 1, 8, [.int .i64 0]⟩),
  (4, ⟨.bool, 1, 1, [.bool false]⟩),
  (5, ⟨.int .u8, 1, 1, [.int .u8 0]⟩),
  (6, ⟨.int .u8, 1, 1, [.int .u8 0]⟩),
  (7, ⟨.strct [(0, 2), (1, 3), (2, 4), (3, 6)], 4, 24, [.int .i64 0, .int .i64 0, .bool false, .int .u8 0]⟩),
  (8, ⟨.strct [(0, 2), (1, 3), (2, 4), (3, 6)], 4, 24, [.int .i64 0, .int .i64 0, .bool false, .int .u8 0]⟩),
  (9, ⟨.str, 1, 16, [.str ByteArray.empty]⟩),
  (10, ⟨.str, 1, 16, [.str ByteArray.empty]⟩),
  (11, ⟨.str, 1, 16, [.str ByteArray.empty]⟩),
  (12, ⟨.int .u64, 1, 8, [.int .u64 0]⟩),
  (13, ⟨.strct [(0, 9), (1, 12)], 2, 24, [.str ByteArray.empty, .int .u64 0]⟩),
  (14, ⟨.strct [(0, 9), (1, 12)], 2, 24, [.str ByteArray.empty, .int .u64 0]⟩),
  (15, ⟨.ptr 37, 1, 8, [.nilp]⟩),
  (16, ⟨.ptr 40, 1, 8, [.nilp]⟩),
  (17, ⟨.ptr 50, 1, 8, [.nilp]⟩),
  (18, ⟨.strct [(0, 17)], 1, 8, [.nilp]⟩),
  (19, ⟨.strct [(0, 17)], 1, 8, [.nilp]⟩),
  (20, ⟨.other, 1, 16, [.nilI]⟩),
  (21, ⟨.int .i32, 1, 4, [.int .i32 0]⟩),
  (22, ⟨.func, 1, 8, [.nilF]⟩),
  (23, ⟨.arr 2 4, 2, 2, [.bool false, .bool false]⟩),
  (24, ⟨.arr 3 23, 6, 6, [.bool false, .bool false, .bool false, .bool false, .bool false, .bool false]⟩),
  (25, ⟨.func, 1, 8, [.nilF]⟩),
  (26, ⟨.int .u64, 1, 8, [.int .u64 0]⟩),
  (28, ⟨.func, 1, 8, [.nilF]⟩),
  (29, ⟨.func, 1, 8, [.nilF]⟩),
  (30, ⟨.func, 1, 8, [.nilF]⟩),
  (31, ⟨.func, 1, 8, [.nilF]⟩),
  (32, ⟨.func, 1, 8, [.nilF]⟩),
  (33, ⟨.func, 1, 8, [.nilF]⟩),
  (34, ⟨.func, 1, 8, [.nilF]⟩),
  (35, ⟨.func, 1, 8, [.nilF]⟩),
  (36, ⟨.strct [(0, 17), (1, 17), (2, 17), (3, 9)], 4, 40, [.nilp, .nilp, .nilp, .str ByteArray.empty]⟩),
  (37, ⟨.strct [(0, 17), (1, 17), (2, 17), (3, 9)], 4, 40, [.nilp, .nilp, .nilp, .str ByteArray.empty]⟩),
  (38, ⟨.arr 0 16, 0, 0, []⟩),
  (39, ⟨.strct [(0, 38)], 0, 0, []⟩),
  (40, ⟨.strct [(0, 38)], 0, 0, []⟩),
  (41, ⟨.func, 1, 8, [.nilF]⟩),
  (42, ⟨.int .u32, 1, 4, [.int .u32 0]⟩),
  (43, ⟨.int .u8, 1, 1, [.int .u8 0]⟩),
  (44, ⟨.int .u8, 1, 1, [.int .u8 0]⟩),
  (45, ⟨.func, 1, 8, [.nilF]⟩),
  (46, ⟨.ptr 5, 1, 8, [.nilp]⟩),
  (47, ⟨.int .i32, 1, 4, [.int .i32 0]⟩),
  (48, ⟨.int .i32, 1, 4, [.int .i32 0]⟩),
  (49, ⟨.strct [(0, 12), (1, 12), (2, 42), (3, 43), (4, 5), (5, 5), (6, 44), (7, 45), (8, 46), (9, 47), (10, 48)], 11, 48, [.int .u64 0, .int .u64 0, .int .u32 0, .int .u8 0, .int .u8 0, .int .u8 0, .int .u8 0, .nilF, .nilp, .int .i32 0, .int .i32 0]⟩),
  (50, ⟨.strct [(0, 12), (1, 12), (2, 42), (3, 43), (4, 5), (5, 5), (6, 44), (7, 45), (8, 46), (9, 47), (10, 48)], 11, 48, [.int .u64 0, .int .u64 0, .int .u32 0, .int .u8 0, .int .u8 0, .int .u8 0, .int .u8 0, .nilF, .nilp, .int .i32 0, .int .i32 0]⟩)]
noncomputable def L (t : Nat) : Option TI := aget t Ls
noncomputable def a2 : AFn := mkA Try.f2 [] [] [] [] [] []
noncomputable def a3 : AFn := mkA Try.f3 [2, 3, 4, 5, 6, 7, 10, 13, 16, 20, 24, 31] [(7, [0, 3, 4, 5, 6], [4]), (10, [0, 3, 4, 5, 6, 7], [4])] [] [] [] []
noncomputable def a4 : AFn := mkA Try.f4 [8, 9, 10, 11, 12, 13, 14, 15, 18] [] [] [] [] []
noncomputable def a5 : AFn := mkA Try.f5 [0] [] [] [] [] []
noncomputable def a6 : AFn := mkA Try.f6 [2, 3, 4, 5, 6] [(3, [0, 2, 3, 5], [2, 3])] [] [] [] []
noncomputable def a7 : AFn := mkA Try.f7 [2, 3, 4, 5, 13] [] [] [] [] []
noncomputable def a8 : AFn := mkA Try.f8 [2, 3, 10] [] [] [] [] []
noncomputable def a9 : AFn := mkA Try.f9 [4, 5, 9] [] [] [] [] []
noncomputable def a10 : AFn := mkA Try.f10 [2] [] [] [] [] []
noncomputable def a11 : AFn := mkA Try.f11 [2, 5] [] [] [] [] []
noncomputable def a12 : AFn := mkA Try.f12 [0, 2, 3, 7, 13] [] [] [] [] []

noncomputable def Ts : List (Nat × AFn) := [(2, a2), (3, a3), (4, a4), (5, a5), (6, a6), (7, a7), (8, a8), (9, a9), (10, a10), (11, a11), (12, a12)]
theorem Ts_ok : ∀ p ∈ Ts, FnOK Try.prog L p.1 p.2 := by
  intro p hp
  simp only [Ts, List.mem_cons, List.not_mem_nil, or_false] at hp
  rcases hp with rfl | rfl | rfl | rfl | rfl | rfl | rfl | rfl | rfl | rfl | rfl
  · exact mkA_ok Try.func2 (by kernel_rfl)
  · exact mkA_ok Try.func3 (by kernel_rfl)
  · exact mkA_ok Try.func4 (by kernel_rfl)
  · exact mkA_ok Try.func5 (by kernel_rfl)
  · exact mkA_ok Try.func6 (by kernel_rfl)
  · exact mkA_ok Try.func7 (by kernel_rfl)
  · exact mkA_ok Try.func8 (by kernel_rfl)
  · exact mkA_ok Try.func9 (by kernel_rfl)
  · exact mkA_ok Try.func10 (by kernel_rfl)
  · exact mkA_ok Try.func11 (by kernel_rfl)
  · exact mkA_ok Try.func12 (by kernel_rfl)
noncomputable def T (f : Nat) : Option Entry := (aget f Ts).map .code
theorem L_ok : LOK Try.prog L := lok (by kernel_rfl)
theorem T_ok : TableOK Try.prog L T := tok Ts_ok
theorem laid : laidOutB Try.prog = true := by kernel_rfl
theorem own : ownKnob Try.prog.godebug = none := by kernel_rfl

end Go.Proofs.Ytpnkngnpdfhbgaa
