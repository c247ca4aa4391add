/- The functions and types of this seat, as the interpreter has them. Written by program (tools/Gen.lean). -/
import Derived.Test.YtekpbmmhclafiaaSimTab
import Derived.Test.YtekpbmmhclafiaaRows
import Derived.KernelRfl
set_option linter.unusedVariables false
set_option maxRecDepth 100000
namespace Go.Proofs.Ytekpbmmhclafiaa
open Go.Sim

def Ls : List (Nat × TI) := [
  (1, ⟨.func, 1, 8, [.nilF]⟩),
  (2, ⟨.int .i64, 1, 8, [.int .i64 0]⟩),
  (3, ⟨.int .i64, 1, 8, [.int .i64 0]⟩),
  (4, ⟨.bool, 1, 1, [.bool false]⟩),
  (5, ⟨.int .u8, 1, 1, [.int .u8 0]⟩),
  (6, ⟨.int .u8, 1, 1, [.int .u8 0]⟩),
  (7, ⟨.strct [(0, 2), (1, 3), (2, 4), (3, 6)], 4, 24, [.int .i64 0, .int .i64 0, .bool false, .int .u8 0]⟩),
  (8, ⟨.strct [(0, 2), (1, 3), (2, 4), (3, 6)], 4, 24, [.int .i64 0, .int .i64 0, .bool false, .int .u8 0]⟩),
  (9, ⟨.str, 1, 16, [.str ByteArray.empty]⟩),
  (10, ⟨.str, 1, 16, [.str ByteArray.empty]⟩),
  (11, ⟨.str, 1, 16, [.str ByteArray.empty]⟩),
  (12, ⟨.int .u64, 1, 8, [.int .u64 0]⟩),
  (13, ⟨.strct [(0, 9), (1, 12)], 2, 24, [.str ByteArray.empty, .int .u64 0]⟩),
  (14, ⟨.strct [(0, 9), (1, 12)], 2, 24, [.str ByteArray.empty, .int .u64 0]⟩),
  (15, ⟨.ptr 61, 1, 8, [.nilp]⟩),
  (16, ⟨.ptr 64, 1, 8, [.nilp]⟩),
  (17, ⟨.ptr 74, 1, 8, [.nilp]⟩),
  (18, ⟨.strct [(0, 17)], 1, 8, [.nilp]⟩),
  (19, ⟨.strct [(0, 17)], 1, 8, [.nilp]⟩),
  (20, ⟨.other, 1, 16, [.nilI]⟩),
  (21, ⟨.int .i32, 1, 4, [.int .i32 0]⟩),
  (22, ⟨.func, 1, 8, [.nilF]⟩),
  (23, ⟨.arr 4 4, 4, 4, [.bool false, .bool false, .bool false, .bool false]⟩),
  (24, ⟨.arr 4 23, 16, 16, repl 4 ([.bool false, .bool false, .bool false, .bool false])⟩),
  (25, ⟨.strct [(0, 24)], 16, 16, (repl 4 ([.bool false, .bool false, .bool false, .bool false]))⟩),
  (26, ⟨.strct [(0, 24)], 16, 16, (repl 4 ([.bool false, .bool false, .bool false, .bool false]))⟩),
  (27, ⟨.strct [(0, 26), (16, 4), (17, 4), (18, 4), (19, 4), (20, 5), (21, 4)], 22, 22, ((repl 4 ([.bool false, .bool false, .bool false, .bool false]))) ++ ([.bool false]) ++ ([.bool false]) ++ ([.bool false]) ++ ([.bool false]) ++ ([.int .u8 0]) ++ ([.bool false])⟩),
  (28, ⟨.strct [(0, 26), (16, 4), (17, 4), (18, 4), (19, 4), (20, 5), (21, 4)], 22, 22, ((repl 4 ([.bool false, .bool false, .bool false, .bool false]))) ++ ([.bool false]) ++ ([.bool false]) ++ ([.bool false]) ++ ([.bool false]) ++ ([.int .u8 0]) ++ ([.bool false])⟩),
  (29, ⟨.strct [(0, 24)], 16, 16, (repl 4 ([.bool false, .bool false, .bool false, .bool false]))⟩),
  (30, ⟨.strct [(0, 24)], 16, 16, (repl 4 ([.bool false, .bool false, .bool false, .bool false]))⟩),
  (31, ⟨.strct [(0, 30), (16, 4), (17, 4), (18, 4), (19, 4), (20, 5), (21, 4)], 22, 22, ((repl 4 ([.bool false, .bool false, .bool false, .bool false]))) ++ ([.bool false]) ++ ([.bool false]) ++ ([.bool false]) ++ ([.bool false]) ++ ([.int .u8 0]) ++ ([.bool false])⟩),
  (32, ⟨.strct [(0, 30), (16, 4), (17, 4), (18, 4), (19, 4), (20, 5), (21, 4)], 22, 22, ((repl 4 ([.bool false, .bool false, .bool false, .bool false]))) ++ ([.bool false]) ++ ([.bool false]) ++ ([.bool false]) ++ ([.bool false]) ++ ([.int .u8 0]) ++ ([.bool false])⟩),
  (34, ⟨.func, 1, 8, [.nilF]⟩),
  (35, ⟨.slice 5, 1, 24, [.nsl]⟩),
  (36, ⟨.func, 1, 8, [.nilF]⟩),
  (37, ⟨.func, 1, 8, [.nilF]⟩),
  (38, ⟨.func, 1, 8, [.nilF]⟩),
  (39, ⟨.func, 1, 8, [.nilF]⟩),
  (40, ⟨.func, 1, 8, [.nilF]⟩),
  (41, ⟨.func, 1, 8, [.nilF]⟩),
  (42, ⟨.slice 3, 1, 24, [.nsl]⟩),
  (43, ⟨.func, 1, 8, [.nilF]⟩),
  (44, ⟨.func, 1, 8, [.nilF]⟩),
  (45, ⟨.func, 1, 8, [.nilF]⟩),
  (46, ⟨.func, 1, 8, [.nilF]⟩),
  (47, ⟨.func, 1, 8, [.nilF]⟩),
  (48, ⟨.func, 1, 8, [.nilF]⟩),
  (49, ⟨.func, 1, 8, [.nilF]⟩),
  (50, ⟨.func, 1, 8, [.nilF]⟩),
  (51, ⟨.func, 1, 8, [.nilF]⟩),
  (52, ⟨.slice 35, 1, 24, [.nsl]⟩),
  (53, ⟨.func, 1, 8, [.nilF]⟩),
  (54, ⟨.func, 1, 8, [.nilF]⟩),
  (55, ⟨.func, 1, 8, [.nilF]⟩),
  (56, ⟨.func, 1, 8, [.nilF]⟩),
  (57, ⟨.int .u64, 1, 8, [.int .u64 0]⟩),
  (58, ⟨.func, 1, 8, [.nilF]⟩),
  (59, ⟨.func, 1, 8, [.nilF]⟩),
  (60, ⟨.strct [(0, 17), (1, 17), (2, 17), (3, 9)], 4, 40, [.nilp, .nilp, .nilp, .str ByteArray.empty]⟩),
  (61, ⟨.strct [(0, 17), (1, 17), (2, 17), (3, 9)], 4, 40, [.nilp, .nilp, .nilp, .str ByteArray.empty]⟩),
  (62, ⟨.arr 0 16, 0, 0, []⟩),
  (63, ⟨.strct [(0, 62)], 0, 0, []⟩),
  (64, ⟨.strct [(0, 62)], 0, 0, []⟩),
  (65, ⟨.func, 1, 8, [.nilF]⟩),
  (66, ⟨.int .u32, 1, 4, [.int .u32 0]⟩),
  (67, ⟨.int .u8, 1, 1, [.int .u8 0]⟩),
  (68, ⟨.int .u8, 1, 1, [.int .u8 0]⟩),
  (69, ⟨.func, 1, 8, [.nilF]⟩),
  (70, ⟨.ptr 5, 1, 8, [.nilp]⟩),
  (71, ⟨.int .i32, 1, 4, [.int .i32 0]⟩),
  (72, ⟨.int .i32, 1, 4, [.int .i32 0]⟩),
  (73, ⟨.strct [(0, 12), (1, 12), (2, 66), (3, 67), (4, 5), (5, 5), (6, 68), (7, 69), (8, 70), (9, 71), (10, 72)], 11, 48, [.int .u64 0, .int .u64 0, .int .u32 0, .int .u8 0, .int .u8 0, .int .u8 0, .int .u8 0, .nilF, .nilp, .int .i32 0, .int .i32 0]⟩),
  (74, ⟨.strct [(0, 12), (1, 12), (2, 66), (3, 67), (4, 5), (5, 5), (6, 68), (7, 69), (8, 70), (9, 71), (10, 72)], 11, 48, [.int .u64 0, .int .u64 0, .int .u32 0, .int .u8 0, .int .u8 0, .int .u8 0, .int .u8 0, .nilF, .nilp, .int .i32 0, .int .i32 0]⟩)]
noncomputable def L (t : Nat) : Option TI := aget t Ls
noncomputable def a2 : AFn := mkA Try.f2 [] [] [] [] [] []
noncomputable def a3 : AFn := mkA Try.f3 [0, 1, 10, 11, 12, 14, 15, 16, 17, 20, 49, 50] [] [] [] [] []
noncomputable def a4 : AFn := mkA Try.f4 [10, 11, 12, 13, 16, 19] [] [] [] [(30, [12]), (32, []), (33, [13]), (35, []), (36, [32, 35]), (40, []), (42, []), (43, [40, 42]), (46, []), (47, []), (48, [46, 47])] []
noncomputable def a5 : AFn := mkA Try.f5 [0, 8, 9, 10, 12, 13, 14, 15, 18, 26, 41, 53] [] [] [] [] []
noncomputable def a6 : AFn := mkA Try.f6 [10, 11, 12, 13, 14, 16, 17, 18, 21, 24, 32, 36, 56, 70, 77] [(10, [0, 1, 2, 3, 4, 11, 12, 13], [27]), (17, [1, 11, 16, 17], [66])] [] [] [] []
noncomputable def a7 : AFn := mkA Try.f7 [0, 1] [] [] [] [] []
noncomputable def a8 : AFn := mkA Try.f8 [6, 7, 8, 9] [] [] [] [(24, [8]), (25, [9])] [(6, 6), (7, 7)]
noncomputable def a9 : AFn := mkA Try.f9 [2, 4, 5, 16, 26, 37, 41] [] [4] [] [] []
noncomputable def a10 : AFn := mkA Try.f10 [4, 5, 6, 11, 15, 28] [(4, [0, 1, 5], [])] [] [] [] []
noncomputable def a11 : AFn := mkA Try.f11 [1, 2, 4, 5, 22, 28, 39, 47, 54, 64, 68] [] [4] [] [] []
noncomputable def a12 : AFn := mkA Try.f12 [2, 3, 5, 6, 7, 8, 9] [(3, [3, 6, 7, 8], [3, 16])] [2, 3] [] [] []
noncomputable def a13 : AFn := mkA Try.f13 [2, 3, 4, 8] [(3, [0, 3, 4], [3, 18])] [2, 3] [] [] []
noncomputable def a14 : AFn := mkA Try.f14 [4, 5, 6, 11, 15, 28] [(4, [0, 1, 5], [])] [] [] [] []
noncomputable def a15 : AFn := mkA Try.f15 [0] [] [0] [] [] []
noncomputable def a16 : AFn := mkA Try.f16 [0] [] [0] [] [] []
noncomputable def a17 : AFn := mkA Try.f17 [2] [] [] [] [] []
noncomputable def a18 : AFn := mkA Try.f18 [4, 5, 9, 17] [(2, [0, 1, 5], [])] [] [] [] []
noncomputable def a19 : AFn := mkA Try.f19 [0] [] [] [] [] []
noncomputable def a20 : AFn := mkA Try.f20 [0] [] [] [] [] []
noncomputable def a21 : AFn := mkA Try.f21 [1, 2, 4, 15] [] [4] [] [] []
noncomputable def a22 : AFn := mkA Try.f22 [2, 4, 5, 12] [] [4] [] [] []
noncomputable def a23 : AFn := mkA Try.f23 [2] [] [] [] [] []
noncomputable def a24 : AFn := mkA Try.f24 [2] [] [] [] [] []
noncomputable def a25 : AFn := mkA Try.f25 [0, 2, 3, 5] [(2, [0, 3], [])] [] [] [] []
noncomputable def a26 : AFn := mkA Try.f26 [0, 1] [] [] [] [] []
noncomputable def a27 : AFn := mkA Try.f27 [0, 1] [] [] [] [] []
noncomputable def a28 : AFn := mkA Try.f28 [0, 2, 6] [] [] [] [] []
noncomputable def a29 : AFn := mkA Try.f29 [2, 3, 7] [] [] [] [] []
noncomputable def a30 : AFn := mkA Try.f30 [2] [] [] [] [] []
noncomputable def a31 : AFn := mkA Try.f31 [2] [] [] [] [] []

noncomputable def Ts : List (Nat × AFn) := [(2, a2), (3, a3), (4, a4), (5, a5), (6, a6), (7, a7), (8, a8), (9, a9), (10, a10), (11, a11), (12, a12), (13, a13), (14, a14), (15, a15), (16, a16), (17, a17), (18, a18), (19, a19), (20, a20), (21, a21), (22, a22), (23, a23), (24, a24), (25, a25), (26, a26), (27, a27), (28, a28), (29, a29), (30, a30), (31, a31)]
theorem Ts_ok : ∀ p ∈ Ts, FnOK Try.prog L p.1 p.2 := by
  intro p hp
  simp only [Ts, List.mem_cons, List.not_mem_nil, or_false] at hp
  rcases hp with rfl | rfl | rfl | rfl | rfl | rfl | rfl | rfl | rfl | rfl | rfl | rfl | rfl | rfl | rfl | rfl | rfl | rfl | rfl | rfl | rfl | rfl | rfl | rfl | rfl | rfl | rfl | rfl | rfl | rfl
  · exact mkA_ok Try.func2 (by kernel_rfl)
  · exact mkA_ok Try.func3 (by kernel_rfl)
  · exact mkA_ok Try.func4 (by kernel_rfl)
  · exact mkA_ok Try.func5 (by kernel_rfl)
  · exact mkA_ok Try.func6 (by kernel_rfl)
  · exact mkA_ok Try.func7 (by kernel_rfl)
  · exact mkA_ok Try.func8 (by kernel_rfl)
  · exact mkA_ok Try.func9 (by kernel_rfl)
  · exact mkA_ok Try.func10 (by kernel_rfl)
  · exact mkA_ok Try.func11 (by kernel_rfl)
  · exact mkA_ok Try.func12 (by kernel_rfl)
  · exact mkA_ok Try.func13 (by kernel_rfl)
  · exact mkA_ok Try.func14 (by kernel_rfl)
  · exact mkA_ok Try.func15 (by kernel_rfl)
  · exact mkA_ok Try.func16 (by kernel_rfl)
  · exact mkA_ok Try.func17 (by kernel_rfl)
  · exact mkA_ok Try.func18 (by kernel_rfl)
  · exact mkA_ok Try.func19 (by kernel_rfl)
  · exact mkA_ok Try.func20 (by kernel_rfl)
  · exact mkA_ok Try.func21 (by kernel_rfl)
  · exact mkA_ok Try.func22 (by kernel_rfl)
  · exact mkA_ok Try.func23 (by kernel_rfl)
  · exact mkA_ok Try.func24 (by kernel_rfl)
  · exact mkA_ok Try.func25 (by kernel_rfl)
  · exact mkA_ok Try.func26 (by kernel_rfl)
  · exact mkA_ok Try.func27 (by kernel_rfl)
  · exact mkA_ok Try.func28 (by kernel_rfl)
  · exact mkA_ok Try.func29 (by kernel_rfl)
  · exact mkA_ok Try.func30 (by kernel_rfl)
  · exact mkA_ok Try.func31 (by kernel_rfl)
noncomputable def T (f : Nat) : Option Entry := (aget f Ts).map .code
theorem L_ok : LOK Try.prog L := lok (by kernel_rfl)
theorem T_ok : TableOK Try.prog L T := tok Ts_ok
theorem laid : laidOutB Try.prog = true := by kernel_rfl
theorem own : ownKnob Try.prog.godebug = none := by kernel_rfl

end Go.Proofs.Ytekpbmmhclafiaa
