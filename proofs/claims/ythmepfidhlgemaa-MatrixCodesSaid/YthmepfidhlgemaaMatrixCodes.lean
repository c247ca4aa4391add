/- MatrixCodes: eight codes are modules', four of each kind, each another one's, all others are none. No condition. -/
import Derived.Test.YthmepfidhlgemaaRows
import Derived.Test.YthmepfidhlgemaaSimT
import Derived.Test.YthmepfidhlgemaaSimFacts
import Derived.Test.YthmepfidhlgemaaPmatrix2
set_option maxRecDepth 100000
set_option maxHeartbeats 4000000
set_option linter.unusedSimpArgs false
set_option linter.unusedVariables false
namespace Go.Proofs.Ythmepfidhlgemaa.matrixCodes
open Go Go.Sim
attribute [local congr] ite_congr go_congr goOps_congr stepK_congr ret_congr headK_congr condK_congr guardK_congr
attribute [local simp] go_skip go_ret go_exit go_region go_seq go_cond go_block go_loop ret_nil ret_seq ret_seq_exit ret_seq_ret ret_blk ret_blk_ret ret_blk_exit ret_loop ret_loop_exit ret_loop_ret loopK_head goOps_nil goOps_cons goOps_guard stepK_some stepK_none stepK_ite guardK_true guardK_false guardK_bool condK_bool fin
attribute [local simp] runs denOp operand aget aput adel putD tidy trim getAll freezeAll freezeOne lentOut oneOrTup argEnv lentHeap ofConst ofScalar aCall lendAll lend lentApart lentFree readFree giveBack adopt aBin aUn L Ls mkA getRes asInt? bnd okRead okStore Ann.storeAt lendSize firstRegion List.find?_cons List.find?_nil
attribute [local simp] aInt_add aInt_sub aInt_mul aInt_quo aInt_rem aInt_and aInt_or aInt_xor aInt_andNot aInt_eql aInt_neq aInt_lss aInt_leq aInt_gtr aInt_geq aShift_shl aShift_shr
attribute [local simp] bAnd_u8 bOr_u8 bXor_u8 bAndNot_u8 bShl_u8 wrap_u8_range
attribute [local simp] aBuiltin slLen slCells aAppend newBlk blkOf putCells rdCells TI.isAgg aLoad aStore setR cutA aSlice aStrSlice fillA parts slElem fieldOf freezeSl freezeAgg AV.cells AV.solid AV.isRef repl
attribute [local simp] w_i64 w_u64 w_u8 all_plain_int all_plain_bool all_plain_app pl_bool pl_int pl_str pl_nilp pl_nsl pl_nilI pl_nilF pl_msl pl_ref pl_isl pl_fsl pl_agg take_map_len nat_not_neg int_beq int_bne Int.natCast_inj all_pc_bool all_pc_int all_take_bool all_drop_bool all_take_int all_drop_int

theorem c1 (x y : Int) (hx0 : 0 ≤ x) (hx : x < 256) (hy0 : 0 ≤ y) (hy : y < 256) (h1 : 88 ≤ x ∧ x < 92) (h2 : 88 ≤ y ∧ y < 92) : callω L T 4 0 [.int .u8 x, .int .u8 y] [none, none] = some (.bool true, [none, none]) := by
  rw [call_go (show T 4 = some (.code a4) from rfl) rfl rfl]
  have i1 : in4 (x - 88) = true := decide_eq_true (by omega)
  have i2 : in4 (x - 80) = false := decide_eq_false (by omega)
  have f1 : ¬ x - 88 < 0 := by omega
  have f2 : ¬ 3 < x - 88 := by omega
  have f3 : codeI (x - 88) true = x := by unfold codeI; rw [if_pos i1]; simp; omega
  have g1 : ¬ x < 80 := by omega
  have g2 : ¬ 91 < x := by omega
  have g3 : 83 < x := by omega
  have g4 : ¬ x < 88 := by omega
  have j1 : in4 (y - 88) = true := decide_eq_true (by omega)
  have e : (x - 88 = y - 88) = (x = y) := by apply propext; omega
  simp [-List.all_eq_true, a4, Try.f4, t_law24_first, t_matrix_To, t_matrix_From, t_matrix_Code, hx0, hx, hy0, hy, i1, i2, f1, f2, f3, g1, g2, g3, g4, j1, e]
theorem c2 (x y : Int) (hx0 : 0 ≤ x) (hx : x < 256) (hy0 : 0 ≤ y) (hy : y < 256) (h1 : 88 ≤ x ∧ x < 92) (h2 : ¬ (88 ≤ y ∧ y < 92)) : callω L T 4 0 [.int .u8 x, .int .u8 y] [none, none] = some (.bool true, [none, none]) := by
  rw [call_go (show T 4 = some (.code a4) from rfl) rfl rfl]
  have i1 : in4 (x - 88) = true := decide_eq_true (by omega)
  have i2 : in4 (x - 80) = false := decide_eq_false (by omega)
  have f1 : ¬ x - 88 < 0 := by omega
  have f2 : ¬ 3 < x - 88 := by omega
  have f3 : codeI (x - 88) true = x := by unfold codeI; rw [if_pos i1]; simp; omega
  have g1 : ¬ x < 80 := by omega
  have g2 : ¬ 91 < x := by omega
  have g3 : 83 < x := by omega
  have g4 : ¬ x < 88 := by omega
  have j1 : in4 (y - 88) = false := decide_eq_false (by omega)
  simp [-List.all_eq_true, a4, Try.f4, t_law24_first, t_matrix_To, t_matrix_From, t_matrix_Code, hx0, hx, hy0, hy, i1, i2, f1, f2, f3, g1, g2, g3, g4, j1]
theorem c3 (x y : Int) (hx0 : 0 ≤ x) (hx : x < 256) (hy0 : 0 ≤ y) (hy : y < 256) (h1 : 80 ≤ x ∧ x < 84) : callω L T 4 0 [.int .u8 x, .int .u8 y] [none, none] = some (.bool true, [none, none]) := by
  rw [call_go (show T 4 = some (.code a4) from rfl) rfl rfl]
  have i1 : in4 (x - 88) = false := decide_eq_false (by omega)
  have i2 : in4 (x - 80) = true := decide_eq_true (by omega)
  have f1 : ¬ x - 80 < 0 := by omega
  have f2 : ¬ 3 < x - 80 := by omega
  have f3 : codeI (x - 80) false = x := by unfold codeI; rw [if_pos i2]; simp; omega
  have g1 : ¬ x < 80 := by omega
  have g2 : ¬ 91 < x := by omega
  have g3 : ¬ 83 < x := by omega
  simp [-List.all_eq_true, a4, Try.f4, t_law24_first, t_matrix_To, t_matrix_From, t_matrix_Code, hx0, hx, hy0, hy, i1, i2, f1, f2, f3, g1, g2, g3]
theorem c4 (x y : Int) (hx0 : 0 ≤ x) (hx : x < 256) (hy0 : 0 ≤ y) (hy : y < 256) (g1 : x < 80) : callω L T 4 0 [.int .u8 x, .int .u8 y] [none, none] = some (.bool true, [none, none]) := by
  rw [call_go (show T 4 = some (.code a4) from rfl) rfl rfl]
  have i1 : in4 (x - 88) = false := decide_eq_false (by omega)
  have i2 : in4 (x - 80) = false := decide_eq_false (by omega)
  simp [-List.all_eq_true, a4, Try.f4, t_law24_first, t_matrix_To, t_matrix_From, t_matrix_Code, hx0, hx, hy0, hy, i1, i2, g1]
theorem c5 (x y : Int) (hx0 : 0 ≤ x) (hx : x < 256) (hy0 : 0 ≤ y) (hy : y < 256) (g2 : 91 < x) : callω L T 4 0 [.int .u8 x, .int .u8 y] [none, none] = some (.bool true, [none, none]) := by
  rw [call_go (show T 4 = some (.code a4) from rfl) rfl rfl]
  have i1 : in4 (x - 88) = false := decide_eq_false (by omega)
  have i2 : in4 (x - 80) = false := decide_eq_false (by omega)
  have g1 : ¬ x < 80 := by omega
  simp [-List.all_eq_true, a4, Try.f4, t_law24_first, t_matrix_To, t_matrix_From, t_matrix_Code, hx0, hx, hy0, hy, i1, i2, g1, g2]
theorem c6 (x y : Int) (hx0 : 0 ≤ x) (hx : x < 256) (hy0 : 0 ≤ y) (hy : y < 256) (g3 : 83 < x) (g4 : x < 88) : callω L T 4 0 [.int .u8 x, .int .u8 y] [none, none] = some (.bool true, [none, none]) := by
  rw [call_go (show T 4 = some (.code a4) from rfl) rfl rfl]
  have i1 : in4 (x - 88) = false := decide_eq_false (by omega)
  have i2 : in4 (x - 80) = false := decide_eq_false (by omega)
  have g1 : ¬ x < 80 := by omega
  have g2 : ¬ 91 < x := by omega
  simp [-List.all_eq_true, a4, Try.f4, t_law24_first, t_matrix_To, t_matrix_From, t_matrix_Code, hx0, hx, hy0, hy, i1, i2, g1, g2, g3, g4]
theorem main (x y : Int) (hx0 : 0 ≤ x) (hx : x < 256) (hy0 : 0 ≤ y) (hy : y < 256) : callω L T 4 0 [.int .u8 x, .int .u8 y] [none, none] = some (.bool true, [none, none]) := by
  by_cases h1 : 88 ≤ x ∧ x < 92
  · by_cases h2 : 88 ≤ y ∧ y < 92
    · exact c1 x y hx0 hx hy0 hy h1 h2
    · exact c2 x y hx0 hx hy0 hy h1 h2
  · by_cases h3 : 80 ≤ x ∧ x < 84
    · exact c3 x y hx0 hx hy0 hy h3
    · by_cases g1 : x < 80
      · exact c4 x y hx0 hx hy0 hy g1
      · by_cases g2 : 91 < x
        · exact c5 x y hx0 hx hy0 hy g2
        · exact c6 x y hx0 hx hy0 hy (by omega) (by omega)
theorem law (cs : List AV) (h : ShpAll L 5 Try.f4.params.toList cs) : ∃ lent, callω L T 4 0 cs (List.replicate Try.f4.params.toList.length none) = some (.bool true, lent) := by
  rw [Try.params4] at h
  obtain ⟨x, _, rfl, hx, h⟩ := shpAll_int rfl h
  obtain ⟨y, _, rfl, hy, h⟩ := shpAll_int rfl h
  obtain rfl := shpAll_nil h
  obtain ⟨n, rfl, hn⟩ := u8_wf hx
  obtain ⟨m, rfl, hm⟩ := u8_wf hy
  exact ⟨_, main n m (by omega) (by omega) (by omega) (by omega)⟩

open Go.ChangeShapes Go.WideShapes Go.ChangeAt Go.RowKit
theorem lifted (os : Os) (started : os.Started) (H : Type) (enc : TypeId × Value → H) :
    ReturnsInHanded {} Try.checked os 4 .any (Rows.matrixCodesSpec.pre6 enc Try.prog Try.f4 Rows.matrixCodesRow.domain false) (Rows.matrixCodesSpec.post enc Try.prog Try.f4 false true false false) := by
  refine law_lift (C := Try.checked) (n := 5) own started (by kernel_rfl) Try.func4 L_ok T_ok (show T 4 = some (.code a4) from rfl) laid (by kernel_rfl) rfl Try.underlying4 rfl ?_ law
    (ChangeSpec.witness6 (enc := enc) (C := Try.checked) false ⟨#[], #[.int .u8 0, .int .u8 0], []⟩ 8 (by kernel_rfl) (by kernel_rfl) (by kernel_rfl) (by kernel_rfl))
  intro H ds hl
  rw [Try.params4] at hl
  match ds, hl with
  | [d1, d2], _ => rfl

theorem over : Rows.matrixCodesRow.holds Try.pinned (OpenSpec.ofChange Rows.matrixCodesSpec) :=
  OpenClaim.holds_of_wide 4 Try.f4 rfl rfl rfl rfl rfl rfl rfl ⟨rfl, rfl, rfl, rfl, rfl⟩ rfl rfl rfl rfl rfl (by kernel_rfl) Try.func4 (by kernel_rfl)
    (of_decide_eq_true (by kernel_rfl)) (by unfold Func.isWrapper; first | (rw [if_pos (by decide +kernel)]; kernel_rfl) | (rw [if_neg (by decide +kernel)]; exact ⟨rfl, rfl⟩))
    (fun os started H enc _ => lifted os started H enc)

theorem proved : Rows.MatrixCodesSaid :=
  over
#print axioms proved
end Go.Proofs.Ythmepfidhlgemaa.matrixCodes
