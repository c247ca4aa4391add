/- Functions of the seat, worked off from their code: chunk parity1. Written by program (tools/mkp.py) from wip/fn. -/
import Derived.Test.YtkienchmbfhigaaSimT
import Derived.Test.YtkienchmbfhigaaSimFacts
import Derived.Test.YtkienchmbfhigaaPbits
import Derived.Test.YtkienchmbfhigaaPones
set_option maxRecDepth 100000
set_option maxHeartbeats 4000000
set_option linter.unusedSimpArgs false
set_option linter.unusedVariables false
namespace Go.Proofs.Ytkienchmbfhigaa
open Go Go.Sim
attribute [local congr] ite_congr go_congr goOps_congr stepK_congr ret_congr headK_congr condK_congr guardK_congr
attribute [local simp] go_skip go_ret go_exit go_region go_seq go_cond go_block go_loop ret_nil ret_seq ret_seq_exit ret_seq_ret ret_blk ret_blk_ret ret_blk_exit ret_loop ret_loop_exit ret_loop_ret loopK_head goOps_nil goOps_cons goOps_guard stepK_some stepK_none stepK_ite guardK_true guardK_false guardK_bool condK_bool fin
attribute [local simp] runs denOp operand aget aput adel putD tidy trim getAll freezeAll freezeOne lentOut oneOrTup argEnv lentHeap ofConst ofScalar aCall lendAll lend lentApart lentFree readFree giveBack adopt aBin aUn L Ls mkA getRes asInt? bnd okRead okStore Ann.storeAt lendSize firstRegion List.find?_cons List.find?_nil
attribute [local simp] aInt_add aInt_sub aInt_mul aInt_quo aInt_rem aInt_and aInt_or aInt_xor aInt_andNot aInt_eql aInt_neq aInt_lss aInt_leq aInt_gtr aInt_geq aShift_shl aShift_shr
attribute [local simp] bAnd_u8 bOr_u8 bXor_u8 bAndNot_u8 bShl_u8 wrap_u8_range
attribute [local simp] aBuiltin slLen slCells aAppend newBlk blkOf putCells rdCells TI.isAgg aLoad aStore setR cutA aSlice aStrSlice fillA parts slElem fieldOf freezeSl freezeAgg AV.cells AV.solid AV.isRef repl
attribute [local simp] w_i64 w_u64 w_u8 all_plain_int all_plain_bool all_plain_app pl_bool pl_int pl_str pl_nilp pl_nsl pl_nilI pl_nilF pl_msl pl_ref pl_isl pl_fsl pl_agg take_map_len nat_not_neg int_beq int_bne Int.natCast_inj all_pc_bool all_pc_int all_take_bool all_drop_bool all_take_int all_drop_int
theorem t_ref1_MakeOdd (tag : Nat) (x : Int) : callω L T 15 tag [.int .u8 x] [none] = some (.int .u8 (makeOddI x), [none]) := by
  rw [call_go (show T 15 = some (.code a15) from rfl) rfl rfl]
  simp [a15, Try.f15, t_ref1_Odd]
  unfold makeOddI
  split <;> rfl
end Go.Proofs.Ytkienchmbfhigaa
