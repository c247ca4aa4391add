/- Functions of the seat, worked off from their code: chunk keys. Written by program (tools/mkp.py) from wip/fn. -/
import Derived.Test.YtekpbmmhclafiaaSimT
import Derived.Test.YtekpbmmhclafiaaSimGuard
import Derived.Test.YtekpbmmhclafiaaPbits
import Derived.Test.YtekpbmmhclafiaaPones
import Derived.Test.YtekpbmmhclafiaaPsame
set_option maxRecDepth 100000
set_option maxHeartbeats 4000000
set_option linter.unusedSimpArgs false
set_option linter.unusedVariables false
namespace Go.Proofs.Ytekpbmmhclafiaa
open Go Go.Sim
attribute [local congr] ite_congr go_congr goOps_congr stepK_congr ret_congr headK_congr condK_congr guardR_congr guardS_congr
attribute [local simp] go_skip go_ret go_exit go_region go_seq go_cond go_block go_loop ret_nil ret_seq ret_seq_exit ret_seq_ret ret_blk ret_blk_ret ret_blk_exit ret_loop ret_loop_exit ret_loop_ret loopK_head goOps_nil goOps_cons goOps_guardR guardR_some guardS_bool guardS_tup stepK_some stepK_none stepK_ite condK_bool fin
attribute [local simp] denOp operand aget aput adel putD tidy trim getAll freezeAll freezeOne lentOut oneOrTup argEnv lentHeap ofConst ofScalar aCall lendAll lend lentApart lentFree readFree giveBack adopt aBin aUn L Ls mkA getRes asInt? bnd okRead okStore Ann.storeAt lendSize firstRegion List.find?_cons List.find?_nil
attribute [local simp] aInt_add aInt_sub aInt_mul aInt_quo aInt_rem aInt_and aInt_or aInt_xor aInt_andNot aInt_eql aInt_neq aInt_lss aInt_leq aInt_gtr aInt_geq aShift_shl aShift_shr
attribute [local simp] bAnd_u8 bOr_u8 bXor_u8 bAndNot_u8 bShl_u8 wrap_u8_range
attribute [local simp] aBuiltin slLen slCells aAppend newBlk blkOf putCells rdCells TI.isAgg aLoad aStore setR cutA aSlice aStrSlice fillA parts slElem fieldOf freezeSl freezeAgg AV.cells AV.solid AV.isRef repl
attribute [local simp] w_i64 w_u64 w_u8 all_plain_int all_plain_bool all_plain_app pl_bool pl_int pl_str pl_nilp pl_nsl pl_nilI pl_nilF pl_msl pl_ref pl_isl pl_fsl pl_agg take_map_len nat_not_neg int_beq int_bne Int.natCast_inj all_pc_bool all_pc_int all_take_bool all_drop_bool all_take_int all_drop_int
def startB : List Bool := [false, false, true, false, false, false, false, false, false, true, false, false, false, false, false, false]
theorem t_matrix_Start (tag : Nat) : callω L T 26 tag [] [] = some (.agg (startB.map .bool), []) := by
  rw [call_go (show T 26 = some (.code a26) from rfl) rfl rfl]
  simp [a26, Try.f26, startB]
theorem t_ref20_StartMatrix (tag : Nat) : callω L T 27 tag [] [] = some (.agg (startB.map .bool), []) := by
  rw [call_go (show T 27 = some (.code a27) from rfl) rfl rfl]
  simp [a27, Try.f27, startB]
/-- The modes of a keyboard, as they lie in a state. -/
def stV (r l e c0 : Bool) (sp : Int) (ec : Bool) : AV := .agg (startB.map .bool ++ [.bool r, .bool l, .bool e, .bool c0, .int .u8 sp, .bool ec])
theorem t_proto_Start (tag : Nat) : callω L T 19 tag [] [] = some (stV false false false false 100 false, []) := by
  rw [call_go (show T 19 = some (.code a19) from rfl) rfl rfl]
  simp [-List.all_eq_true, a19, Try.f19, t_matrix_Start, startB, stV]
theorem t_ref20_Start (tag : Nat) : callω L T 20 tag [] [] = some (stV false false false false 100 false, []) := by
  rw [call_go (show T 20 = some (.code a20) from rfl) rfl rfl]
  simp [-List.all_eq_true, a20, Try.f20, t_ref20_StartMatrix, startB, stV]
def letterI (l : Bool) (c : Int) : Int := if 97 ≤ c ∧ c ≤ 122 ∧ l = false then c - 32 else c
theorem t_keys_letter (tag : Nat) (r l e c0 : Bool) (sp : Int) (ec : Bool) (c : Int) (h0 : 0 ≤ c) (h1 : c < 256) : callω L T 21 tag [stV r l e c0 sp ec, .int .u8 c] [none, none] = some (.fsl 1 1 [.int .u8 (letterI l c)], [none, none]) := by
  rw [call_go (show T 21 = some (.code a21) from rfl) rfl rfl]
  simp [-List.all_eq_true, a21, Try.f21, stV, startB]
  unfold letterI
  by_cases h2 : 97 ≤ c
  · have h3 : IntKind.u8.wrap (c - 32) = c - 32 := w_u8 (by omega) (by omega)
    by_cases h4 : c ≤ 122
    · cases l <;> simp [h2, h3, h4]
    · simp [h2, h4]
  · simp [h2]

end Go.Proofs.Ytekpbmmhclafiaa
