/- Functions of the seat, worked off from their code: chunk same. Written by program (tools/mkp.py) from wip/fn. -/
import Derived.Test.YtkienchmbfhigaaSimT
import Derived.Test.YtkienchmbfhigaaSimFacts
import Derived.Test.YtkienchmbfhigaaPones
set_option maxRecDepth 100000
set_option maxHeartbeats 4000000
set_option linter.unusedSimpArgs false
set_option linter.unusedVariables false
namespace Go.Proofs.Ytkienchmbfhigaa
open Go Go.Sim
attribute [local congr] ite_congr go_congr goOps_congr stepK_congr ret_congr headK_congr condK_congr guardK_congr
attribute [local simp] go_skip go_ret go_exit go_region go_seq go_cond go_block go_loop ret_nil ret_seq ret_seq_exit ret_seq_ret ret_blk ret_blk_ret ret_blk_exit ret_loop ret_loop_exit ret_loop_ret loopK_head goOps_nil goOps_cons goOps_guard stepK_some stepK_none stepK_ite guardK_true guardK_false guardK_bool condK_bool fin
attribute [local simp] runs denOp operand aget aput adel putD tidy trim getAll freezeAll freezeOne lentOut oneOrTup argEnv lentHeap ofConst ofScalar aCall lendAll lend lentApart lentFree readFree giveBack adopt aBin aUn L Ls mkA getRes asInt? bnd okRead okStore Ann.storeAt lendSize firstRegion List.find?_cons List.find?_nil
attribute [local simp] aInt_add aInt_sub aInt_mul aInt_quo aInt_rem aInt_and aInt_or aInt_xor aInt_andNot aInt_eql aInt_neq aInt_lss aInt_leq aInt_gtr aInt_geq aShift_shl aShift_shr
attribute [local simp] bAnd_u8 bOr_u8 bXor_u8 bAndNot_u8 bShl_u8 wrap_u8_range
attribute [local simp] aBuiltin slLen slCells aAppend newBlk blkOf putCells rdCells TI.isAgg aLoad aStore setR cutA aSlice aStrSlice fillA parts slElem fieldOf freezeSl freezeAgg AV.cells AV.solid AV.isRef repl
attribute [local simp] w_i64 w_u64 w_u8 all_plain_int all_plain_bool all_plain_app pl_bool pl_int pl_str pl_nilp pl_nsl pl_nilI pl_nilF pl_msl pl_ref pl_isl pl_fsl pl_agg take_map_len nat_not_neg int_beq int_bne Int.natCast_inj all_pc_bool all_pc_int all_take_bool all_drop_bool all_take_int all_drop_int
theorem upto_same {xs ys : List Int} (hl : xs.length = ys.length) {v w : Ans} : ∀ {m k : Nat}, k + m = xs.length → upto (fun k => !(xs[k]? == ys[k]?)) (fun _ => v) w m k = if xs.drop k = ys.drop k then w else v
  | 0, k, h => by rw [List.drop_eq_nil_of_le (by omega), List.drop_eq_nil_of_le (by omega)]; simp [upto]
  | m + 1, k, h => by
    unfold upto
    rw [upto_same hl (by omega), drop_cons (xs := xs) (k := k) (by omega), drop_cons (xs := ys) (k := k) (by omega)]
    rw [List.getElem?_eq_getElem (show k < xs.length from by omega), List.getElem?_eq_getElem (show k < ys.length from by omega)]
    by_cases hx : xs[k]'(by omega) = ys[k]'(by omega)
    · simp only [hx, beq_self_eq_true, Bool.not_true, Bool.false_eq_true, if_false, List.cons.injEq, true_and]
    · have h1 : (some (xs[k]'(by omega)) == some (ys[k]'(by omega))) = false := by simp [hx]
      simp only [h1, Bool.not_false, if_true, List.cons.injEq, hx, false_and, if_false]
end Go.Proofs.Ytkienchmbfhigaa
