/- Functions of the seat, worked off from their code: chunk keys2. Written by program (tools/mkp.py) from wip/fn. -/
import Derived.Test.YtekpbmmhclafiaaSimT
import Derived.Test.YtekpbmmhclafiaaSimGuard
import Derived.Test.YtekpbmmhclafiaaPkeys
set_option maxRecDepth 100000
set_option maxHeartbeats 4000000
set_option linter.unusedSimpArgs false
set_option linter.unusedVariables false
namespace Go.Proofs.Ytekpbmmhclafiaa
open Go Go.Sim
attribute [local congr] ite_congr go_congr goOps_congr stepK_congr ret_congr headK_congr condK_congr guardR_congr guardS_congr
attribute [local simp] go_skip go_ret go_exit go_region go_seq go_cond go_block go_loop ret_nil ret_seq ret_seq_exit ret_seq_ret ret_blk ret_blk_ret ret_blk_exit ret_loop ret_loop_exit ret_loop_ret loopK_head goOps_nil goOps_cons goOps_guardR guardR_some guardS_bool guardS_tup stepK_some stepK_none stepK_ite condK_bool fin
attribute [local simp] denOp operand aget aput adel putD tidy trim getAll freezeAll freezeOne lentOut oneOrTup argEnv lentHeap ofConst ofScalar aCall lendAll lend lentApart lentFree readFree giveBack adopt aBin aUn L Ls mkA getRes asInt? bnd okRead okStore Ann.storeAt lendSize firstRegion List.find?_cons List.find?_nil
attribute [local simp] aInt_add aInt_sub aInt_mul aInt_quo aInt_rem aInt_and aInt_or aInt_xor aInt_andNot aInt_eql aInt_neq aInt_lss aInt_leq aInt_gtr aInt_geq aShift_shl aShift_shr
attribute [local simp] bAnd_u8 bOr_u8 bXor_u8 bAndNot_u8 bShl_u8 wrap_u8_range
attribute [local simp] aBuiltin slLen slCells aAppend newBlk blkOf putCells rdCells TI.isAgg aLoad aStore setR cutA aSlice aStrSlice fillA parts slElem fieldOf freezeSl freezeAgg AV.cells AV.solid AV.isRef repl
attribute [local simp] w_i64 w_u64 w_u8 all_plain_int all_plain_bool all_plain_app pl_bool pl_int pl_str pl_nilp pl_nsl pl_nilI pl_nilF pl_msl pl_ref pl_isl pl_fsl pl_agg take_map_len nat_not_neg int_beq int_bne Int.natCast_inj all_pc_bool all_pc_int all_take_bool all_drop_bool all_take_int all_drop_int
def arrowL (e c0 : Bool) (k : Int) : List Int := if e then [27, 91, 65 + k] else if c0 then [11 - k] else []
def keyL (l e c0 : Bool) (key : Int) : List Int :=
  if 32 ≤ key ∧ key ≤ 126 then [letterI l key]
  else if 321 ≤ key ∧ key ≤ 329 then [19, key - 256]
  else if 416 ≤ key ∧ key ≤ 419 then arrowL e c0 (key - 416)
  else if key = 420 then [13]
  else if key = 421 ∧ e = true then [27]
  else []
theorem t_keys_arrow (tag : Nat) (r l e c0 : Bool) (sp : Int) (ec : Bool) (k : Int) (h0 : 0 ≤ k) (h4 : k < 4) : callω L T 22 tag [stV r l e c0 sp ec, .int .i64 k] [none, none] = some (.fsl 1 (arrowL e c0 k).length ((arrowL e c0 k).map (.int .u8)), [none, none]) := by
  rw [call_go (show T 22 = some (.code a22) from rfl) rfl rfl]
  have : k = 0 ∨ k = 1 ∨ k = 2 ∨ k = 3 := by omega
  rcases this with rfl | rfl | rfl | rfl <;> (simp [-List.all_eq_true, a22, Try.f22, stV, startB]; cases e <;> cases c0 <;> simp [arrowL])
theorem t_keys_Bytes (tag : Nat) (r l e c0 : Bool) (sp : Int) (ec : Bool) (key : Int) : callω L T 9 tag [stV r l e c0 sp ec, .int .i64 key] [none, none] = some (.fsl 1 (keyL l e c0 key).length ((keyL l e c0 key).map (.int .u8)), [none, none]) := by
  rw [call_go (show T 9 = some (.code a9) from rfl) rfl rfl]
  have tl := fun tag c => t_keys_letter tag r l e c0 sp ec c
  have ta := fun tag k => t_keys_arrow tag r l e c0 sp ec k
  simp only [stV, startB, List.map_cons, List.map_nil, List.cons_append, List.nil_append] at tl ta
  by_cases h1 : 32 ≤ key ∧ key ≤ 126
  · have e1 : IntKind.u8.wrap key = key := w_u8 (by omega) (by omega)
    have e2 : (0 : Int) ≤ key := by omega
    have e3 : key < 256 := by omega
    simp [-List.all_eq_true, a9, Try.f9, stV, startB, h1, e1, e2, e3, tl, keyL]
  by_cases h2 : 321 ≤ key ∧ key ≤ 329
  · have e1 : IntKind.u8.wrap key = key - 256 := by rw [wrap_u8]; omega
    have e2 : ¬ key ≤ 126 := by omega
    have e3 : 32 ≤ key := by omega
    simp [-List.all_eq_true, a9, Try.f9, stV, startB, h2, e1, e2, e3, keyL]
  by_cases h3 : 416 ≤ key ∧ key ≤ 419
  · have e1 : IntKind.i64.wrap (key - 416) = key - 416 := w_i64 (by omega) (by omega)
    have e2 : ¬ key ≤ 126 := by omega
    have e3 : 32 ≤ key := by omega
    have e4 : 321 ≤ key := by omega
    have e5 : ¬ key ≤ 329 := by omega
    have e6 : key - 416 < 4 := by omega
    simp [-List.all_eq_true, a9, Try.f9, stV, startB, h3, e1, e2, e3, e4, e5, e6, ta, keyL]
  by_cases h4 : key = 420
  · subst h4
    simp [-List.all_eq_true, a9, Try.f9, stV, startB, keyL]
  by_cases h5 : key = 421
  · subst h5
    simp [-List.all_eq_true, a9, Try.f9, stV, startB, keyL]
    cases e <;> simp
  have hk : keyL l e c0 key = [] := by unfold keyL; rw [if_neg h1, if_neg h2, if_neg h3, if_neg h4, if_neg (fun h => h5 h.1)]
  rw [hk]
  simp [-List.all_eq_true, a9, Try.f9, stV, startB, h4, h5]
  by_cases g1 : 32 ≤ key
  · have g2 : ¬ key ≤ 126 := by omega
    by_cases g3 : 321 ≤ key
    · have g4 : ¬ key ≤ 329 := by omega
      by_cases g5 : 416 ≤ key
      · have g6 : ¬ key ≤ 419 := by omega
        simp [g1, g2, g3, g4, g5, g6]
      · simp [g1, g2, g3, g4, g5]
    · have g5 : ¬ 416 ≤ key := by omega
      simp [g1, g2, g3, g5]
  · have g3 : ¬ 321 ≤ key := by omega
    have g5 : ¬ 416 ≤ key := by omega
    simp [g1, g3, g5]

end Go.Proofs.Ytekpbmmhclafiaa
