/- Functions of the seat, worked off from their code: chunk keys3. Written by program (tools/mkp.py) from wip/fn. -/
import Derived.Test.YtekpbmmhclafiaaSimT
import Derived.Test.YtekpbmmhclafiaaSimGuard
import Derived.Test.YtekpbmmhclafiaaPkeys2
import Derived.Test.YtekpbmmhclafiaaPparity1
set_option maxRecDepth 100000
set_option maxHeartbeats 4000000
set_option linter.unusedSimpArgs false
set_option linter.unusedVariables false
namespace Go.Proofs.Ytekpbmmhclafiaa
open Go Go.Sim
attribute [local congr] ite_congr go_congr goOps_congr stepK_congr ret_congr headK_congr condK_congr guardR_congr guardS_congr
attribute [local simp] go_skip go_ret go_exit go_region go_seq go_cond go_block go_loop ret_nil ret_seq ret_seq_exit ret_seq_ret ret_blk ret_blk_ret ret_blk_exit ret_loop ret_loop_exit ret_loop_ret loopK_head goOps_nil goOps_cons goOps_guardR guardR_some guardS_bool guardS_tup stepK_some stepK_none stepK_ite condK_bool fin
attribute [local simp] denOp operand aget aput adel putD tidy trim getAll freezeAll freezeOne lentOut oneOrTup argEnv lentHeap ofConst ofScalar aCall lendAll lend lentApart lentFree readFree giveBack adopt aBin aUn L Ls mkA getRes asInt? bnd okRead okStore Ann.storeAt lendSize firstRegion List.find?_cons List.find?_nil
attribute [local simp] aInt_add aInt_sub aInt_mul aInt_quo aInt_rem aInt_and aInt_or aInt_xor aInt_andNot aInt_eql aInt_neq aInt_lss aInt_leq aInt_gtr aInt_geq aShift_shl aShift_shr
attribute [local simp] bAnd_u8 bOr_u8 bXor_u8 bAndNot_u8 bShl_u8 wrap_u8_range
attribute [local simp] aBuiltin slLen slCells aAppend newBlk blkOf putCells rdCells TI.isAgg aLoad aStore setR cutA aSlice aStrSlice fillA parts slElem fieldOf freezeSl freezeAgg AV.cells AV.solid AV.isRef repl
attribute [local simp] w_i64 w_u64 w_u8 all_plain_int all_plain_bool all_plain_app pl_bool pl_int pl_str pl_nilp pl_nsl pl_nilI pl_nilF pl_msl pl_ref pl_isl pl_fsl pl_agg take_map_len nat_not_neg int_beq int_bne Int.natCast_inj all_pc_bool all_pc_int all_take_bool all_drop_bool all_take_int all_drop_int
def allKeys : List Int := [0x141, 0x142, 0x143, 0x144, 0x145, 0x146, 0x147, 0x148, 0x149, 0x1a0, 0x1a1, 0x1a2, 0x1a3, 0x1a4, 0x1a5]
theorem t_keys_All (tag : Nat) : callω L T 15 tag [] [] = some (.fsl 1 allKeys.length (allKeys.map (.int .i64)), []) := by
  rw [call_go (show T 15 = some (.code a15) from rfl) rfl rfl]
  simp [-List.all_eq_true, a15, Try.f15, allKeys]
theorem t_ref20_Keys (tag : Nat) : callω L T 16 tag [] [] = some (.fsl 1 allKeys.length (allKeys.map (.int .i64)), []) := by
  rw [call_go (show T 16 = some (.code a16) from rfl) rfl rfl]
  simp [-List.all_eq_true, a16, Try.f16, allKeys]
theorem t_keys_Line (tag : Nat) (xs : List Int) (hl : xs.length < 1000000) : callω L T 12 tag [.isl 1 xs.length (xs.map (.int .u8))] [none] = some (.fsl 1 xs.length (xs.map fun x => .int .u8 (makeEvenI x)), [none]) := by
  rw [call_go (show T 12 = some (.code a12) from rfl) rfl rfl]
  simp [-List.all_eq_true, a12, Try.f12]
  refine Eq.trans (headK_push (fun k c g nx => { env := [(3, AV.msl 3 (tag, g) 1 0 k), (6, .isl 1 xs.length (xs.map (.int .u8))), (7, .int .i64 xs.length), (8, .int .i64 k)], heap := [(3, { stamp := (tag, g), cells := c })], next := nx, tag := tag }) xs.length (fun _ => false) (fun k => .int .u8 (makeEvenI (xs.getD k 0))) (fun _ => none) (some (.fsl 1 xs.length (xs.map fun x => .int .u8 (makeEvenI x)), [none])) ?_ ?_ xs.length 0 2 3 (by omega) rfl) (upto_none (by simp))
  · intro k c g nx hk hc hp
    have h3 : k + 1 ≤ 140737488355328 := by omega
    refine ⟨by simp, fun _ => ⟨rfl, ?_⟩⟩
    simp [-List.all_eq_true, hk, hc, h3, t_parity_MakeEven, wrap_succ hk (by omega)]
    exact ⟨_, _, rfl⟩
  · intro g nx hp
    rw [range_map (0 : Int) xs (fun x => AV.int .u8 (makeEvenI x))] at hp ⊢
    simp [allP hp]
theorem t_ref20_Line (tag : Nat) (xs : List Int) (hl : xs.length < 1000000) : callω L T 13 tag [.isl 1 xs.length (xs.map (.int .u8))] [none] = some (.fsl 1 xs.length (xs.map fun x => .int .u8 (makeEvenI x)), [none]) := by
  rw [call_go (show T 13 = some (.code a13) from rfl) rfl rfl]
  simp [-List.all_eq_true, a13, Try.f13]
  refine Eq.trans (headK_push (fun k c g nx => { env := [(0, .isl 1 xs.length (xs.map (.int .u8))), (3, AV.msl 3 (tag, g) 1 0 k), (4, .int .i64 k)], heap := [(3, { stamp := (tag, g), cells := c })], next := nx, tag := tag }) xs.length (fun _ => false) (fun k => .int .u8 (makeEvenI (xs.getD k 0))) (fun _ => none) (some (.fsl 1 xs.length (xs.map fun x => .int .u8 (makeEvenI x)), [none])) ?_ ?_ xs.length 0 2 3 (by omega) rfl) (upto_none (by simp))
  · intro k c g nx hk hc hp
    have h3 : k + 1 ≤ 140737488355328 := by omega
    refine ⟨by simp, fun _ => ⟨rfl, ?_⟩⟩
    simp [-List.all_eq_true, hk, hc, h3, t_ref1_MakeEven, wrap_succ hk (by omega)]
    exact ⟨_, _, rfl⟩
  · intro g nx hp
    rw [range_map (0 : Int) xs (fun x => AV.int .u8 (makeEvenI x))] at hp ⊢
    simp [allP hp]
theorem t_law26_first (tag : Nat) : callω L T 7 tag [] [] = some (.bool true, []) := by
  rw [call_go (show T 7 = some (.code a7) from rfl) rfl rfl]
  have tk := fun tag key => t_keys_Bytes tag false false false false 100 false key
  have ts := fun tag => t_proto_Start tag
  simp only [stV, startB, List.map_cons, List.map_nil, List.cons_append, List.nil_append] at tk ts
  have h1 : keyL false false false 97 = [65] := by decide
  simp [-List.all_eq_true, a7, Try.f7, ts, tk, h1, t_keys_All, allKeys]
theorem t_law26_state (tag : Nat) (l e c0 : Bool) : callω L T 8 tag [.bool l, .bool e, .bool c0] [none, none, none] = some (.tup [stV false l e c0 100 false, stV false l e c0 100 false], [none, none, none]) := by
  rw [call_go (show T 8 = some (.code a8) from rfl) rfl rfl]
  have ts := fun tag => t_proto_Start tag
  have tr := fun tag => t_ref20_Start tag
  simp only [stV, startB, List.map_cons, List.map_nil, List.cons_append, List.nil_append] at ts tr
  simp [-List.all_eq_true, a8, Try.f8, ts, tr, stV, startB]
theorem t_ref20_KeyBytes (tag : Nat) (r l e c0 : Bool) (sp : Int) (ec : Bool) (key : Int) : callω L T 11 tag [stV r l e c0 sp ec, .int .i64 key] [none, none] = some (.fsl 1 (keyL l e c0 key).length ((keyL l e c0 key).map (.int .u8)), [none, none]) := by
  rw [call_go (show T 11 = some (.code a11) from rfl) rfl rfl]
  by_cases h1 : 32 ≤ key ∧ key ≤ 126
  · have e1 : IntKind.u8.wrap key = key := w_u8 (by omega) (by omega)
    have e2 : (0 : Int) ≤ key := by omega
    have e3 : key < 256 := by omega
    have e4 : IntKind.i64.wrap (key - 32) = key - 32 := w_i64 (by omega) (by omega)
    have e5 : 97 ≤ key → IntKind.u8.wrap (key - 32) = key - 32 := fun h => w_u8 (by omega) (by omega)
    by_cases g1 : 97 ≤ key
    · by_cases g2 : key ≤ 122
      · simp [-List.all_eq_true, a11, Try.f11, stV, startB, h1, e1, e2, e3, e4, e5 g1, g1, g2, keyL, letterI]
        cases l <;> simp [h1, e1, e4, e5 g1]
      · simp [-List.all_eq_true, a11, Try.f11, stV, startB, h1, e1, e2, e3, g1, g2, keyL, letterI]
    · simp [-List.all_eq_true, a11, Try.f11, stV, startB, h1, e1, e2, e3, g1, keyL, letterI]
  by_cases h2 : 321 ≤ key ∧ key ≤ 329
  · have e1 : IntKind.u8.wrap (bAnd .i64 key 255) = key - 256 := by
      have : key = 321 ∨ key = 322 ∨ key = 323 ∨ key = 324 ∨ key = 325 ∨ key = 326 ∨ key = 327 ∨ key = 328 ∨ key = 329 := by omega
      rcases this with rfl | rfl | rfl | rfl | rfl | rfl | rfl | rfl | rfl <;> decide +kernel
    have e2 : ¬ key ≤ 126 := by omega
    have e3 : 32 ≤ key := by omega
    simp [-List.all_eq_true, a11, Try.f11, stV, startB, h2, e1, e2, e3, keyL]
  by_cases h3 : 416 ≤ key ∧ key ≤ 419
  · have : key = 416 ∨ key = 417 ∨ key = 418 ∨ key = 419 := by omega
    clear h1 h2 h3
    rcases this with rfl | rfl | rfl | rfl <;> (simp [-List.all_eq_true, a11, Try.f11, stV, startB, keyL, arrowL]; cases e <;> cases c0 <;> simp)
  by_cases h4 : key = 420
  · subst h4
    simp [-List.all_eq_true, a11, Try.f11, stV, startB, keyL]
  by_cases h5 : key = 421
  · subst h5
    simp [-List.all_eq_true, a11, Try.f11, stV, startB, keyL]
    cases e <;> simp
  have hk : keyL l e c0 key = [] := by unfold keyL; rw [if_neg h1, if_neg h2, if_neg h3, if_neg h4, if_neg (fun h => h5 h.1)]
  rw [hk]
  simp [-List.all_eq_true, a11, Try.f11, stV, startB, h4, h5]
  by_cases g1 : 32 ≤ key
  · have g2 : ¬ key ≤ 126 := by omega
    by_cases g3 : 321 ≤ key
    · have g4 : ¬ key ≤ 329 := by omega
      by_cases g5 : 416 ≤ key
      · have g6 : ¬ key ≤ 419 := by omega
        simp [g1, g2, g3, g4, g5, g6]
      · simp [g1, g2, g3, g4, g5]
    · have g5 : ¬ 416 ≤ key := by omega
      simp [g1, g2, g3, g5]
  · have g3 : ¬ 321 ≤ key := by omega
    have g5 : ¬ 416 ≤ key := by omega
    simp [g1, g3, g5]

end Go.Proofs.Ytekpbmmhclafiaa
