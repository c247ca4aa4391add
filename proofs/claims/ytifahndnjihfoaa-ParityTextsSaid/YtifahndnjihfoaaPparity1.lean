/- Functions of the seat, worked off from their code: chunk parity1. Written by program (tools/mkp.py) from wip/fn. -/
import Derived.Test.YtifahndnjihfoaaSimT
import Derived.Test.YtifahndnjihfoaaSimFacts
import Derived.Test.YtifahndnjihfoaaPbits
import Derived.Test.YtifahndnjihfoaaPones
set_option maxRecDepth 100000
set_option linter.unusedSimpArgs false
set_option linter.unusedVariables false
namespace Go.Proofs.Ytifahndnjihfoaa
open Go Go.Sim
attribute [local congr] ite_congr go_congr goOps_congr stepK_congr ret_congr headK_congr condK_congr guardK_congr
attribute [local simp] go_skip go_ret go_exit go_region go_seq go_cond go_block go_loop ret_nil ret_seq ret_seq_exit ret_seq_ret ret_blk ret_blk_ret ret_blk_exit ret_loop ret_loop_exit ret_loop_ret loopK_head goOps_nil goOps_cons goOps_guard stepK_some stepK_none stepK_ite guardK_true guardK_false guardK_bool condK_bool fin
attribute [local simp] runs denOp operand aget aput adel putD tidy trim getAll freezeAll freezeOne lentOut oneOrTup argEnv lentHeap ofConst ofScalar aCall lendAll lend lentApart lentFree readFree giveBack adopt aBin aUn L Ls mkA getRes asInt? bnd okRead okStore Ann.storeAt lendSize firstRegion List.find?_cons List.find?_nil
attribute [local simp] aInt_add aInt_sub aInt_mul aInt_quo aInt_rem aInt_and aInt_or aInt_xor aInt_andNot aInt_eql aInt_neq aInt_lss aInt_leq aInt_gtr aInt_geq aShift_shl aShift_shr
attribute [local simp] bAnd_u8 bOr_u8 bXor_u8 bAndNot_u8 bShl_u8 wrap_u8_range
attribute [local simp] aBuiltin slLen slCells aAppend newBlk blkOf putCells rdCells TI.isAgg aLoad aStore setR cutA aSlice aStrSlice fillA parts slElem fieldOf freezeSl freezeAgg AV.cells AV.solid AV.isRef repl
attribute [local simp] w_i64 w_u64 w_u8 all_plain_int all_plain_bool all_plain_app pl_bool pl_int pl_str pl_nilp pl_nsl pl_nilI pl_nilF pl_msl pl_ref pl_isl pl_fsl pl_agg
theorem t_law1_first (tag : Nat) : callω L T 7 tag [] [] = some (.bool true, []) := by
  rw [call_go (show T 7 = some (.code a7) from rfl) rfl rfl]
  have h1 : makeOddI 0 = 128 := by decide +kernel
  have h2 : revI 1 = 128 := by decide +kernel
  simp [a7, Try.f7, t_parity_MakeOdd, t_parity_Turn, h1, h2]
theorem t_ref1_MakeOdd (tag : Nat) (x : Int) : callω L T 16 tag [.int .u8 x] [none] = some (.int .u8 (makeOddI x), [none]) := by
  rw [call_go (show T 16 = some (.code a16) from rfl) rfl rfl]
  simp [a16, Try.f16, t_ref1_Odd]
  unfold makeOddI
  split <;> rfl
theorem t_ref1_MakeEven (tag : Nat) (x : Int) : callω L T 17 tag [.int .u8 x] [none] = some (.int .u8 (makeEvenI x), [none]) := by
  rw [call_go (show T 17 = some (.code a17) from rfl) rfl rfl]
  simp [a17, Try.f17, t_ref1_MakeOdd, makeEvenI]
theorem t_ref1_Turn (tag : Nat) (n : Nat) (hn : n < 256) : callω L T 18 tag [.int .u8 n] [none] = some (.int .u8 (revI n), [none]) := by
  rw [call_go (show T 18 = some (.code a18) from rfl) rfl rfl]
  simp [a18, Try.f18, headK]
  revert n
  decide +kernel
theorem t_parity_Text (tag : Nat) (xs : List Int) (hx : ∀ x ∈ xs, 0 ≤ x ∧ x < 256) (hl : xs.length < 1000000) : callω L T 14 tag [.isl 1 xs.length (xs.map (.int .u8))] [none] =
    some (.tup [.fsl 1 xs.length (xs.map fun n => .int .u8 (bAnd .u8 n 127)), .fsl 1 xs.length (xs.map fun n => .bool (oddI n))], [none]) := by
  rw [call_go (show T 14 = some (.code a14) from rfl) rfl rfl]
  simp [a14, Try.f14]
  refine Eq.trans (headK_ind (X := Nat × List AV × List AV × Nat × Nat × Nat) (fun x => { env := [(4, AV.msl 4 (tag, x.2.2.2.1) 1 0 x.1), (5, AV.msl 5 (tag, x.2.2.2.2.1) 1 0 x.1), (8, .isl 1 xs.length (xs.map (.int .u8))), (9, .int .i64 xs.length), (10, .int .i64 x.1)], heap := [(4, { stamp := (tag, x.2.2.2.1), cells := x.2.1 }), (5, { stamp := (tag, x.2.2.2.2.1), cells := x.2.2.1 })], next := x.2.2.2.2.2, tag := tag })
     (fun x => some (.tup [.fsl 1 xs.length (x.2.1 ++ (xs.drop x.1).map fun n => .int .u8 (bAnd .u8 n 127)), .fsl 1 xs.length (x.2.2.1 ++ (xs.drop x.1).map fun n => .bool (oddI n))], [none])) (fun x => xs.length - x.1) (fun x => x.1 ≤ xs.length ∧ x.2.1.length = x.1 ∧ x.2.2.1.length = x.1 ∧ x.2.1.all AV.plain = true ∧ x.2.2.1.all AV.plain = true) ?_ (0, [], [], 3, 4, 5) (by simp)) (by simp)
  rintro ⟨k, a, b, g, g', nx⟩ ⟨hk, ha, hb, pa, pb⟩ ih
  simp only at hk ha hb pa pb ih ⊢
  rcases Nat.lt_or_ge k xs.length with h | h
  · have hm := hx xs[k] (List.getElem_mem h)
    have h3 : k + 1 ≤ 140737488355328 := by omega
    simp [h, wrap_succ h (by omega), hm, t_parity_Odd, ha, hb, h3]
    refine (ih (k + 1, _, _, _, _, _) (by simp [ha, hb, pa, pb, pl_int, pl_bool, all_plain_app]; omega) (by simp only; omega)).trans ?_
    simp [drop_map_cons h]
  · have : k = xs.length := by omega
    subst this
    simp [ha, hb, allP pa, allP pb]

end Go.Proofs.Ytifahndnjihfoaa
