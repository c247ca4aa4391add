/- Functions of the seat, worked off from their code: chunk bits. Written by program (tools/mkp.py) from wip/fn. -/
import Derived.Test.YtkienchmbfhigaaSimT
import Derived.Test.YtkienchmbfhigaaSimFacts
import Derived.Test.YtkienchmbfhigaaPmosaic
set_option maxRecDepth 100000
set_option maxHeartbeats 4000000
set_option linter.unusedSimpArgs false
set_option linter.unusedVariables false
namespace Go.Proofs.Ytkienchmbfhigaa
open Go Go.Sim
attribute [local congr] ite_congr go_congr goOps_congr stepK_congr ret_congr headK_congr condK_congr guardK_congr
attribute [local simp] go_skip go_ret go_exit go_region go_seq go_cond go_block go_loop ret_nil ret_seq ret_seq_exit ret_seq_ret ret_blk ret_blk_ret ret_blk_exit ret_loop ret_loop_exit ret_loop_ret loopK_head goOps_nil goOps_cons goOps_guard stepK_some stepK_none stepK_ite guardK_true guardK_false guardK_bool condK_bool fin
attribute [local simp] runs denOp operand aget aput adel putD tidy trim getAll freezeAll freezeOne lentOut oneOrTup argEnv lentHeap ofConst ofScalar aCall lendAll lend lentApart lentFree readFree giveBack adopt aBin aUn L Ls mkA getRes asInt? bnd okRead okStore Ann.storeAt lendSize firstRegion List.find?_cons List.find?_nil
attribute [local simp] aInt_add aInt_sub aInt_mul aInt_quo aInt_rem aInt_and aInt_or aInt_xor aInt_andNot aInt_eql aInt_neq aInt_lss aInt_leq aInt_gtr aInt_geq aShift_shl aShift_shr
attribute [local simp] bAnd_u8 bOr_u8 bXor_u8 bAndNot_u8 bShl_u8 wrap_u8_range
attribute [local simp] aBuiltin slLen slCells aAppend newBlk blkOf putCells rdCells TI.isAgg aLoad aStore setR cutA aSlice aStrSlice fillA parts slElem fieldOf freezeSl freezeAgg AV.cells AV.solid AV.isRef repl
attribute [local simp] w_i64 w_u64 w_u8 all_plain_int all_plain_bool all_plain_app pl_bool pl_int pl_str pl_nilp pl_nsl pl_nilI pl_nilF pl_msl pl_ref pl_isl pl_fsl pl_agg take_map_len nat_not_neg int_beq int_bne Int.natCast_inj all_pc_bool all_pc_int all_take_bool all_drop_bool all_take_int all_drop_int
def rev8 (n : Nat) : Nat := n % 2 * 128 + n / 2 % 2 * 64 + n / 4 % 2 * 32 + n / 8 % 2 * 16 + n / 16 % 2 * 8 + n / 32 % 2 * 4 + n / 64 % 2 * 2 + n / 128 % 2
def pop8 (n : Nat) : Nat := n % 2 + n / 2 % 2 + n / 4 % 2 + n / 8 % 2 + n / 16 % 2 + n / 32 % 2 + n / 64 % 2 + n / 128 % 2
theorem pop8_lt (n : Nat) : pop8 n < 256 := by unfold pop8; omega
theorem rev8_lt (n : Nat) : rev8 n < 256 := by unfold rev8; omega
def revI (x : Int) : Int := (rev8 x.toNat : Nat)
theorem revI_range (x : Int) : 0 ≤ revI x ∧ revI x < 256 := by
  have := rev8_lt x.toNat
  unfold revI; omega
attribute [local simp] revI_range
def oddI (x : Int) : Bool := (pop8 x.toNat : Int).tmod 2 == 1
def makeOddI (x : Int) : Int := if oddI (bAnd .u8 x 127) then bAnd .u8 x 127 else bOr .u8 (bAnd .u8 x 127) 128
theorem makeOddI_range (x : Int) : 0 ≤ makeOddI x ∧ makeOddI x < 256 := by unfold makeOddI; split <;> simp
def makeEvenI (x : Int) : Int := bXor .u8 (makeOddI x) 128
theorem makeEvenI_range (x : Int) : 0 ≤ makeEvenI x ∧ makeEvenI x < 256 := by unfold makeEvenI; simp
theorem odd_flip {x : Int} (h0 : 0 ≤ x) (h1 : x < 256) {j : Nat} (hj : j < 8) : oddI (bXor .u8 x (bShl .u8 1 j)) = !oddI x := by
  have := byteB_get (p := fun x => allB (fun j => oddI (bXor .u8 x (bShl .u8 1 j)) == !oddI x) 8) (by decide +kernel) h0 h1
  have := allB_get (p := fun j => oddI (bXor .u8 x (bShl .u8 1 j)) == !oddI x) this hj
  simpa using this
theorem t_OnesCount8 (tag : Nat) (x : Int) (h0 : 0 ≤ x) (h : x < 256) : callω L T 46 tag [.int .u8 x] [none] = some (.int .i64 (pop8 x.toNat), [none]) := by
  rw [call_go (show T 46 = some (.code a46) from rfl) rfl rfl]
  simp [a46, Try.f46, h0]
  rw [map_tab (fun x => (AV.int IntKind.u8 x, _)) pop8 256 (by omega) (by decide +kernel)]
  have := pop8_lt x.toNat
  simp
  exact wrap_i64 (by omega) (by omega)
theorem t_parity_Odd (tag : Nat) (x : Int) (h0 : 0 ≤ x) (h : x < 256) : callω L T 38 tag [.int .u8 x] [none] = some (.bool (oddI x), [none]) := by
  rw [call_go (show T 38 = some (.code a38) from rfl) rfl rfl]
  simp [a38, Try.f38, t_OnesCount8, h0, h, oddI]
end Go.Proofs.Ytkienchmbfhigaa
