/- Functions of the seat, worked off from their code: chunk mosaic. Written by program (tools/mkp.py) from wip/fn. -/
import Derived.Test.YtkienchmbfhigaaSimT
import Derived.Test.YtkienchmbfhigaaSimFacts

set_option maxRecDepth 100000
set_option maxHeartbeats 4000000
set_option linter.unusedSimpArgs false
set_option linter.unusedVariables false
namespace Go.Proofs.Ytkienchmbfhigaa
open Go Go.Sim
attribute [local congr] ite_congr go_congr goOps_congr stepK_congr ret_congr headK_congr condK_congr guardK_congr
attribute [local simp] go_skip go_ret go_exit go_region go_seq go_cond go_block go_loop ret_nil ret_seq ret_seq_exit ret_seq_ret ret_blk ret_blk_ret ret_blk_exit ret_loop ret_loop_exit ret_loop_ret loopK_head goOps_nil goOps_cons goOps_guard stepK_some stepK_none stepK_ite guardK_true guardK_false guardK_bool condK_bool fin
attribute [local simp] runs denOp operand aget aput adel putD tidy trim getAll freezeAll freezeOne lentOut oneOrTup argEnv lentHeap ofConst ofScalar aCall lendAll lend lentApart lentFree readFree giveBack adopt aBin aUn L Ls mkA getRes asInt? bnd okRead okStore Ann.storeAt lendSize firstRegion List.find?_cons List.find?_nil
attribute [local simp] aInt_add aInt_sub aInt_mul aInt_quo aInt_rem aInt_and aInt_or aInt_xor aInt_andNot aInt_eql aInt_neq aInt_lss aInt_leq aInt_gtr aInt_geq aShift_shl aShift_shr
attribute [local simp] bAnd_u8 bOr_u8 bXor_u8 bAndNot_u8 bShl_u8 wrap_u8_range
attribute [local simp] aBuiltin slLen slCells aAppend newBlk blkOf putCells rdCells TI.isAgg aLoad aStore setR cutA aSlice aStrSlice fillA parts slElem fieldOf freezeSl freezeAgg AV.cells AV.solid AV.isRef repl
attribute [local simp] w_i64 w_u64 w_u8 all_plain_int all_plain_bool all_plain_app pl_bool pl_int pl_str pl_nilp pl_nsl pl_nilI pl_nilF pl_msl pl_ref pl_isl pl_fsl pl_agg take_map_len nat_not_neg int_beq int_bne Int.natCast_inj all_pc_bool all_pc_int all_take_bool all_drop_bool all_take_int all_drop_int
def byteB (p : Int → Bool) : Bool := allB (fun n => p n) 256
theorem byteB_get {p : Int → Bool} (h : byteB p = true) {x : Int} (h0 : 0 ≤ x) (h1 : x < 256) : p x = true := by
  have := allB_get (p := fun n => p n) h (i := x.toNat) (by omega)
  rwa [show ((x.toNat : Nat) : Int) = x from by omega] at this
def isMos (c : Int) : Bool := !decide (bAnd .u8 c 32 = 0)
def frenchI (c : Int) : Int := if bAnd .u8 c 127 < 32 then 0 else bAnd .u8 c 31 + (if bAnd .u8 c 64 = 0 then 0 else 32)
def patI (c : Int) : Int := if isMos c then frenchI c else 0
def mCodeI (p : Int) : Int := p % 32 + 32 + (if p % 64 < 32 then 0 else 64)
def mGlyphI (p : Int) (s : Bool) : Int := 0x100000 + p % 64 + (if s then 64 else 0)
theorem t_mosaic_Is (tag : Nat) (c : Int) : callω L T 58 tag [.int .u8 c] [none] = some (.bool (isMos c), [none]) := by
  rw [call_go (show T 58 = some (.code a58) from rfl) rfl rfl]
  simp [-List.all_eq_true, a58, Try.f58, isMos]
theorem french_eq : byteB (fun c => decide ((if bAnd .u8 c 127 < 32 then 0 else if bAnd .u8 (bAnd .u8 c 127) 64 = 0 then IntKind.i64.wrap (bAnd .u8 (bAnd .u8 c 127) 31) else bOr .i64 (IntKind.i64.wrap (bAnd .u8 (bAnd .u8 c 127) 31)) 32) = frenchI c)) = true := by decide +kernel
theorem t_mosaic_French (tag : Nat) (c : Int) (h0 : 0 ≤ c) (h1 : c < 256) : callω L T 66 tag [.int .u8 c] [none] = some (.int .i64 (frenchI c), [none]) := by
  rw [call_go (show T 66 = some (.code a66) from rfl) rfl rfl]
  simp [-List.all_eq_true, a66, Try.f66]
  rw [mergeInt, mergeInt]
  exact same_int (of_decide_eq_true (byteB_get french_eq h0 h1))
theorem t_mosaic_Pattern (tag : Nat) (c : Int) (h0 : 0 ≤ c) (h1 : c < 256) : callω L T 60 tag [.int .u8 c] [none] = some (.int .i64 (patI c), [none]) := by
  rw [call_go (show T 60 = some (.code a60) from rfl) rfl rfl]
  cases h : isMos c <;> simp [-List.all_eq_true, a60, Try.f60, t_mosaic_Is, t_mosaic_French, h, h0, h1, patI]
theorem and_32 (p : Int) : bAnd .i64 p 32 = (p / 32) % 2 * 32 := by
  have h1 : bAnd .i64 p 32 = bAnd .i64 (p % 64) 32 := by
    show IntKind.i64.wrap (((BitVec.ofInt 64 p &&& BitVec.ofInt 64 32).toNat : Nat) : Int) = IntKind.i64.wrap (((BitVec.ofInt 64 (p % 64) &&& BitVec.ofInt 64 32).toNat : Nat) : Int)
    have e : BitVec.ofInt 64 p &&& BitVec.ofInt 64 32 = (BitVec.ofInt 64 (p % 64)) &&& BitVec.ofInt 64 32 := by
      apply BitVec.eq_of_toNat_eq
      rw [BitVec.toNat_and, BitVec.toNat_and, ofInt_mod p, ofInt_mod (p % 64)]
      have : (p % 64 % 18446744073709551616).toNat = (p % 18446744073709551616).toNat % 2 ^ 6 := by
        have : p % 64 = (p % 18446744073709551616) % 64 := (Int.emod_emod_of_dvd p (by decide)).symm
        omega
      rw [this, ← Nat.and_two_pow_sub_one_eq_mod, Nat.and_assoc]
      rfl
    rw [e]
  rw [h1]
  obtain ⟨r, hr, e⟩ : ∃ r : Nat, r < 64 ∧ p % 64 = r := ⟨(p % 64).toNat, by omega, by omega⟩
  have e2 : p / 32 % 2 * 32 = (r : Int) / 32 % 2 * 32 := by omega
  rw [e, e2]
  clear e h1 e2
  revert r
  decide +kernel
theorem code_eq (r : Nat) (hr : r < 64) : (if (r : Int) / 32 % 2 * 32 = 0 then bOr .u8 (IntKind.u8.wrap ((r : Int) % 32)) 32 else bOr .u8 (bOr .u8 (IntKind.u8.wrap ((r : Int) % 32)) 32) 64) = (r : Int) % 32 + 32 + (if (r : Int) < 32 then 0 else 64) := by
  revert r; decide +kernel
theorem glyph_eq (r : Nat) (hr : r < 64) : bOr .i64 (1048576 + (r : Int)) 64 = 1048576 + (r : Int) + 64 ∧ bOr .i64 1048576 r = 1048576 + (r : Int) := by
  revert r; decide +kernel
theorem t_mosaic_Glyph (tag : Nat) (p : Int) (s : Bool) : callω L T 59 tag [.int .i64 p, .bool s] [none, none] = some (.int .i64 (mGlyphI p s), [none, none]) := by
  rw [call_go (show T 59 = some (.code a59) from rfl) rfl rfl]
  obtain ⟨r, hr, e⟩ : ∃ r : Nat, r < 64 ∧ p % 64 = r := ⟨(p % 64).toNat, by omega, by omega⟩
  obtain ⟨q1, q2⟩ := glyph_eq r hr
  cases s <;> simp [-List.all_eq_true, a59, Try.f59, and_63, e, q1, q2, mGlyphI]
theorem and_64 (r : Nat) (hr : r < 128) : (bAnd .i64 r 64 = 0) = (r < 64) := by
  have : ∀ r : Nat, r < 128 → (bAnd .i64 r 64 = 0 ↔ r < 64) := by decide +kernel
  exact propext (this r hr)
/-- What a glyph is: its pattern, whether it is parted, whether it is a mosaic's. -/
def mOf (g : Int) : Int × Bool × Bool := if 0 ≤ g - 1048576 ∧ g - 1048576 < 128 then ((g - 1048576) % 64, decide (64 ≤ g - 1048576), true) else (0, false, false)
theorem t_mosaic_Of (tag : Nat) (g : Int) (hg0 : -9223372036853727232 ≤ g) (hg1 : g ≤ 9223372036854775807) : callω L T 36 tag [.int .i64 g] [none] = some (.tup [.int .i64 (mOf g).1, .bool (mOf g).2.1, .bool (mOf g).2.2], [none]) := by
  rw [call_go (show T 36 = some (.code a36) from rfl) rfl rfl]
  have e : IntKind.i64.wrap (g - 1048576) = g - 1048576 := w_i64 (by omega) (by omega)
  by_cases h : 0 ≤ g - 1048576 ∧ g - 1048576 < 128
  · have e2 : mOf g = ((g - 1048576) % 64, decide (64 ≤ g - 1048576), true) := if_pos h
    rw [e2]
    obtain ⟨r, hr, e3⟩ : ∃ r : Nat, r < 128 ∧ g - 1048576 = r := ⟨(g - 1048576).toNat, by omega, by omega⟩
    rw [e3] at e ⊢
    have h2 : ¬ (128 : Int) ≤ r := by omega
    simp [-List.all_eq_true, a36, Try.f36, and_63, e, e3, h2, and_64 r hr]
    by_cases q : r < 64
    · have q2 : ¬ 64 ≤ r := by omega
      simp [q]; omega
    · have q2 : 64 ≤ r := by omega
      simp [q]; omega
  · have e2 : mOf g = (0, false, false) := if_neg h
    rw [e2]
    by_cases h1 : g - 1048576 < 0
    · have h2 : ¬ 128 ≤ g - 1048576 := by omega
      simp [-List.all_eq_true, a36, Try.f36, and_63, e, h1, h2]
    · have h2 : 128 ≤ g - 1048576 := by omega
      simp [-List.all_eq_true, a36, Try.f36, and_63, e, h1, h2]
def dotB (p : Int) (k : Nat) : Bool := decide (p / ((2 ^ k : Nat) : Int) % 2 = 1)
theorem dot_eq (p : Int) (k : Nat) (hk : k ≤ 64) : decide (bAnd .i64 (bShr .i64 p k) 1 = 1) = dotB p k := by
  rw [and_1, shr_pow _ _ (by exact hk)]; rfl
end Go.Proofs.Ytkienchmbfhigaa
