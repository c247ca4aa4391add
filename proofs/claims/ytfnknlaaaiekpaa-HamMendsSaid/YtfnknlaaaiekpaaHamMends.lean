/- HamMends: a number's byte is it, with one bit turned it still is, with two it is none. No condition. -/
import Derived.Test.YtfnknlaaaiekpaaRows
import Derived.Test.YtfnknlaaaiekpaaSimT
import Derived.Test.YtfnknlaaaiekpaaSimFacts
import Derived.Test.YtfnknlaaaiekpaaPham
set_option maxRecDepth 100000
set_option maxHeartbeats 4000000
set_option linter.unusedSimpArgs false
set_option linter.unusedVariables false
namespace Go.Proofs.Ytfnknlaaaiekpaa.hamMends
open Go Go.Sim
attribute [local congr] ite_congr go_congr goOps_congr stepK_congr ret_congr headK_congr condK_congr guardK_congr
attribute [local simp] go_skip go_ret go_exit go_region go_seq go_cond go_block go_loop ret_nil ret_seq ret_seq_exit ret_seq_ret ret_blk ret_blk_ret ret_blk_exit ret_loop ret_loop_exit ret_loop_ret loopK_head goOps_nil goOps_cons goOps_guard stepK_some stepK_none stepK_ite guardK_true guardK_false guardK_bool condK_bool fin
attribute [local simp] runs denOp operand aget aput adel putD tidy trim getAll freezeAll freezeOne lentOut oneOrTup argEnv lentHeap ofConst ofScalar aCall lendAll lend lentApart lentFree readFree giveBack adopt aBin aUn L Ls mkA getRes asInt? bnd okRead okStore Ann.storeAt lendSize firstRegion List.find?_cons List.find?_nil
attribute [local simp] aInt_add aInt_sub aInt_mul aInt_quo aInt_rem aInt_and aInt_or aInt_xor aInt_andNot aInt_eql aInt_neq aInt_lss aInt_leq aInt_gtr aInt_geq aShift_shl aShift_shr
attribute [local simp] bAnd_u8 bOr_u8 bXor_u8 bAndNot_u8 bShl_u8 wrap_u8_range
attribute [local simp] aBuiltin slLen slCells aAppend newBlk blkOf putCells rdCells TI.isAgg aLoad aStore setR cutA aSlice aStrSlice fillA parts slElem fieldOf freezeSl freezeAgg AV.cells AV.solid AV.isRef repl
attribute [local simp] w_i64 w_u64 w_u8 all_plain_int all_plain_bool all_plain_app pl_bool pl_int pl_str pl_nilp pl_nsl pl_nilI pl_nilF pl_msl pl_ref pl_isl pl_fsl pl_agg take_map_len nat_not_neg int_beq int_bne Int.natCast_inj

def flip (z : Nat) (i : Nat) : Nat := z ^^^ 2 ^ i
theorem flip_lt {z i : Nat} (hz : z < 256) (hi : i < 8) : flip z i < 256 := by
  have : 2 ^ i < 2 ^ 8 := Nat.pow_lt_pow_right (by omega) hi
  exact Nat.xor_lt_two_pow (n := 8) hz this
theorem facts (a i j : Nat) (ha : a < 16) (hi : i < 8) (hj : j < 8) : getN (hamB a) = (a, true) ∧ getN (flip (hamB a) i) = (a, true) ∧ ((getN (flip (flip (hamB a) i) j)).2 = decide (i = j)) := by
  have h : allB (fun a => allB (fun i => allB (fun j => decide (getN (hamB a) = (a, true) ∧ getN (flip (hamB a) i) = (a, true) ∧ ((getN (flip (flip (hamB a) i) j)).2 = decide (i = j)))) 8) 8) 16 = true := by decide +kernel
  have h1 := allB_get (p := fun a => allB (fun i => allB (fun j => decide (getN (hamB a) = (a, true) ∧ getN (flip (hamB a) i) = (a, true) ∧ ((getN (flip (flip (hamB a) i) j)).2 = decide (i = j)))) 8) 8) h ha
  have h2 := allB_get (p := fun i => allB (fun j => decide (getN (hamB a) = (a, true) ∧ getN (flip (hamB a) i) = (a, true) ∧ ((getN (flip (flip (hamB a) i) j)).2 = decide (i = j)))) 8) h1 hi
  have h3 := allB_get (p := fun j => decide (getN (hamB a) = (a, true) ∧ getN (flip (hamB a) i) = (a, true) ∧ ((getN (flip (flip (hamB a) i) j)).2 = decide (i = j)))) h2 hj
  simpa using h3
theorem main (n x y : Int) : callω L T 4 0 [.int .i64 n, .int .i64 x, .int .i64 y] [none, none, none] = some (.bool true, [none, none, none]) := by
  rw [call_go (show T 4 = some (.code a4) from rfl) rfl rfl]
  obtain ⟨a, ha, ea⟩ : ∃ r : Nat, r < 16 ∧ n % 16 = r := ⟨(n % 16).toNat, by omega, by omega⟩
  obtain ⟨i, hi, ei⟩ : ∃ r : Nat, r < 8 ∧ x % 8 = r := ⟨(x % 8).toNat, by omega, by omega⟩
  obtain ⟨j, hj, ej⟩ : ∃ r : Nat, r < 8 ∧ y % 8 = r := ⟨(y % 8).toNat, by omega, by omega⟩
  have pa : putI n = (hamB a : Nat) := by unfold putI; rw [ea]; rfl
  obtain ⟨f1, f2, f3⟩ := facts a i j ha hi hj
  have la := hamB_lt a
  have m0 : bAnd .i64 n 15 = a := by rw [and_15]; exact ea
  have m1 : bAnd .i64 x 7 = i := by rw [and_7]; exact ei
  have m2 : bAnd .i64 y 7 = j := by rw [and_7]; exact ej
  have w1 : IntKind.u64.wrap (i : Int) = i := w_u64 (by omega) (by omega)
  have w2 : IntKind.u64.wrap (j : Int) = j := w_u64 (by omega) (by omega)
  have sh : ∀ i : Nat, i < 8 → bShl .u8 1 (i : Int) = ((2 ^ i : Nat) : Int) := by decide
  have lt2 : ∀ i : Nat, i < 8 → 2 ^ i < 256 := by decide
  have s1 : bXor .u8 (hamB a : Nat) (bShl .u8 1 (i : Int)) = (flip (hamB a) i : Nat) := by rw [sh i hi, xor8 la (lt2 i hi)]; rfl
  have l1 := flip_lt la hi
  have s2 : bXor .u8 (flip (hamB a) i : Nat) (bShl .u8 1 (j : Int)) = (flip (flip (hamB a) i) j : Nat) := by rw [sh j hj, xor8 l1 (lt2 j hj)]; rfl
  have l2 := flip_lt l1 hj
  simp [a4, Try.f4, t_law2_first, t_ham_Put, pa, m0, m1, m2, w1, w2, s1, s2, t_ham_Get _ _ la, t_ham_Get _ _ l1, t_ham_Get _ _ l2, f1, f2, f3]
theorem law (cs : List AV) (h : ShpAll L 5 Try.f4.params.toList cs) : ∃ lent, callω L T 4 0 cs (List.replicate Try.f4.params.toList.length none) = some (.bool true, lent) := by
  rw [Try.params4] at h
  obtain ⟨x, _, rfl, _, h⟩ := shpAll_int rfl h
  obtain ⟨y, _, rfl, _, h⟩ := shpAll_int rfl h
  obtain ⟨z, _, rfl, _, h⟩ := shpAll_int rfl h
  obtain rfl := shpAll_nil h
  exact ⟨_, main x y z⟩

open Go.ChangeShapes Go.WideShapes Go.ChangeAt Go.RowKit
theorem lifted (os : Os) (started : os.Started) (H : Type) (enc : TypeId × Value → H) :
    ReturnsInHanded {} Try.checked os 4 .any (Rows.hamMendsSpec.pre6 enc Try.prog Try.f4 Rows.hamMendsRow.domain false) (Rows.hamMendsSpec.post enc Try.prog Try.f4 false true false false) := by
  refine law_lift (C := Try.checked) (n := 5) own started (by kernel_rfl) Try.func4 L_ok T_ok (show T 4 = some (.code a4) from rfl) laid (by kernel_rfl) rfl Try.underlying4 rfl ?_ law
    (ChangeSpec.witness6 (enc := enc) (C := Try.checked) false ⟨#[], #[.int .i64 0, .int .i64 0, .int .i64 0], []⟩ 8 (by kernel_rfl) (by kernel_rfl) (by kernel_rfl) (by kernel_rfl))
  intro H ds hl
  rw [Try.params4] at hl
  match ds, hl with
  | [d1, d2, d3], _ => rfl

theorem over : Rows.hamMendsRow.holds Try.pinned (OpenSpec.ofChange Rows.hamMendsSpec) :=
  OpenClaim.holds_of_wide 4 Try.f4 rfl rfl rfl rfl rfl rfl rfl ⟨rfl, rfl, rfl, rfl, rfl⟩ rfl rfl rfl rfl rfl (by kernel_rfl) Try.func4 (by kernel_rfl)
    (of_decide_eq_true (by kernel_rfl)) (by unfold Func.isWrapper; first | (rw [if_pos (by decide +kernel)]; kernel_rfl) | (rw [if_neg (by decide +kernel)]; exact ⟨rfl, rfl⟩))
    (fun os started H enc _ => lifted os started H enc)

theorem proved : Rows.HamMendsSaid :=
  over
#print axioms proved
end Go.Proofs.Ytfnknlaaaiekpaa.hamMends
