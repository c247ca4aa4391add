/- ParitySays: for every byte, and any bytes: whether it is odd, made odd, made even, turned round, bytes as text, are what the chapter says. No condition. -/
import Derived.Test.YtifahndnjihfoaaRows
import Derived.Test.YtifahndnjihfoaaSimT
import Derived.Test.YtifahndnjihfoaaSimFacts
import Derived.Test.YtifahndnjihfoaaPparity1
set_option maxRecDepth 100000
set_option linter.unusedSimpArgs false
set_option linter.unusedVariables false
namespace Go.Proofs.Ytifahndnjihfoaa.paritySays
open Go Go.Sim
attribute [local congr] ite_congr go_congr goOps_congr stepK_congr ret_congr headK_congr condK_congr guardK_congr
attribute [local simp] go_skip go_ret go_exit go_region go_seq go_cond go_block go_loop ret_nil ret_seq ret_seq_exit ret_seq_ret ret_blk ret_blk_ret ret_blk_exit ret_loop ret_loop_exit ret_loop_ret loopK_head goOps_nil goOps_cons goOps_guard stepK_some stepK_none stepK_ite guardK_true guardK_false guardK_bool condK_bool fin
attribute [local simp] runs denOp operand aget aput adel putD tidy trim getAll freezeAll freezeOne lentOut oneOrTup argEnv lentHeap ofConst ofScalar aCall lendAll lend lentApart lentFree readFree giveBack adopt aBin aUn L Ls mkA getRes asInt? bnd okRead okStore Ann.storeAt lendSize firstRegion List.find?_cons List.find?_nil
attribute [local simp] aInt_add aInt_sub aInt_mul aInt_quo aInt_rem aInt_and aInt_or aInt_xor aInt_andNot aInt_eql aInt_neq aInt_lss aInt_leq aInt_gtr aInt_geq aShift_shl aShift_shr
attribute [local simp] bAnd_u8 bOr_u8 bXor_u8 bAndNot_u8 bShl_u8 wrap_u8_range
attribute [local simp] aBuiltin slLen slCells aAppend newBlk blkOf putCells rdCells TI.isAgg aLoad aStore setR cutA aSlice aStrSlice fillA parts slElem fieldOf freezeSl freezeAgg AV.cells AV.solid AV.isRef repl
attribute [local simp] w_i64 w_u64 w_u8 all_plain_int all_plain_bool all_plain_app pl_bool pl_int pl_str pl_nilp pl_nsl pl_nilI pl_nilF pl_msl pl_ref pl_isl pl_fsl pl_agg

theorem main (n : Nat) (hn : n < 256) (xs : List Int) (hx : ∀ x ∈ xs, 0 ≤ x ∧ x < 256) : callω L T 6 0 [.int .u8 n, .isl 1 xs.length (xs.map (.int .u8))] [none, none] = some (.bool true, [none, none]) := by
  rw [call_go (show T 6 = some (.code a6) from rfl) rfl rfl]
  have hn0 : (0 : Int) ≤ n := by omega
  have hn1 : (n : Int) < 256 := by omega
  simp [a6, Try.f6, t_law1_first]
  intro hl
  simp [t_parity_Text _ xs hx (by omega)]
  refine headK_up (fun k => { env := [(0, AV.int .u8 n), (1, .isl 1 xs.length (xs.map (.int .u8))), (5, .bool true), (6, .fsl 1 xs.length (xs.map fun n => .int .u8 (bAnd .u8 n 127))), (7, .fsl 1 xs.length (xs.map fun n => .bool (oddI n))), (8, .int .i64 (k : Int))], heap := [], next := 1, tag := 0 }) xs.length _ ?_ ?_ 0 (by omega)
  · intro k hk
    have hm := hx xs[k] (List.getElem_mem hk)
    simp [hk, wrap_succ hk (by omega), hm, t_ref1_Odd]
  · simp [t_parity_Odd, t_parity_Even, t_parity_MakeOdd, t_parity_MakeEven, t_parity_Turn, t_ref1_Odd, t_ref1_MakeOdd, t_ref1_MakeEven, t_ref1_Turn _ n hn, hn0, hn1]
theorem law (cs : List AV) (h : ShpAll L 5 Try.f6.params.toList cs) : ∃ lent, callω L T 6 0 cs (List.replicate Try.f6.params.toList.length none) = some (.bool true, lent) := by
  rw [Try.params6] at h
  obtain ⟨x, _, rfl, hx, h⟩ := shpAll_int rfl h
  obtain ⟨parts, _, rfl, _, hp, h⟩ := shpAll_slice rfl rfl h
  obtain rfl := shpAll_nil h
  obtain ⟨n, rfl, hn⟩ := u8_wf hx
  obtain ⟨xs, e1, e2, e3⟩ := ints_of_parts (n := 3) rfl parts hp
  rw [e1, ← e2]
  exact ⟨_, main n hn xs (fun x hx => by obtain ⟨m, rfl, hm⟩ := u8_wf (e3 x hx); omega)⟩

open Go.ChangeShapes Go.WideShapes Go.ChangeAt Go.RowKit
theorem lifted (os : Os) (started : os.Started) (H : Type) (enc : TypeId × Value → H) :
    ReturnsInHanded {} Try.checked os 6 .any (Rows.paritySaysSpec.pre6 enc Try.prog Try.f6 Rows.paritySaysRow.domain false) (Rows.paritySaysSpec.post enc Try.prog Try.f6 false true false false) := by
  refine law_lift (C := Try.checked) (n := 5) own started (by kernel_rfl) Try.func6 L_ok T_ok (show T 6 = some (.code a6) from rfl) laid (by kernel_rfl) rfl Try.underlying4 rfl ?_ law
    (ChangeSpec.witness6 (enc := enc) (C := Try.checked) false ⟨#[], #[.int .u8 0, .slice none 0 0], []⟩ 8 (by kernel_rfl) (by kernel_rfl) (by kernel_rfl) (by kernel_rfl))
  intro H ds hl
  rw [Try.params6] at hl
  match ds, hl with
  | [d1, d2], _ => rfl

theorem over : Rows.paritySaysRow.holds Try.pinned (OpenSpec.ofChange Rows.paritySaysSpec) :=
  OpenClaim.holds_of_wide 6 Try.f6 rfl rfl rfl rfl rfl rfl rfl ⟨rfl, rfl, rfl, rfl, rfl⟩ rfl rfl rfl rfl rfl (by kernel_rfl) Try.func6 (by kernel_rfl)
    (of_decide_eq_true (by kernel_rfl)) (by unfold Func.isWrapper; first | (rw [if_pos (by decide +kernel)]; kernel_rfl) | (rw [if_neg (by decide +kernel)]; exact ⟨rfl, rfl⟩))
    (fun os started H enc _ => lifted os started H enc)

theorem proved : Rows.ParitySaysSaid :=
  over
#print axioms proved
end Go.Proofs.Ytifahndnjihfoaa.paritySays
