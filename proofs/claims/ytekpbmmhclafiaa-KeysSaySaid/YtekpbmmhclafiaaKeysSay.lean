/- KeysSay: what any key sends in any mode, any bytes with their parity, and all keys, are what the document's answer says. No condition. -/
import Derived.Test.YtekpbmmhclafiaaRows
import Derived.Test.YtekpbmmhclafiaaSimT
import Derived.Test.YtekpbmmhclafiaaSimGuard
import Derived.Test.YtekpbmmhclafiaaPkeys3
import Derived.Test.YtekpbmmhclafiaaPsame
set_option maxRecDepth 100000
set_option maxHeartbeats 4000000
set_option linter.unusedSimpArgs false
set_option linter.unusedVariables false
namespace Go.Proofs.Ytekpbmmhclafiaa.keysSay
open Go Go.Sim
attribute [local congr] ite_congr go_congr goOps_congr stepK_congr ret_congr headK_congr condK_congr guardR_congr guardS_congr
attribute [local simp] go_skip go_ret go_exit go_region go_seq go_cond go_block go_loop ret_nil ret_seq ret_seq_exit ret_seq_ret ret_blk ret_blk_ret ret_blk_exit ret_loop ret_loop_exit ret_loop_ret loopK_head goOps_nil goOps_cons goOps_guardR guardR_some guardS_bool guardS_tup stepK_some stepK_none stepK_ite condK_bool fin
attribute [local simp] denOp operand aget aput adel putD tidy trim getAll freezeAll freezeOne lentOut oneOrTup argEnv lentHeap ofConst ofScalar aCall lendAll lend lentApart lentFree readFree giveBack adopt aBin aUn L Ls mkA getRes asInt? bnd okRead okStore Ann.storeAt lendSize firstRegion List.find?_cons List.find?_nil
attribute [local simp] aInt_add aInt_sub aInt_mul aInt_quo aInt_rem aInt_and aInt_or aInt_xor aInt_andNot aInt_eql aInt_neq aInt_lss aInt_leq aInt_gtr aInt_geq aShift_shl aShift_shr
attribute [local simp] bAnd_u8 bOr_u8 bXor_u8 bAndNot_u8 bShl_u8 wrap_u8_range
attribute [local simp] aBuiltin slLen slCells aAppend newBlk blkOf putCells rdCells TI.isAgg aLoad aStore setR cutA aSlice aStrSlice fillA parts slElem fieldOf freezeSl freezeAgg AV.cells AV.solid AV.isRef repl
attribute [local simp] w_i64 w_u64 w_u8 all_plain_int all_plain_bool all_plain_app pl_bool pl_int pl_str pl_nilp pl_nsl pl_nilI pl_nilF pl_msl pl_ref pl_isl pl_fsl pl_agg take_map_len nat_not_neg int_beq int_bne Int.natCast_inj all_pc_bool all_pc_int all_take_bool all_drop_bool all_take_int all_drop_int

theorem main (key : Int) (l e c0 : Bool) (xs : List Int) : callω L T 4 0 [.int .i64 key, .bool l, .bool e, .bool c0, .isl 1 xs.length (xs.map (.int .u8))] [none, none, none, none, none] = some (.bool true, [none, none, none, none, none]) := by
  rw [call_go (show T 4 = some (.code a4) from rfl) rfl rfl]
  by_cases hl : 60 < xs.length
  · have hl2 : ¬ (xs.length : Int) ≤ 60 := by omega
    simp [-List.all_eq_true, a4, Try.f4, t_law26_first, hl2]
  have tb := fun tag => t_keys_Bytes tag false l e c0 100 false key
  have tr := fun tag => t_ref20_KeyBytes tag false l e c0 100 false key
  have ts := fun tag => t_law26_state tag l e c0
  have hk : (keyL l e c0 key).length < 1000000 := by
    unfold keyL arrowL
    repeat' split
    all_goals simp
  have h1 := fun tag => t_SameBytes tag (keyL l e c0 key) (keyL l e c0 key) hk
  have h2 := fun tag => t_SameBytes tag (xs.map makeEvenI) (xs.map makeEvenI) (by simp; omega)
  have h3 := fun tag => t_SameInts tag allKeys allKeys (by decide)
  simp only [List.map_map, List.length_map] at h2
  have h4 := fun tag => t_keys_Line tag xs (by omega)
  have h5 := fun tag => t_ref20_Line tag xs (by omega)
  have h6 := fun tag => t_keys_All tag
  have h7 := fun tag => t_ref20_Keys tag
  simp only [Function.comp_def] at h2
  simp only [stV, startB, List.map_cons, List.map_nil, List.cons_append, List.nil_append] at ts tb tr
  generalize keyL l e c0 key = K at *
  generalize allKeys = A at *
  simp [-List.all_eq_true, a4, Try.f4, t_law26_first, hl, tb, tr, ts, h1, h2, h3, h4, h5, h6, h7, Function.comp_def]
theorem law (cs : List AV) (h : ShpAll L 5 Try.f4.params.toList cs) : ∃ lent, callω L T 4 0 cs (List.replicate Try.f4.params.toList.length none) = some (.bool true, lent) := by
  rw [Try.params4] at h
  obtain ⟨key, _, rfl, _, h1⟩ := shpAll_int rfl h
  obtain ⟨l, _, rfl, h2⟩ := shpAll_bool rfl h1
  obtain ⟨e, _, rfl, h3⟩ := shpAll_bool rfl h2
  obtain ⟨c, _, rfl, h4⟩ := shpAll_bool rfl h3
  obtain ⟨parts, _, rfl, _, hp, h5⟩ := shpAll_slice rfl rfl h4
  obtain rfl := shpAll_nil h5
  obtain ⟨xs, e1, e2, e3⟩ := ints_of_parts (n := 3) rfl parts hp
  rw [e1, ← e2]
  exact ⟨_, main key l e c xs⟩

open Go.ChangeShapes Go.WideShapes Go.ChangeAt Go.RowKit
theorem lifted (os : Os) (started : os.Started) (H : Type) (enc : TypeId × Value → H) :
    ReturnsInHanded {} Try.checked os 4 .any (Rows.keysSaySpec.pre6 enc Try.prog Try.f4 Rows.keysSayRow.domain false) (Rows.keysSaySpec.post enc Try.prog Try.f4 false true false false) := by
  refine law_lift (C := Try.checked) (n := 5) own started (by kernel_rfl) Try.func4 L_ok T_ok (show T 4 = some (.code a4) from rfl) laid (by kernel_rfl) rfl Try.underlying4 rfl ?_ law
    (ChangeSpec.witness6 (enc := enc) (C := Try.checked) false ⟨#[], #[.int .i64 0, .bool false, .bool false, .bool false, .slice none 0 0], []⟩ 8 (by kernel_rfl) (by kernel_rfl) (by kernel_rfl) (by kernel_rfl))
  intro H ds hl
  rw [Try.params4] at hl
  match ds, hl with
  | [d1, d2, d3, d4, d5], _ => rfl

theorem over : Rows.keysSayRow.holds Try.pinned (OpenSpec.ofChange Rows.keysSaySpec) :=
  OpenClaim.holds_of_wide 4 Try.f4 rfl rfl rfl rfl rfl rfl rfl ⟨rfl, rfl, rfl, rfl, rfl⟩ rfl rfl rfl rfl rfl (by kernel_rfl) Try.func4 (by kernel_rfl)
    (of_decide_eq_true (by kernel_rfl)) (by unfold Func.isWrapper; first | (rw [if_pos (by decide +kernel)]; kernel_rfl) | (rw [if_neg (by decide +kernel)]; exact ⟨rfl, rfl⟩))
    (fun os started H enc _ => lifted os started H enc)

theorem proved : Rows.KeysSaySaid :=
  over
#print axioms proved
end Go.Proofs.Ytekpbmmhclafiaa.keysSay
